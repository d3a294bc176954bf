/- The laws' own functions: Read. -/
import Derived.Test.YtlppoimdfclbaaaLawMake
set_option linter.unusedVariables false
set_option linter.unusedSimpArgs false
namespace Go.Proofs.Ytlppoimdfclbaaa
open Go.RowKit

/-- Rows that are being gathered. -/
structure OutIn (B : Nat) (p : Nat) (g : Nat → Nat) (w : World) (v : Value) (ls : List (List UInt8)) (xs : List Value) : Prop where
  row : w.ownsRow 0 35 1 v ls.length xs
  new : ∀ k, v.ownBlock = some k → B ≤ k ∧ k ≠ p ∧ g k = k
  el : ∀ i (h : i < ls.length), ∃ a c, xs[i]? = some (.slice a ls[i].length c) ∧ Row w (.slice a ls[i].length c) ls[i] ∧ ∀ k, (Value.slice a ls[i].length c).ownBlock = some k → B ≤ k ∧ k ≠ p ∧ g k = k

section
variable {T F : List Nat} {g g1 : Nat → Nat} {w w1 : World} {p rd rl B : Nat} {t : Tp} {D : Dk} {L : Led} {ls : List (List UInt8)} {ad : Option Addr} {v : Value} {xs : List Value}

theorem ownsRow_keep {base : Nat} {e : TypeId} {size n : Nat} {v : Value} {xs : List Value} (h : w.ownsRow base e size v n xs) (hk : ∀ k, v.ownBlock = some k → w1.heap[k]? = w.heap[k]?) : w1.ownsRow base e size v n xs := by
  refine ⟨h.1, ?_⟩
  rcases h.2 with h' | ⟨gb, cap, cur, rfl, hb, hg, rest⟩
  · exact .inl h'
  · exact .inr ⟨gb, cap, cur, rfl, hb, by rw [hk gb rfl]; exact hg, rest⟩

theorem OutIn.step (h : OutIn B p g w v ls xs) (hs : Step T g g1 w w1) (hT : ∀ r ∈ T, r < B ∨ r = p) : OutIn B p g1 w1 v ls xs := by
  have hn : ∀ k, B ≤ k → k ≠ p → k ∉ T := fun k h1 h2 e => by rcases hT k e with h3 | h3 <;> omega
  refine ⟨ownsRow_keep h.row (fun k hk => ?_), fun k hk => ?_, fun i hi => ?_⟩
  · obtain ⟨h1, h2, h3⟩ := h.new k hk
    exact (hs.keep k (World.ownsRow.lt h.row k hk).2 (by rw [h3]; exact hn k h1 h2)).2
  · obtain ⟨h1, h2, h3⟩ := h.new k hk
    exact ⟨h1, h2, own_step hs (World.ownsRow.lt h.row k hk).2 h3 (hn k h1 h2)⟩
  · obtain ⟨a, c, h1, h2, h3⟩ := h.el i hi
    refine ⟨a, c, h1, h2.step hs (fun k hk => by rw [(h3 k hk).2.2]; exact hn k (h3 k hk).1 (h3 k hk).2.1), fun k hk => ⟨(h3 k hk).1, (h3 k hk).2.1, own_step hs (h2.lt hk) (h3 k hk).2.2 (hn k (h3 k hk).1 (h3 k hk).2.1)⟩⟩

theorem OutIn.br {c : Nat} (h : OutIn B p g w (.slice ad ls.length c) ls xs) (hF : ∀ r ∈ F, r < B ∨ r = p) : BR F g w ad ls := by
  have hn : ∀ k, B ≤ k → k ≠ p → k ∉ F := fun k h1 h2 e => by rcases hF k e with h3 | h3 <;> omega
  refine ⟨fun _ k hk => ?_, fun i hi => ?_⟩
  · have hk' : (Value.slice ad ls.length c).ownBlock = some k := by
      cases ad with
      | none => cases hk
      | some a => exact hk
    obtain ⟨h1, h2, h3⟩ := h.new k hk'
    exact ⟨(World.ownsRow.lt h.row k hk').2, h3, hn k h1 h2⟩
  · obtain ⟨a, ci, h1, h2, h3⟩ := h.el i hi
    rcases h.row.2 with ⟨h', _⟩ | ⟨gb, cap, cur, h', hrest⟩
    · injection h' with e1 e2 e3; omega
    · injection h' with e1 e2 e3
      subst e1
      have hc := World.ownsRow.cellAt h.row i (by omega)
      rw [h1] at hc
      exact ⟨gb, 0, a, ci, rfl, by rw [Nat.zero_add]; exact hc, .inl h2.bytes, fun _ k hk => ⟨(h3 k hk).2.2, hn k (h3 k hk).1 (h3 k hk).2.1⟩⟩

theorem OutIn.append {u : Value} {l : List UInt8} {ad' : Option Addr} {c' n : Nat} (h : OutIn B p g w v ls xs) (hn : n = ls.length + 1) (hu : Row w u l) (hun : ∀ k, u.ownBlock = some k → B ≤ k ∧ k ≠ p ∧ g k = k)
    (hown : w1.ownsRow 0 35 1 (.slice ad' n c') n (xs ++ [u])) (hgr : w.grownBy w1 v.ownBlock)
    (hat : (Value.slice ad' n c').ownBlock = v.ownBlock ∨ (∃ k, (Value.slice ad' n c').ownBlock = some k ∧ w.heap.size ≤ k)) (hg : GWf g w) (hB : B ≤ w.heap.size) (hp : p < w.heap.size) (hxl : xs.length = ls.length) :
    OutIn B p g w1 (.slice ad' n c') (ls ++ [l]) (xs ++ [u]) := by
  subst hn
  have hkeep : ∀ {x : Value} {q : List UInt8}, Row w x q → Row w1 x q := fun {x q} hx => ownsRow_keep hx (fun k hk => hgr.block k (hx.lt hk) (fun e => by
    rcases h.row.2 with ⟨h', _⟩ | ⟨gb, cap, cur, h', _, hg', _⟩
    · rw [h'] at e; cases e
    · rw [h'] at e
      have e' : gb = k := by simpa [Value.ownBlock] using e.symm
      subst e'
      exact ownsRow_ne hx hk hg' (by decide) rfl))
  refine ⟨by rw [List.length_append]; exact hown, fun k hk => ?_, fun i hi => ?_⟩
  · rcases hat with e | ⟨k', e, hk'⟩
    · exact h.new k (by rw [← e]; exact hk)
    · rw [e] at hk; cases hk
      exact ⟨by omega, by omega, hg.2 _ hk'⟩
  · by_cases hi2 : i < ls.length
    · obtain ⟨a, c, h1, h2, h3⟩ := h.el i hi2
      have e : (ls ++ [l])[i] = ls[i] := List.getElem_append_left hi2
      rw [e]
      exact ⟨a, c, by rw [List.getElem?_append_left (by omega)]; exact h1, hkeep h2, h3⟩
    · have hie : i = ls.length := by simp at hi; omega
      subst hie
      have e : (ls ++ [l])[ls.length] = l := by simp
      rw [e]
      obtain ⟨a, c, rfl⟩ := hu.len
      exact ⟨a, c, by rw [← hxl]; simp, hkeep hu, hun⟩

theorem stream_drop {j : Nat} (h : j < ls.length) : (streamOf ls).drop (streamOf (ls.take j)).length = recOf ls[j] ++ streamOf (ls.drop (j + 1)) := by
  have e : streamOf ls = streamOf (ls.take j) ++ (recOf ls[j] ++ streamOf (ls.drop (j + 1))) := by
    unfold streamOf
    have : ls = ls.take j ++ ls[j] :: ls.drop (j + 1) := by rw [← List.drop_eq_getElem_cons h, List.take_append_drop]
    conv => lhs; rw [this]
    simp only [List.map_append, List.map_cons, List.flatten_append, List.flatten_cons]
  rw [e, List.drop_append, List.drop_of_length_le (Nat.le_refl _), List.nil_append, Nat.sub_self, List.drop_zero]

/-- What a tape's reading comes to. -/
def ReadOk (D : Dk) (t : Tp) (ls : List (List UInt8)) (r : Int) (k : Nat) : Prop :=
  k ≤ ls.length ∧ ((r = 0 ∧ k = ls.length) ∨ (r = 16 ∧ D.clean = false) ∨ (r = 18 ∧ (D.clean = false ∨ ∃ i, BadAt D t.pages i))) ∧ ∀ i, BadAt D t.pages i → (streamOf (ls.take k)).length ≤ i * room D

theorem RdSt.bad {R : Rd} {S : List UInt8} {pos i : Nat} (h : RdSt g w p t D R S pos) (hb : BadAt D t.pages i) : pos ≤ i * room D := by
  have h1 : R.page ≤ i := Nat.le_of_not_lt (fun e => h.good i e hb)
  have h2 := Nat.mul_le_mul_right (room D) h1
  have h3 := congrArg List.length h.pos.2
  have h4 := h.pos.1
  rw [List.length_append, List.length_drop, List.length_drop] at h3
  omega

structure ReadIn (g : Nat → Nat) (w : World) (tp rl : Nat) (t : Tp) (D : Dk) (L : Led) (ls : List (List UInt8)) (p : Nat) (wr : World) (g' : Nat → Nat) (R : Rd) (ad : Option Addr) (c j : Nat) (xs : List Value) : Prop where
  new : w.heap.size ≤ p
  plt : p < wr.heap.size
  st : RdSt g' wr p t D R (streamOf ls) (streamOf (ls.take j)).length
  fld : R.tp = tp ∧ R.rl = rl ∧ R.left = (ls.length : Int) - j ∧ R.over = false ∧ R.broken = false
  led : LedgerAt g' wr rl ⟨L.budget, L.held + D.page, max L.high (L.held + D.page)⟩
  out : OutIn w.heap.size p g' wr (.slice ad j c) (ls.take j) xs
  xl : xs.length = j
  step : Step [t.rd, rl] g g' w wr

theorem info_row : (Try.prog.info? 35).map (fun i => (i.zero, i.size, i.bytes)) = some (some (.slice none 0 0), 1, 24) := by kernel_rfl
theorem row_src1 (w : World) (u : Value) : Src (w.alloc (.cells #[u] 35)) 1 (.slice (some ⟨w.heap.size, 0, none⟩) 1 1) 1 [u] :=
  ⟨rfl, .inr ⟨_, _, rfl, cell_one_new _ _ _⟩⟩

def ReadPost (g : Nat → Nat) (w : World) (tp rl : Nat) (t : Tp) (D : Dk) (L : Led) (ls : List (List UInt8)) (e : Ending) (w' : World) : Prop :=
  ∃ g' k ad c r, e = .returned (.tuple #[.slice ad k c, .int .i64 r]) ∧ ReadOk D t ls r k ∧ (∀ F : List Nat, (∀ x ∈ F, x < w.heap.size) → BR F g' w' ad (ls.take k)) ∧ DiskAt g' w' t.rd D ∧ TpAt g' w' tp t ∧ LedgerAt g' w' rl ⟨L.budget, L.held, max L.high (L.held + D.page)⟩ ∧ Step [t.rd, rl] g g' w w'

set_option maxRecDepth 100000 in
set_option maxHeartbeats 4000000 in
theorem law_read {tp : Nat} (hg : GWf g w) (hd : DiskAt g w t.rd D) (hL : LedgerAt g w rl L) (ht : TpAt g w tp t) (hok : PagesOk D t (streamOf ls)) (hcnt : t.count = ls.length) (hn : ls.length ≤ 1000000) (hl : ∀ l ∈ ls, l.length ≤ 1048640) (hS : (streamOf ls).length ≤ 1000000000)
    (hdl : t.rd ≠ rl) (htd : tp ≠ t.rd) (htl : tp ≠ rl) (hroom : (D.page : Int) + L.held ≤ 1099511627776) :
    Calls Try.prog 20 #[.pointer (some ⟨tp, 0, none⟩), .pointer (some ⟨rl, 0, none⟩)] w (ReadPost g w tp rl t D L ls) := by
  have hgH := Lib.hid hg
  have hdH := Lib.hid hd
  have hLH := Lib.hid hL
  have htH := Lib.hid ht
  have hokH := Lib.hid hok
  have hcntH := Lib.hid hcnt
  have htlt := ht.lt
  have hdlt := hd.lt
  have hllt := hL.lt
  have hheld0 := hL.h0
  clear hg hd hL ht hok hcnt
  go_enter Try.func20, Try.ntmps20
  go_wp2_with fail
  refine (tape_open hgH.out hdH.out hLH.out htH.out htl hdl hroom).mono ?_
  rintro e w2 ⟨p, rfl, hp, hrd2, hL2, hs2⟩
  have hpv : RPos (room D) (streamOf ls) ⟨tp, rl, 0, [], t.count, false, false⟩ (streamOf (ls.take 0)).length := ⟨by simp [streamOf], by simp [streamOf]⟩
  have hplt2 : p < w2.heap.size := by obtain ⟨_, h⟩ := hrd2; exact lt_of_block h.blk
  have hin : ReadIn g w tp rl t D L ls p w2 g ⟨tp, rl, 0, [], t.count, false, false⟩ none 0 0 [] :=
    ⟨hp, hplt2, ⟨htH.out.step hs2 (by simp; exact htl), hrd2, hdH.out.step hs2 (by simp; exact hdl), hpv, Nat.zero_le _, fun i hi => by simp at hi⟩, ⟨rfl, rfl, by rw [hcntH.out]; simp, rfl, rfl⟩, hL2, ⟨World.ownsRow_nil _ 0 _ 1, fun k hk => (by cases hk), fun i hi => by simp at hi⟩, rfl, hs2.mono (by simp)⟩
  have hinH := Lib.hid hin
  clear hrd2 hL2 hs2 hin hpv
  go_wp2_with fail
  go_loopw [7, 8] (fun v i wr => ∃ (j : Nat) (g' : Nat → Nat) (R : Rd) (ad : Option Addr) (c : Nat) (xs : List Value), i = .int .i64 j ∧ j ≤ ls.length ∧ v = .slice ad j c ∧ ReadIn g w tp rl t D L ls p wr g' R ad c j xs) (fun _ i _ => ls.length + 1 - (intOf i).toNat)
  case atStart => exact ⟨0, g, _, none, 0, [], rfl, by omega, rfl, hinH.out⟩
  case round =>
    obtain ⟨j, g3, R, ad, c, xs, rfl, hj, rfl, hin3⟩ := hrel
    obtain ⟨hnew, hplt, hst, hfld, hled, hout, hxl, hstep⟩ := hin3
    obtain ⟨rtp, rrl, rpg, rdata, rleft, rov, rbr⟩ := R
    simp only at hfld
    obtain ⟨rfl, rfl, rfl, rfl, rfl⟩ := hfld
    have hpd : p ≠ t.rd := by omega
    have hpl : p ≠ rrl := by omega
    have hpt : p ≠ rtp := by omega
    have hheld : (D.page : Int) ≤ L.held + D.page := by omega
    have hstH := Lib.hid hst
    have hledH := Lib.hid hled
    have houtH := Lib.hid hout
    have hxlH := Lib.hid hxl
    have hstepH := Lib.hid hstep
    clear hst hled hout hxl hstep
    have hjc : (j : Int) ≤ (ls.length : Int) := by omega
    have hwrap : IntKind.i64.wrap ((j : Int) + 1) = (j : Int) + 1 := IntWalk.i64_in _ (by omega)
    go_wp2_with fail
    refine (tape_count hstH.out.tp).mono ?_
    rintro e w' ⟨rfl, rfl⟩
    have htc := hcntH.out
    rw [htc]
    clear htc
    by_cases hjl : j < ls.length
    · obtain ⟨l, hle⟩ : ∃ l, l = ls[j] := ⟨_, rfl⟩
      have hll : l.length ≤ 1048640 := by rw [hle]; exact hl _ (List.getElem_mem _)
      have hdr := stream_drop hjl
      rw [← hle] at hdr
      have hdrH := Lib.hid hdr
      have hleH := Lib.hid hle
      clear hdr hle
      go_wp2_with fail
      refine (rd_next l _ (hstepH.out.wf hgH.out) hstH.out hledH.out hokH.out hpd hpl hpt htd htl hdl hheld rfl rfl (by simp only; omega) (by simp only; omega) hS hll hdrH.out).mono ?_
      rintro e w4 ⟨g4, L4, hout4, hd4, ht4, hL4, hs4⟩
      have hS4 : Step [t.rd, rrl] g g4 w w4 := Step.transNew hgH.out hstepH.out hs4 (fun r hr => by
        simp only [List.mem_cons, List.not_mem_nil, or_false] at hr ⊢
        rcases hr with rfl | rfl | rfl
        · exact .inl (.inl rfl)
        · exact .inl (.inr rfl)
        · exact .inr hnew)
      have hout5 := houtH.out.step hs4 (fun r hr => by
        simp only [List.mem_cons, List.not_mem_nil, or_false] at hr
        rcases hr with rfl | rfl | rfl
        · exact .inl hdlt
        · exact .inl hllt
        · exact .inr rfl)
      have hplt4 := Nat.lt_of_lt_of_le hplt hs4.size
      have hsz4 := hs4.size
      have hd4H := Lib.hid hd4
      have ht4H := Lib.hid ht4
      have hL4H := Lib.hid hL4
      have hS4H := Lib.hid hS4
      have hout5H := Lib.hid hout5
      clear hd4 ht4 hL4 hs4 hS4 hout5
      cases hout4 with
      | err r hr =>
        have hnr : (r == 0) = false := by rw [beq_eq_false_iff_ne]; omega
        have hnr2 : r ≠ 0 := by omega
        have hfin : ReadPost g w rtp rrl t D L ls (.returned (.tuple #[.slice ad j c, .int .i64 r])) w4 := by
          have hL5 := hL4H.out
          simp only [Int.add_sub_cancel] at hL5
          have htl2 : (ls.take j).length = j := by rw [List.length_take]; omega
          refine ⟨g4, j, ad, c, r, rfl, ⟨hj, .inr hr, fun i hb => hstH.out.bad hb⟩, fun F hF => ?_, hd4H.out, ht4H.out, hL5, hS4H.out⟩
          have h := hout5H.out
          exact OutIn.br (ls := ls.take j) (c := c) (by rw [htl2]; exact h) (fun r hr => .inl (hF r hr))
        have hfinH := Lib.hid hfin
        clear hfin hr
        go_wp2_with fail
        go_ret2
        exact hfinH.out
      | ok v R4 hv hk hs hR =>
        obtain ⟨va, vc, rfl⟩ := hv.len
        have hvH := Lib.hid hv
        have hkH := Lib.hid hk
        have hsH := Lib.hid hs
        have hRH := Lib.hid hR
        have htl2 : (ls.take j).length = j := by rw [List.length_take]; omega
        have hrow : w4.ownsRow 0 35 1 (.slice ad j c) j xs := by have h := hout5H.out.row; rw [htl2] at h; exact h
        have hrowH := Lib.hid hrow
        have htl2H := Lib.hid htl2
        clear hv hk hs hR hrow htl2
        go_wp2_with (at_builtin; obtain ⟨i0, hi, hz0, hz1, hz2⟩ := info_parts info_row; refine wpList_app rfl _ _ 22 rfl 35 i0 (.slice none 0 0) 1 24 Try.underlying22 hi hz0 hz1 hz2 rfl (by decide) (.slice ad j c) j xs (by rfl) (hrowH.out.alloc _) (.slice (some ⟨w4.heap.size, 0, none⟩) 1 1) 1 [.slice va l.length vc] (by rfl) (row_src1 w4 _) (fun u hu => by simp at hu; subst hu; rfl) (by omega) (by omega) ?_; clear hi hz0 hz1 hz2; intro ad' c' w5 hown hgrow hnil hat; have hownH := Lib.hid hown; have hgrowH := Lib.hid hgrow; have hatH := Lib.hid hat; clear hown hgrow hnil hat)
        have hnext : ∃ (j' : Nat) (g' : Nat → Nat) (R : Rd) (ad2 : Option Addr) (c2 : Nat) (xs : List Value), (Value.int .i64 ((j : Int) + 1)) = .int .i64 j' ∧ j' ≤ ls.length ∧ Value.slice ad' (j + 1) c' = .slice ad2 j' c2 ∧ ReadIn g w rtp rrl t D L ls p w5 g' R ad2 c2 j' xs := by
          have hg4 := hS4H.out.wf hgH.out
          have htk : ls.take (j + 1) = ls.take j ++ [l] := by rw [List.take_succ_eq_append_getElem hjl, hleH.out]
          have hpos : (streamOf (ls.take j)).length + 4 + l.length = (streamOf (ls.take (j + 1))).length := by
            rw [stream_take_succ hjl, ← hleH.out, List.length_append, recOf, List.length_append, leBytes_length]; omega
          have hsa : Step [] g4 g4 w4 (w4.alloc (.cells #[.slice va l.length vc] 35)) := .alloc _
          have hgr := (World.grownBy_alloc w4 (.cells #[.slice va l.length vc] 35) (Value.slice ad j c).ownBlock).trans hgrowH.out
          obtain ⟨ob, hob⟩ : ∃ ob, ob = (Value.slice ad j c).ownBlock := ⟨_, rfl⟩
          rw [← hob] at hgr
          have hobn : ∀ k, ob = some k → w.heap.size ≤ k ∧ k ≠ p ∧ g4 k = k := fun k hk => hout5H.out.new k (by rw [← hob]; exact hk)
          have hs5 : Step ob.toList g4 g4 w4 w5 :=   .grown hgr (fun k hk => by rw [(hobn k hk).2.2, hk]; simp)
          have hno : ∀ r, (r < w.heap.size ∨ r = p) → r ∉ ob.toList := fun r h1 e => by
            rw [Option.mem_toList] at e
            have := hobn r e; omega
          have hR := hRH.out
          have hs := hsH.out
          rw [hpos] at hs
          refine ⟨j + 1, g4, R4, ad', c', xs ++ [.slice va l.length vc], by simp, hjl, rfl, ⟨hnew, Nat.lt_of_lt_of_le hplt4 hs5.size, hs.step hs5 (hno p (.inr rfl)) (by rw [hR.1]; exact hno _ (.inl htlt)) (hno _ (.inl hdlt)), ⟨hR.1, hR.2.1, by rw [hR.2.2.1]; push_cast; omega, hR.2.2.2.1, hR.2.2.2.2⟩, hL4H.out.step hs5 (hno _ (.inl hllt)), ?_, by simp [hxlH.out], Step.transNew hgH.out hS4H.out hs5 (fun r hr => ?_)⟩⟩
          · rw [htk]
            have h0 : OutIn w.heap.size p g4 (w4.alloc (.cells #[.slice va l.length vc] 35)) (.slice ad j c) (ls.take j) xs := hout5H.out.step hsa (by simp)
            refine h0.append (by rw [htl2H.out]) (hvH.out.step hsa (fun _ _ h => by cases h)) (fun k hk => ?_) hownH.out hgrowH.out ?_ (hsa.wf hg4) (Nat.le_trans hS4H.out.size hsa.size) (Nat.lt_of_lt_of_le hplt4 hsa.size) (by rw [htl2H.out, hxlH.out])
            · have h1 := hkH.out k hk
              have h2 := hstepH.out.size
              exact ⟨by omega, by omega, h1.2⟩
            · rcases hatH.out with e | e
              · exact .inl e
              · exact .inr ⟨_, e, Nat.le_refl _⟩
          · rw [Option.mem_toList] at hr
            exact .inr (hobn r hr).1
        have hnextH := Lib.hid hnext
        clear hnext
        go_wp2_with fail
        exact ⟨hnextH.out, by simp only [intOf]; omega⟩
    · have hje : j = ls.length := by omega
      subst hje
      go_wp2_with fail
      refine (rd_next_end (t := t) hstH.out.disk hledH.out hstH.out.tp hstH.out.rd rfl rfl (by simp) hpd hpl hpt htl hdl hheld).mono ?_
      rintro e w4 ⟨rfl, hL4, hs4⟩
      have hfin : ReadPost g w rtp rrl t D L ls (.returned (.tuple #[.slice ad ls.length c, .int .i64 0])) w4 := by
        have hL5 := hL4
        simp only [Int.add_sub_cancel] at hL5
        have hS4 : Step [t.rd, rrl] g g3 w w4 := Step.transNew hgH.out hstepH.out hs4 (fun r hr => by
          simp only [List.mem_cons, List.not_mem_nil, or_false] at hr ⊢
          rcases hr with rfl | rfl
          · exact .inl (.inr rfl)
          · exact .inr hnew)
        have h := houtH.out.step hs4 (fun r hr => by
          simp only [List.mem_cons, List.not_mem_nil, or_false] at hr
          rcases hr with rfl | rfl
          · exact .inl hllt
          · exact .inr rfl)
        rw [List.take_length] at h
        refine ⟨g3, ls.length, ad, c, 0, rfl, ⟨Nat.le_refl _, .inl ⟨rfl, rfl⟩, fun i hb => hstH.out.bad hb⟩, fun F hF => ?_, hstH.out.disk.step hs4 (by simp; exact ⟨hdl, fun e => hpd e.symm⟩), hstH.out.tp.step hs4 (by simp; exact ⟨htl, fun e => hpt e.symm⟩), hL5, hS4⟩
        rw [List.take_length]
        exact OutIn.br h (fun r hr => .inl (hF r hr))
      have hfinH := Lib.hid hfin
      clear hfin hL4 hs4
      go_wp2_with fail
      go_ret2
      exact hfinH.out
end
end Go.Proofs.Ytlppoimdfclbaaa
