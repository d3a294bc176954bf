/- The laws' own functions: Make. -/
import Derived.Test.YtlppoimdfclbaaaTape13
set_option linter.unusedVariables false
set_option linter.unusedSimpArgs false
namespace Go.Proofs.Ytlppoimdfclbaaa
open Go.RowKit

/-- Rows of bytes: v reads as ls; all their blocks own themselves, and are none of F. -/
structure BR (F : List Nat) (g : Nat → Nat) (w : World) (ad : Option Addr) (ls : List (List UInt8)) : Prop where
  own : ls ≠ [] → ∀ k, (Value.slice ad 0 0).ownBlock = some k → k < w.heap.size ∧ g k = k ∧ k ∉ F
  row : ∀ i (h : i < ls.length), ∃ b o a c, ad = some ⟨b, o, none⟩ ∧ w.cell? ⟨b, o + i, none⟩ = some (.slice a ls[i].length c) ∧ BytesA w (.slice a ls[i].length c) ls[i] ∧ (ls[i] ≠ [] → ∀ k, (Value.slice a ls[i].length c).ownBlock = some k → g k = k ∧ k ∉ F)

section
variable {T F : List Nat} {g g1 : Nat → Nat} {w w1 : World} {p rd rl : Nat} {W : Wr} {pv dv : Value} {D : Dk} {L : Led} {ls : List (List UInt8)} {ad : Option Addr}

theorem BR.step (h : BR F g w ad ls) (hs : Step T g g1 w w1) (hT : ∀ r ∈ T, r ∈ F) : BR F g1 w1 ad ls where
  own := fun hls k hk => by
    obtain ⟨h1, h2, h3⟩ := h.own hls k hk
    exact ⟨hs.lt h1, own_step hs h1 h2 (fun e => h3 (hT _ e)), h3⟩
  row := fun i hi => by
    obtain ⟨b, o, a, c, he, hc, hb, ho⟩ := h.row i hi
    obtain ⟨h1, h2, h3⟩ := h.own (fun e => by subst e; exact absurd hi (by simp)) b (by rw [he]; rfl)
    refine ⟨b, o, a, c, he, ?_, hb.step hs (fun hn k hk e => ?_), fun hn k hk => ⟨own_step hs (hb.lt hn hk) (ho hn k hk).1 (fun e => (ho hn k hk).2 (hT _ e)), (ho hn k hk).2⟩⟩
    · rw [cell_of_blk_eq (hs.keep b h1 (by rw [h2]; exact fun e => h3 (hT _ e))).2]; exact hc
    · rw [(ho hn k hk).1] at e; exact (ho hn k hk).2 (hT _ e)
theorem BR.add (h : BR F g w ad ls) {r : Nat} (hr : w.heap.size ≤ r) : BR (r :: F) g w ad ls where
  own := fun hls k hk => by
    obtain ⟨h1, h2, h3⟩ := h.own hls k hk
    exact ⟨h1, h2, by simp; exact ⟨by omega, h3⟩⟩
  row := fun i hi => by
    obtain ⟨b, o, a, c, he, hc, hb, ho⟩ := h.row i hi
    exact ⟨b, o, a, c, he, hc, hb, fun hn k hk => ⟨(ho hn k hk).1, by simp; exact ⟨by have := hb.lt hn hk; omega, (ho hn k hk).2⟩⟩⟩
theorem BR.mono {F2 : List Nat} (h : BR F g w ad ls) (hF : ∀ r ∈ F2, r ∈ F) : BR F2 g w ad ls where
  own := fun hls k hk => ⟨(h.own hls k hk).1, (h.own hls k hk).2.1, fun e => (h.own hls k hk).2.2 (hF _ e)⟩
  row := fun i hi => by
    obtain ⟨b, o, a, c, he, hc, hb, ho⟩ := h.row i hi
    exact ⟨b, o, a, c, he, hc, hb, fun hn k hk => ⟨(ho hn k hk).1, fun e => (ho hn k hk).2 (hF _ e)⟩⟩

/-- What records are on a tape. -/
def streamOf (ls : List (List UInt8)) : List UInt8 := (ls.map recOf).flatten
theorem stream_take_succ {i : Nat} (h : i < ls.length) : streamOf (ls.take (i + 1)) = streamOf (ls.take i) ++ recOf ls[i] := by
  unfold streamOf
  rw [List.take_succ_eq_append_getElem h, List.map_append, List.flatten_append]
  simp only [List.map_cons, List.map_nil, List.flatten_cons, List.flatten_nil, List.append_nil]
theorem stream_take_le (ls : List (List UInt8)) (i : Nat) : (streamOf (ls.take i)).length ≤ (streamOf ls).length := by
  have h : streamOf ls = streamOf (ls.take i) ++ streamOf (ls.drop i) := by
    unfold streamOf
    rw [← List.flatten_append, ← List.map_append, List.take_append_drop]
  rw [h, List.length_append]; omega

inductive MakeOut (g' : Nat → Nat) (w w' : World) (rd rl : Nat) (D : Dk) (L : Led) (ls : List (List UInt8)) : Ending → Dk → Led → Prop where
  | ok {D' : Dk} (t : Nat) (pages : List Int) (ht : w.heap.size ≤ t) (hl : Laid D' pages (streamOf ls)) (hd : DStep D D' [] pages) (h : TpAt g' w' t ⟨rd, pages, ls.length, false⟩) :
      MakeOut g' w w' rd rl D L ls (.returned (.tuple #[.pointer (some ⟨t, 0, none⟩), .int .i64 0])) D' ⟨L.budget, L.held, max L.high (L.held + D.page)⟩
  | bad {D' : Dk} (r : Int) (hr : r = 16 ∨ r = 17) (hd : DStep D D' [] []) (why : D.clean = true → ∃ k, D.most ≤ D.pages.length + k ∧ k * room D < (streamOf ls).length) :
      MakeOut g' w w' rd rl D L ls (.returned (.tuple #[.pointer none, .int .i64 r])) D' ⟨L.budget, L.held, max L.high (L.held + D.page)⟩

structure MakeIn (g : Nat → Nat) (w : World) (rd rl : Nat) (D : Dk) (L : Led) (ls : List (List UInt8)) (p : Nat) (wr : World) (g' : Nat → Nat) (D' : Dk) (W : Wr) (i : Nat) : Prop where
  new : w.heap.size ≤ p
  wrt : WrAt g' wr p W
  rdE : W.rd = rd
  rlE : W.rl = rl
  over : W.over = false
  count : W.count = i
  inv : WInv D' W (streamOf (ls.take i))
  disk : DiskAt g' wr rd D'
  led : LedgerAt g' wr rl ⟨L.budget, L.held + D.page, max L.high (L.held + D.page)⟩
  dstep : DStep D D' [] W.pages
  step : Step [rd, rl] g g' w wr

set_option maxRecDepth 100000 in
set_option maxHeartbeats 4000000 in
theorem law_make (c : Nat) (hg : GWf g w) (hd : DiskAt g w rd D) (hL : LedgerAt g w rl L) (hdl : rd ≠ rl) (hroom : (D.page : Int) + L.held ≤ 1099511627776) (hb : BR [rd, rl] g w ad ls) (hn : ls.length ≤ 1000000) (hl : ∀ l ∈ ls, l.length ≤ 1048640) :
    Calls Try.prog 27 #[.pointer (some ⟨rd, 0, none⟩), .pointer (some ⟨rl, 0, none⟩), .slice ad ls.length c] w fun e w' => ∃ g' D' L', MakeOut g' w w' rd rl D L ls e D' L' ∧ DiskAt g' w' rd D' ∧ LedgerAt g' w' rl L' ∧ Step [rd, rl] g g' w w' := by
  have hgH := Lib.hid hg
  have hdH := Lib.hid hd
  have hLH := Lib.hid hL
  have hbH := Lib.hid hb
  clear hg hd hL hb
  go_enter Try.func27, Try.ntmps27
  go_wp2_with fail
  refine (tape_create hgH.out hdH.out hLH.out hdl hroom).mono ?_
  rintro e w2 ⟨p, g2, rfl, hp, hw2, hd2, hL2, hs2⟩
  have hin : MakeIn g w rd rl D L ls p w2 g2 D ⟨rd, rl, [], 0, [], false⟩ 0 := ⟨hp, hw2, rfl, rfl, rfl, rfl, ⟨⟨List.nodup_nil, fun n hn => (by cases hn), fun _ => rfl, by simp [streamOf], by simp [streamOf], by simp [streamOf], fun i hi => by simp at hi⟩, fun h => absurd rfl h⟩, hd2, hL2, .refl _ _, hs2.mono (by simp)⟩
  have hinH := Lib.hid hin
  clear hw2 hd2 hL2 hs2 hin
  go_wp2_with fail
  go_loopw [9] (fun i wr => ∃ (j : Nat) (g' : Nat → Nat) (D' : Dk) (W : Wr), i = .int .i64 j ∧ j ≤ ls.length ∧ MakeIn g w rd rl D L ls p wr g' D' W j) (fun i _ => ls.length - (intOf i).toNat)
  case atStart => exact ⟨0, g2, D, _, rfl, by omega, hinH.out⟩
  case round =>
    obtain ⟨j, g3, D3, W3, rfl, hj, hin3⟩ := hrel
    obtain ⟨hp0, hwrt, rfl, rfl, hov, hcnt, hinv, hdisk, hled, hds, hst⟩ := hin3
    have hgr := hst.wf hgH.out
    have hplt := hwrt.lt
    have hpd : p ≠ W3.rd := by have := hdH.out.lt; omega
    have hpl : p ≠ W3.rl := by have := hLH.out.lt; omega
    have hheld : (D3.page : Int) ≤ L.held + D.page := by rw [hds.page]; have := hLH.out.h0; omega
    have hcount := hds.count
    have hpage := hds.page
    have hgrH := Lib.hid hgr
    have hwrtH := Lib.hid hwrt
    have hovH := Lib.hid hov
    have hcntH := Lib.hid hcnt
    have hinvH := Lib.hid hinv
    have hdiskH := Lib.hid hdisk
    have hledH := Lib.hid hled
    have hdsH := Lib.hid hds
    have hstH := Lib.hid hst
    have hcountH := Lib.hid hcount
    have hpageH := Lib.hid hpage
    clear hgr hwrt hov hcnt hinv hdisk hled hds hst hcount hpage
    by_cases hjl : j < ls.length
    · have hjl1 : (j : Int) < (ls.length : Int) := by omega
      obtain ⟨b, o, a, ci, hae, hcell, hby, hap⟩ := ((hbH.out.add hp0).step hstH.out (by simp)).row j hjl
      subst hae
      obtain ⟨l, hle⟩ : ∃ l, l = ls[j] := ⟨_, rfl⟩
      rw [← hle] at hcell hby hap
      have hll : l.length ≤ 1048640 := by rw [hle]; exact hl _ (List.getElem_mem _)
      have hwrap : IntKind.i64.wrap ((j : Int) + 1) = (j : Int) + 1 := IntWalk.i64_in _ (by omega)
      have hleH := Lib.hid hle
      have hbyH := Lib.hid hby
      have hapH := Lib.hid hap
      clear hle hby hap
      go_wp2_with fail
      refine (tape_add (W := W3) (streamOf (ls.take j)) l hgrH.out hdiskH.out hledH.out hwrtH.out hovH.out hpd hpl hdl hinvH.out hheld a ci hll hbyH.out (by rw [hcntH.out]; omega) (by rw [hcntH.out]; omega)).mono ?_
      rintro e w4 ⟨g4, D4, L4, hout, hd4, hL4, hs4⟩
      have hS4 : Step [W3.rd, W3.rl] g g4 w w4 := Step.transNew hgH.out hstH.out hs4 (fun r hr => by
        simp only [List.mem_cons, List.not_mem_nil, or_false] at hr ⊢
        rcases hr with rfl | rfl | rfl
        · exact .inl (.inl rfl)
        · exact .inl (.inr rfl)
        · exact .inr hp0)
      have hsucc := stream_take_succ hjl
      rw [← hleH.out] at hsucc
      have hd4H := Lib.hid hd4
      have hL4H := Lib.hid hL4
      have hS4H := Lib.hid hS4
      have hsuccH := Lib.hid hsucc
      clear hd4 hL4 hs4 hS4 hsucc
      cases hout with
      | @ok _ W4 hw4 hi4 hr4 hds4 =>
        have hnext : ∃ (j' : Nat) (g' : Nat → Nat) (D' : Dk) (W : Wr), (Value.int .i64 ((j : Int) + 1)) = .int .i64 j' ∧ j' ≤ ls.length ∧ MakeIn g w W3.rd W3.rl D L ls p w4 g' D' W j' :=
          ⟨j + 1, g4, D4, W4, by simp, hjl, ⟨hp0, hw4, hr4.1, hr4.2.1, hr4.2.2.2, by rw [hr4.2.2.1, hcntH.out]; simp, by rw [hsuccH.out]; exact hi4, hd4H.out, hL4H.out, hdsH.out.trans hds4, hS4H.out⟩⟩
        have hnextH := Lib.hid hnext
        clear hnext hw4 hi4 hr4 hds4
        go_wp2_with fail
        exact ⟨hnextH.out, by simp only [intOf]; omega⟩
      | bad r hr hds4 ho why =>
        have hnr : (r == 0) = false := by rw [beq_eq_false_iff_ne]; omega
        have hnr2 : r ≠ 0 := by omega
        have hfin : ∃ g' D' L', MakeOut g' w w4 W3.rd W3.rl D L ls (.returned (.tuple #[.pointer none, .int .i64 r])) D' L' ∧ DiskAt g' w4 W3.rd D' ∧ LedgerAt g' w4 W3.rl L' ∧ Step [W3.rd, W3.rl] g g' w w4 := by
          refine ⟨g4, D4, _, .bad r hr (hdsH.out.trans hds4) (fun hc => ?_), hd4H.out, ?_, hS4H.out⟩
          · obtain ⟨k, h1, h2⟩ := why (hdsH.out.clean.trans hc)
            have h3 := hcountH.out
            have h4 := hdsH.out.most
            have h5 := stream_take_le ls (j + 1)
            rw [hsuccH.out] at h5
            have hrr : room D3 = room D := by unfold room; rw [hpageH.out]
            rw [hrr] at h2
            refine ⟨k, ?_, by omega⟩
            simp only [List.length_nil] at h3; omega
          · have h := hL4H.out
            rw [hpageH.out] at h
            simp only [Int.add_sub_cancel] at h
            exact h
        have hfinH := Lib.hid hfin
        clear hfin hr hds4 ho why
        go_wp2_with fail
        go_ret2
        exact hfinH.out
    · have hjl1 : ¬ (j : Int) < (ls.length : Int) := by omega
      have hje : j = ls.length := by omega
      have hjeH := Lib.hid hje
      clear hje
      go_wp2_with fail
      refine (tape_close (W := W3) (streamOf (ls.take j)) hgrH.out hdiskH.out hledH.out hwrtH.out hovH.out hpd hpl hdl hinvH.out hheld).mono ?_
      rintro e w4 ⟨g4, D4, hout, hd4, hL4, ho4, hs4⟩
      have hS4 : Step [W3.rd, W3.rl] g g4 w w4 := Step.transNew hgH.out hstH.out hs4 (fun r hr => by
        simp only [List.mem_cons, List.not_mem_nil, or_false] at hr ⊢
        rcases hr with rfl | rfl | rfl
        · exact .inl (.inl rfl)
        · exact .inl (.inr rfl)
        · exact .inr hp0)
      have htk : ls.take j = ls := by rw [hjeH.out]; exact List.take_length
      have hL5 : LedgerAt g4 w4 W3.rl ⟨L.budget, L.held, max L.high (L.held + D.page)⟩ := by
        have h := hL4
        rw [hpageH.out] at h
        simp only [Int.add_sub_cancel] at h
        exact h
      rw [htk] at hout
      have hfin : ∃ g' D' L', MakeOut g' w w4 W3.rd W3.rl D L ls e D' L' ∧ DiskAt g' w4 W3.rd D' ∧ LedgerAt g' w4 W3.rl L' ∧ Step [W3.rd, W3.rl] g g' w w4 := by
        refine ⟨g4, D4, _, ?_, hd4, hL5, hS4⟩
        cases hout with
        | ok t ht hl2 hds4 htp =>
          have hc : W3.count = (ls.length : Int) := by rw [hcntH.out, hjeH.out]
          rw [hc] at htp
          exact .ok t W3.pages (Nat.le_trans hstH.out.size ht) hl2 (hdsH.out.trans hds4) htp
        | io hc hds4 => exact .bad 16 (.inl rfl) (hdsH.out.trans hds4) (fun h => by have := hdsH.out.clean; rw [hc, h] at this; cases this)
      have hval : ∃ v r, e = .returned (.tuple #[v, .int .i64 r]) := by
        cases hout
        · exact ⟨_, _, rfl⟩
        · exact ⟨_, _, rfl⟩
      obtain ⟨v, r, rfl⟩ := hval
      have hfinH := Lib.hid hfin
      clear hfin hd4 hL4 hL5 ho4 hs4 hS4 hout htk
      go_wp2_with fail
      go_ret2
      exact hfinH.out
end
end Go.Proofs.Ytlppoimdfclbaaa
