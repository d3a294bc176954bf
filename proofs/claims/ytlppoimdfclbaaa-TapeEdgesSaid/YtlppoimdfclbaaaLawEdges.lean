/- TapeEdges: the walk. -/
import Derived.Test.YtlppoimdfclbaaaLawPlan
set_option linter.unusedVariables false
set_option linter.unusedSimpArgs false
namespace Go.Proofs.Ytlppoimdfclbaaa
open Go.RowKit

section
variable {g g1 : Nat → Nat} {w w1 wr : World} {p B : Nat} {ls : List (List UInt8)} {v : Value} {xs : List Value}

theorem OutIn.append2 {u : Value} {l : List UInt8} {ad' : Option Addr} {c' n : Nat} (h : OutIn B p g w v ls xs) (hn : n = ls.length + 2) (hu : Row w u l) (hun : ∀ k, u.ownBlock = some k → B ≤ k ∧ k ≠ p ∧ g k = k)
    (hown : w1.ownsRow 0 35 1 (.slice ad' n c') n (xs ++ [u, .slice none 0 0])) (hgr : w.grownBy w1 v.ownBlock)
    (hat : (Value.slice ad' n c').ownBlock = v.ownBlock ∨ (∃ k, (Value.slice ad' n c').ownBlock = some k ∧ w.heap.size ≤ k)) (hg : GWf g w) (hB : B ≤ w.heap.size) (hp : p < w.heap.size) (hxl : xs.length = ls.length) :
    OutIn B p g w1 (.slice ad' n c') (ls ++ [l, []]) (xs ++ [u, .slice none 0 0]) := by
  subst hn
  have hkeep : ∀ {x : Value} {q : List UInt8}, Row w x q → Row w1 x q := fun {x q} hx => ownsRow_keep hx (fun k hk => hgr.block k (hx.lt hk) (fun e => by
    rcases h.row.2 with ⟨h', _⟩ | ⟨gb, cap, cur, h', _, hg', _⟩
    · rw [h'] at e; cases e
    · rw [h'] at e
      have e' : gb = k := by simpa [Value.ownBlock] using e.symm
      subst e'
      exact ownsRow_ne hx hk hg' (by decide) rfl))
  refine ⟨by rw [List.length_append]; exact hown, fun k hk => ?_, fun i hi => ?_⟩
  · rcases hat with e | ⟨k', e, hk'⟩
    · exact h.new k (by rw [← e]; exact hk)
    · rw [e] at hk; cases hk
      exact ⟨by omega, by omega, hg.2 _ hk'⟩
  · by_cases hi2 : i < ls.length
    · obtain ⟨a, c, h1, h2, h3⟩ := h.el i hi2
      have e : (ls ++ [l, []])[i] = ls[i] := List.getElem_append_left hi2
      rw [e]
      exact ⟨a, c, by rw [List.getElem?_append_left (by omega)]; exact h1, hkeep h2, h3⟩
    · by_cases hi3 : i = ls.length
      · subst hi3
        have e : (ls ++ [l, []])[ls.length] = l := by simp
        rw [e]
        obtain ⟨a, c, rfl⟩ := hu.len
        exact ⟨a, c, by rw [← hxl]; simp, hkeep hu, hun⟩
      · have hi4 : i = ls.length + 1 := by simp at hi; omega
        subst hi4
        have e : (ls ++ [l, []])[ls.length + 1] = [] := by simp
        rw [e]
        exact ⟨none, 0, by rw [← hxl]; simp, Row.nil _, fun k hk => by cases hk⟩

/-- The rows that are built: so many pairs at the most. -/
structure EdgesIn (B p : Nat) (g : Nat → Nat) (wr : World) (size : Nat) (ad : Option Addr) (c n : Nat) (ls : List (List UInt8)) (xs : List Value) (cnt : Nat) : Prop where
  out : OutIn B p g wr (.slice ad n c) ls xs
  len : ls.length = n
  xl : xs.length = n
  few : n ≤ 2 * cnt
  each : ∀ l ∈ ls, l.length ≤ size
  sum : (streamOf ls).length ≤ cnt * (size + 8)

theorem stream_append (a b : List (List UInt8)) : streamOf (a ++ b) = streamOf a ++ streamOf b := by simp [streamOf]
theorem stream_pair (ls : List (List UInt8)) (m : Nat) : (streamOf (ls ++ [List.replicate m 0, []])).length = (streamOf ls).length + 8 + m := by
  rw [stream_append, List.length_append]
  have : (streamOf [List.replicate m (0 : UInt8), []]).length = 8 + m := by
    rw [stream_len]; simp [lenSum]
  omega

theorem EdgesIn.next {size c n cnt m : Nat} {ad ad' : Option Addr} {c' : Nat} {hb : Nat} (h : EdgesIn B p g w size ad c n ls xs cnt) (hm : m ≤ size) (hu : Row w (.slice (some ⟨hb, 0, none⟩) m m) (List.replicate m 0)) (hun : B ≤ hb ∧ hb ≠ p ∧ g hb = hb)
    (hown : w1.ownsRow 0 35 1 (.slice ad' (n + 2) c') (n + 2) (xs ++ [.slice (some ⟨hb, 0, none⟩) m m, .slice none 0 0])) (hgr : w.grownBy w1 (Value.slice ad n c).ownBlock)
    (hat : (Value.slice ad' (n + 2) c').ownBlock = (Value.slice ad n c).ownBlock ∨ (∃ k, (Value.slice ad' (n + 2) c').ownBlock = some k ∧ w.heap.size ≤ k)) (hg : GWf g w) (hB : B ≤ w.heap.size) (hp : p < w.heap.size) :
    EdgesIn B p g w1 size ad' c' (n + 2) (ls ++ [List.replicate m 0, []]) (xs ++ [.slice (some ⟨hb, 0, none⟩) m m, .slice none 0 0]) (cnt + 1) where
  out := h.out.append2 (by rw [h.len]) hu (fun k hk => by cases hk; exact hun) hown hgr hat hg hB hp (by rw [h.xl, h.len])
  len := by simp [h.len]
  xl := by simp [h.xl]
  few := by have := h.few; omega
  each := fun l hl => by
    rw [List.mem_append] at hl
    rcases hl with hl | hl
    · exact h.each l hl
    · simp only [List.mem_cons, List.not_mem_nil, or_false] at hl
      rcases hl with rfl | rfl
      · simpa using hm
      · simp
  sum := by
    rw [stream_pair]
    have := h.sum
    rw [Nat.add_mul, Nat.one_mul]; omega
theorem EdgesIn.more {size c n cnt cnt2 : Nat} {ad : Option Addr} (h : EdgesIn B p g w size ad c n ls xs cnt) (hc : cnt ≤ cnt2) : EdgesIn B p g w size ad c n ls xs cnt2 :=
  { h with
    few := by have := h.few; omega
    sum := Nat.le_trans h.sum (Nat.mul_le_mul_right _ hc) }

theorem EdgesIn.step {T : List Nat} {size c n cnt : Nat} {ad : Option Addr} (h : EdgesIn B p g w size ad c n ls xs cnt) (hs : Step T g g1 w w1) (hT : ∀ r ∈ T, r < B ∨ r = p) : EdgesIn B p g1 w1 size ad c n ls xs cnt :=
  { h with out := h.out.step hs hT }
theorem edges_src (w : World) (o : Obj) (x y : Value) (t : TypeId) : Src ((w.alloc o).alloc (.cells #[x, y] t)) 1 (.slice (some ⟨w.heap.size + 1, 0, none⟩) 2 2) 2 [x, y] := by
  have h := two_cells_new (w.alloc o) x y t
  have e : (w.alloc o).heap.size = w.heap.size + 1 := by simp
  rw [e] at h
  exact ⟨rfl, .inr ⟨_, _, rfl, h⟩⟩
theorem EdgesIn.app {size c n cnt m : Nat} {ad ad' : Option Addr} {c' : Nat} (h : EdgesIn B p g w size ad c n ls xs cnt) (hg : GWf g w) (hB : B ≤ w.heap.size) (hp : p < w.heap.size) (hpB : p < B) (hm : m ≤ size) (hm2 : m ≤ 1000)
    (hb0 : Blk (w.alloc (.cells (byteVals (List.replicate m 0)).toArray 5)) w.heap.size (List.replicate m 0))
    (hown : w1.ownsRow 0 35 1 (.slice ad' (n + 2) c') (n + 2) (xs ++ [.slice (some ⟨w.heap.size, 0, none⟩) m m, .slice none 0 0]))
    (hgr : ((w.alloc (.cells (byteVals (List.replicate m 0)).toArray 5)).alloc (.cells #[.slice (some ⟨w.heap.size, 0, none⟩) m m, .slice none 0 0] 35)).grownBy w1 (Value.slice ad n c).ownBlock)
    (hat : (Value.slice ad' (n + 2) c').ownBlock = (Value.slice ad n c).ownBlock ∨ (Value.slice ad' (n + 2) c').ownBlock = some (((w.alloc (.cells (byteVals (List.replicate m 0)).toArray 5)).alloc (.cells #[.slice (some ⟨w.heap.size, 0, none⟩) m m, .slice none 0 0] 35)).heap.size)) :
    EdgesIn B p g w1 size ad' c' (n + 2) (ls ++ [List.replicate m 0, []]) (xs ++ [.slice (some ⟨w.heap.size, 0, none⟩) m m, .slice none 0 0]) (cnt + 1) ∧ Step [] g g w ((w.alloc (.cells (byteVals (List.replicate m 0)).toArray 5)).alloc (.cells #[.slice (some ⟨w.heap.size, 0, none⟩) m m, .slice none 0 0] 35)) := by
  have hs : Step [] g g w ((w.alloc (.cells (byteVals (List.replicate m 0)).toArray 5)).alloc (.cells #[.slice (some ⟨w.heap.size, 0, none⟩) m m, .slice none 0 0] 35)) := (Step.alloc _).tail (Step.alloc _)
  have hr := hb0.row (by simp [maxLen]; omega)
  rw [List.length_replicate] at hr
  refine ⟨(h.step hs (by simp)).next hm (hr.step (T := []) (g := g) (Step.alloc _) (fun _ _ h => by cases h)) ⟨hB, by omega, hg.2 _ (Nat.le_refl _)⟩ hown hgr ?_ (hs.wf hg) (Nat.le_trans hB hs.size) (Nat.lt_of_lt_of_le hp hs.size), hs⟩
  rcases hat with h | h
  · exact .inl h
  · exact .inr ⟨_, h, Nat.le_refl _⟩

set_option maxRecDepth 100000 in
set_option maxHeartbeats 8000000 in
theorem law_edges (pg n0 n1 n2 : Nat) (hpg : pg < 256) (hn0 : n0 < 256) (hn1 : n1 < 256) (hn2 : n2 < 256) (hg : GWf g w) :
    Calls Try.prog 5 #[.int .u8 pg, .agg #[.int .u8 n0, .int .u8 n1, .int .u8 n2]] w fun e w' => e = .returned (.bool true) ∧ ∃ g', Step [] g g' w w' := by
  have hgH := Lib.hid hg
  clear hg
  go_enter Try.func5, Try.ntmps5
  go_wp2_with fail
  obtain ⟨w0, hw0⟩ : ∃ w0, w0 = w.alloc (.cells #[.int .u8 n0, .int .u8 n1, .int .u8 n2] 56) := ⟨_, rfl⟩
  rw [← hw0]
  have hs0 : Step [] g g w w0 := by rw [hw0]; exact .alloc _
  have hbox : w0.heap[w.heap.size]? = some (.cells #[.int .u8 n0, .int .u8 n1, .int .u8 n2] 56 (0, 0)) := by rw [hw0]; exact heap_alloc_new _ _
  have hg0 := hs0.wf hgH.out
  have hs0H := Lib.hid hs0
  have hboxH := Lib.hid hbox
  have hg0H := Lib.hid hg0
  clear hs0 hbox hw0 hg0
  refine (law_awake hg0H.out).mono ?_
  rintro e w1 ⟨rfl, g1, hs1⟩
  have hbox1H := Lib.hid (hs1.at hboxH.out (by simp))
  have hs1H := Lib.hid (hs0H.out.tail hs1)
  clear hs1
  go_wp2_with fail
  obtain ⟨size, hsize, hval, hs256⟩ : ∃ size : Nat, wrap64 (64 * 2 ^ (pg % 3)) = (size : Int) ∧ ValidPage size ∧ size ≤ 256 := by
    have h : pg % 3 = 0 ∨ pg % 3 = 1 ∨ pg % 3 = 2 := by omega
    rcases h with h | h | h <;> rw [h]
    · exact ⟨64, by unfold wrap64; decide, .inl rfl, by omega⟩
    · exact ⟨128, by unfold wrap64; decide, .inr (.inl rfl), by omega⟩
    · exact ⟨256, by unfold wrap64; decide, .inr (.inr (.inl rfl)), by omega⟩
  rw [hsize]
  have hs64 := hval.lo
  clear hsize
  refine (disk_new size 300 hval (by omega) (hs1H.out.wf hgH.out)).mono ?_
  rintro e w2 ⟨g2, rd, rfl, hrd, hd2, hs2⟩
  have hd2H := Lib.hid hd2
  have hbox2H := Lib.hid (hs2.at hbox1H.out (by simp))
  have hs2H := Lib.hid (hs1H.out.tail hs2)
  have hrd0 : w.heap.size ≤ rd := Nat.le_trans hs1H.out.size hrd
  have hrlt := hd2.lt
  clear hd2 hs2
  go_wp2_with fail
  refine (ledger_new 0 g2 w2 (hs2H.out.wf hgH.out)).mono ?_
  rintro e w3 ⟨rfl, hL3, hs3, hsz3⟩
  have hd3H := Lib.hid (hd2H.out.step hs3 (by simp))
  have hrl0 := hs2H.out.size
  have hL3H := Lib.hid hL3
  have hbox3 := hs3.at hbox2H.out (by simp)
  have hbox3H := Lib.hid hbox3
  have hs3H := Lib.hid (hs2H.out.tail hs3)
  obtain ⟨rl, hrl⟩ : ∃ rl, rl = w2.heap.size := ⟨_, rfl⟩
  rw [← hrl] at hL3H hrl0 hrlt ⊢
  have hne : rd ≠ rl := by omega
  have hrdlt := hd3H.out.lt
  have hrllt := hL3H.out.lt
  have hboxlt := lt_of_block hbox3
  clear hL3 hs3 hrl hsz3 hbox3
  go_wp2_with fail
  go_loopw [9, 10, 11] (fun v s i wr => ∃ (k n c : Nat) (ad : Option Addr) (ls : List (List UInt8)) (xs : List Value), i = .int .i64 k ∧ k ≤ 3 ∧ v = .slice ad n c ∧ s = .int .i64 ((streamOf ls).length : Nat) ∧ EdgesIn w3.heap.size rd g2 wr size ad c n ls xs (3 * k) ∧ Step [] g2 g2 w3 wr) (fun _ _ i _ => 3 - (intOf i).toNat)
  case atStart => exact ⟨0, 0, 0, none, [], [], rfl, by omega, rfl, rfl, ⟨⟨World.ownsRow_nil _ 0 _ 1, fun k hk => (by cases hk), fun i hi => by simp at hi⟩, rfl, rfl, by omega, fun l hl => (by cases hl), by simp [streamOf]⟩, Step.refl _ _ _⟩
  case round =>
    obtain ⟨k, n, c, ad, ls, xs, rfl, hk, rfl, rfl, hin, hst⟩ := hrel
    obtain ⟨wo, rfl⟩ : ∃ wo : World, wo = wr := ⟨_, rfl⟩
    by_cases hk3 : k < 3
    · have hk31 : (k : Int) < 3 := by omega
      have hinH := Lib.hid hin
      have hstH := Lib.hid hst
      clear hin hst
      obtain ⟨nk, hnk, hnk256⟩ : ∃ nk : Nat, (#[Value.int .u8 n0, Value.int .u8 n1, Value.int .u8 n2] : Array Value)[k]? = some (.int .u8 nk) ∧ nk < 256 := by
        have h : k = 0 ∨ k = 1 ∨ k = 2 := by omega
        rcases h with rfl | rfl | rfl
        · exact ⟨n0, rfl, hn0⟩
        · exact ⟨n1, rfl, hn1⟩
        · exact ⟨n2, rfl, hn2⟩
      have hnkH := Lib.hid hnk
      clear hnk
      have hk30 : (0 : Int) ≤ (k : Int) := by omega
      go_wp2_with fail
      go_loopw [9, 10, 12] (fun v s t wr => ∃ (q n c : Nat) (ad : Option Addr) (ls : List (List UInt8)) (xs : List Value), t = .int .i64 q ∧ q ≤ 3 ∧ v = .slice ad n c ∧ s = .int .i64 ((streamOf ls).length : Nat) ∧ EdgesIn w3.heap.size rd g2 wr size ad c n ls xs (3 * k + q) ∧ Step [] g2 g2 w3 wr) (fun _ _ t _ => 4 - (intOf t).toNat)
      case atStart => exact ⟨0, n, c, ad, ls, xs, rfl, by omega, rfl, rfl, hinH.out, hstH.out⟩
      case round =>
        obtain ⟨q, n5, c5, ad5, ls5, xs5, rfl, hq, rfl, rfl, hin5, hst5⟩ := hrel
        obtain ⟨S, hS⟩ : ∃ S, S = (streamOf ls5).length := ⟨_, rfl⟩
        have hSb : S ≤ 2400 := by
          have h1 := hin5.sum
          have h2 : (3 * k + q) * (size + 8) ≤ 9 * 264 := Nat.mul_le_mul (by omega) (by omega)
          omega
        have hnb : n5 ≤ 18 := by have := hin5.few; omega
        rw [← hS]
        have kbox : wr.cell? ⟨w.heap.size, k, none⟩ = some (.int .u8 nk) := cell_blk (hst5.at hbox3H.out (by simp)) hnkH.out
        have hin5H := Lib.hid hin5
        have hst5H := Lib.hid hst5
        have hSH := Lib.hid hS
        clear hin5 hst5 hS
        by_cases hqn : q < nk % 4
        · have hqn1 : (q : Int) < (nk : Int) % 4 := by omega
          have hwrap : IntKind.i64.wrap ((q : Int) + 1) = (q : Int) + 1 := IntWalk.i64_in _ (by omega)
          obtain ⟨M, hM⟩ : ∃ M : Nat, (M : Int) = (size : Int) - 10 - ((S : Int) + 4) % ((size : Int) - 10) + (k : Int) - 1 := by
            have h1 := Int.emod_lt_of_pos ((S : Int) + 4) (by omega : (0 : Int) < (size : Int) - 10)
            exact ⟨((size : Int) - 10 - ((S : Int) + 4) % ((size : Int) - 10) + (k : Int) - 1).toNat, by omega⟩
          have hMb : M ≤ size := by
            have h1 := Int.emod_nonneg ((S : Int) + 4) (by omega : (size : Int) - 10 ≠ 0)
            omega
          have hm1 := Int.emod_lt_of_pos ((S : Int) + 4) (by omega : (0 : Int) < (size : Int) - 10)
          have hm0 := Int.emod_nonneg ((S : Int) + 4) (by omega : (size : Int) - 10 ≠ 0)
          have hM2 : (size : Int) - 10 - ((S : Int) + 4) % ((size : Int) - 10) + (k : Int) - 1 = (M : Int) := hM.symm
          clear hM
          have hrow : wr.ownsRow 0 35 1 (.slice ad5 n5 c5) n5 xs5 := by
            have h := hin5H.out.out.row
            rw [hin5H.out.len] at h
            exact h
          have hrowH := Lib.hid hrow
          clear hrow
          go_wp2_with (first | ((with_reducible refine wpList_make_bytes rfl _ _ rfl M rfl rfl (by omega) ?_); intro hb0; have hb0H := Lib.hid hb0; clear hb0) | (at_builtin; obtain ⟨i0, hi, hz0, hz1, hz2⟩ := info_parts info_row; refine wpList_app rfl _ _ 22 rfl 35 i0 (.slice none 0 0) 1 24 Try.underlying22 hi hz0 hz1 hz2 rfl (by decide) (.slice ad5 n5 c5) n5 xs5 (by rfl) (by exact (hrowH.out.alloc _).alloc _) (.slice (some ⟨wr.heap.size + 1, 0, none⟩) 2 2) 2 [.slice (some ⟨wr.heap.size, 0, none⟩) M M, .slice none 0 0] (by rfl) (by exact edges_src _ _ _ _ _) (fun u hu => by simp at hu; rcases hu with rfl | rfl <;> rfl) (by omega) (by omega) ?_; clear hi hz0 hz1 hz2; intro ad' c' w5 hown hgrow hnil hat; have hownH := Lib.hid hown; have hgrowH := Lib.hid hgrow; have hatH := Lib.hid hat; clear hown hgrow hnil hat))
          have hgr3 := hs3H.out.wf hgH.out
          have hgwr := hst5H.out.wf hgr3
          obtain ⟨hnx, hsx⟩ := hin5H.out.app hgwr hst5H.out.size (Nat.lt_of_lt_of_le hrdlt hst5H.out.size) hrdlt hMb (by omega) hb0H.out hownH.out hgrowH.out hatH.out
          obtain ⟨ob, hob⟩ : ∃ ob, ob = (Value.slice ad5 n5 c5).ownBlock := ⟨_, rfl⟩
          have hgo := hgrowH.out
          rw [← hob] at hgo
          have hobn : ∀ x, ob = some x → w3.heap.size ≤ x ∧ g2 x = x := fun x hx => by
            have := hin5H.out.out.new x (by rw [← hob]; exact hx)
            exact ⟨this.1, this.2.2⟩
          have hs5 : Step ob.toList g2 g2 ((wr.alloc (.cells (byteVals (List.replicate M 0)).toArray 5)).alloc (.cells #[.slice (some ⟨wr.heap.size, 0, none⟩) M M, .slice none 0 0] 35)) w5 := .grown hgo (fun x hx => by rw [(hobn x hx).2, hx]; simp)
          have hS5 : Step [] g2 g2 w3 w5 := Step.transNew hgr3 (hst5H.out.tail hsx) hs5 (fun x hx => by
            rw [Option.mem_toList] at hx
            exact .inr (hobn x hx).1)
          refine ⟨⟨q + 1, n5 + 2, c', ad', ls5 ++ [List.replicate M 0, []], _, by simp, by omega, rfl, ?_, hnx, hS5⟩, by simp only [intOf]; omega⟩
          rw [stream_pair, ← hSH.out]
          simp
        · have hqn1 : ¬ (q : Int) < (nk : Int) % 4 := by omega
          go_wp2_with fail
          exact ⟨⟨k + 1, n5, c5, ad5, ls5, xs5, by simp, by omega, rfl, by rw [hSH.out], hin5H.out.more (by omega), hst5H.out⟩, by simp only [intOf]; omega⟩
    · have hk31 : ¬ (k : Int) < 3 := by omega
      have hlen := hin.len
      subst hlen
      have hbr : BR [rd, rl] g2 wo ad ls := OutIn.br hin.out (fun r hr => by
        simp only [List.mem_cons, List.not_mem_nil, or_false] at hr
        rcases hr with rfl | rfl
        · exact .inl hrdlt
        · exact .inl hrllt)
      have hSb : (streamOf ls).length ≤ 2400 := by
        have h1 := hin.sum
        have h2 : (3 * k) * (size + 8) ≤ 9 * 264 := Nat.mul_le_mul (by omega) (by omega)
        omega
      have hlb : ls.length ≤ 18 := by have := hin.few; omega
      have heach : ∀ l ∈ ls, l.length ≤ 256 := fun l hl => by have := hin.each l hl; omega
      have hS3 := hs3H.out.tail hst
      have hbrH := Lib.hid hbr
      have heachH := Lib.hid heach
      have hd4H := Lib.hid (hd3H.out.step hst (by simp))
      have hL4H := Lib.hid (hL3H.out.step hst (by simp))
      have hS4H := Lib.hid hS3
      have hwo := hst.size
      clear hin hbr heach hS3 hst
      have hin2 : ∀ x ∈ [rd, rl], x ∈ ([] : List Nat) ∨ w.heap.size ≤ x := fun x hx => by
        simp only [List.mem_cons, List.not_mem_nil, or_false] at hx
        rcases hx with rfl | rfl
        · exact .inr hrd0
        · exact .inr hrl0
      have hin2H := Lib.hid hin2
      clear hin2
      go_wp2_with fail
      refine (law_make_good (c := c) (hS4H.out.wf hgH.out) hd4H.out hL4H.out hne (by simp only; omega) hbrH.out (by omega) (fun l hm => by have := heachH.out l hm; omega) rfl (fun k hk => ?_)).mono ?_
      · have hr : 54 ≤ room ⟨size, 300, [], true, 0⟩ := by unfold room; simp only; omega
        have := Nat.mul_le_mul_left k hr
        simp only [List.length_nil]; omega
      rintro e w5 ⟨g5, D5, t, pages, rfl, ht, hlaid, hds5, htp5, hd5, hL5, hs5⟩
      have hS5 := Step.transNew hgH.out hS4H.out hs5 hin2H.out
      have hnin : w.heap.size ≤ t := by have := hS4H.out.size; omega
      have htrd : t ≠ rd := by have := hd4H.out.lt; omega
      have htrl : t ≠ rl := by have := hL4H.out.lt; omega
      have hpg5 : D5.page = size := hds5.page
      have hcl5 : D5.clean = true := hds5.clean
      have hcnt5 : D5.pages.length = pages.length := by have := hds5.count; simp only [List.length_nil] at this; omega
      have hbr5H := Lib.hid (hbrH.out.step hs5 (by simp))
      have hlaidH := Lib.hid hlaid
      have htp5H := Lib.hid htp5
      have hd5H := Lib.hid hd5
      have hL5H := Lib.hid hL5
      have hS5H := Lib.hid hS5
      have hpg5H := Lib.hid hpg5
      have hcl5H := Lib.hid hcl5
      have hcnt5H := Lib.hid hcnt5
      clear hlaid hds5 htp5 hd5 hL5 hs5 hS5 hpg5 hcl5 hcnt5
      go_wp2_with fail
      refine (law_read_good (ls := ls) (t := ⟨rd, pages, ls.length, false⟩) (hS5H.out.wf hgH.out) hd5H.out hL5H.out htp5H.out hlaidH.out hcl5H.out rfl (by omega) (fun l hm => by have := heachH.out l hm; omega) (by omega) hne htrd htrl (by rw [hpg5H.out]; simp only; omega)).mono ?_
      rintro e w6 ⟨g6, xa, xc, rfl, hx6, hd6, ht6, hL6, hs6⟩
      have hS6 := Step.transNew hgH.out hS5H.out hs6 hin2H.out
      have hx6H := Lib.hid (hx6 [] (fun x hx => by cases hx))
      have hbr6H := Lib.hid (hbr5H.out.step hs6 (by simp))
      have hd6H := Lib.hid hd6
      have ht6H := Lib.hid ht6
      have hS6H := Lib.hid hS6
      clear hx6 hd6 ht6 hL6 hs6 hS6
      go_wp2_with fail
      refine (law_same_true xc c hx6H.out hbr6H.out (by omega)).mono ?_
      rintro e w7 ⟨rfl, n7, rfl⟩
      obtain ⟨W, hW⟩ : ∃ W, W = w6.drewN n7 := ⟨_, rfl⟩
      rw [← hW]
      have hs7 : Step [] g6 g6 w6 W := by rw [hW]; exact Step.drewN _ n7
      have hd7H := Lib.hid (hd6H.out.step hs7 (by simp))
      have ht7H := Lib.hid (ht6H.out.step hs7 (by simp))
      have hbr7H := Lib.hid (hbr6H.out.step hs7 (by simp))
      have hS7H := Lib.hid (hS6H.out.tail hs7)
      clear hs7 hW
      go_wp2_with fail
      refine (tape_pages ht7H.out).mono ?_
      rintro e w8 ⟨v8, rfl, hv8, hg8, _⟩
      obtain ⟨a8, c8, rfl⟩ := hv8.len
      have hs8 : Step [] g6 g6 W w8 := .grown hg8 (fun _ h => by cases h)
      have hd8H := Lib.hid (hd7H.out.step hs8 (by simp))
      have ht8H := Lib.hid (ht7H.out.step hs8 (by simp))
      have hbr8H := Lib.hid (hbr7H.out.step hs8 (by simp))
      have hS8H := Lib.hid (hS7H.out.tail hs8)
      clear hv8 hg8 hs8
      simp only
      go_wp2_with fail
      have hneed := hlaidH.out.need (by rw [hpg5H.out]; exact hs64)
      rw [hpg5H.out] at hneed
      have hneedH := Lib.hid hneed
      clear hneed
      have hlsum : lenSum ls ≤ 100000000 := by have := stream_len ls; omega
      refine (law_need size c hbr8H.out (by omega) hlsum hs64 (by omega)).mono ?_
      rintro e w' ⟨rfl, rfl⟩
      rw [← hneedH.out]
      go_wp2_with fail
      refine (tape_drop (hS8H.out.wf hgH.out) hd8H.out ht8H.out rfl htrd hlaidH.out.nodup (fun n hn => by
        obtain ⟨i, hi, rfl⟩ := List.getElem_of_mem hn
        exact ⟨_, hlaidH.out.lie i hi⟩)).mono ?_
      rintro e w9 ⟨rfl, g9, D9, hd9, hds9, ht9, hs9⟩
      have hS9 : Step [] g g9 w w9 := Step.transNew hgH.out hS8H.out hs9 (fun x hx => by
        simp only [List.mem_cons, List.not_mem_nil, or_false] at hx
        rcases hx with rfl | rfl
        · exact .inr hrd0
        · exact .inr hnin)
      have hlive : D9.pages.length = 0 := by
        have h1 := hds9.count
        have h2 := hcnt5H.out
        simp only [List.length_nil] at h1; omega
      have hd9H := Lib.hid hd9
      have hS9H := Lib.hid hS9
      have hliveH := Lib.hid hlive
      clear hd9 hds9 ht9 hs9 hS9 hlive
      go_wp2_with fail
      refine (disk_live hd9H.out).mono ?_
      rintro e w' ⟨rfl, rfl⟩
      rw [hliveH.out]
      go_wp2_with fail
      go_ret
      exact ⟨rfl, g9, hS9H.out⟩
end
end Go.Proofs.Ytlppoimdfclbaaa
