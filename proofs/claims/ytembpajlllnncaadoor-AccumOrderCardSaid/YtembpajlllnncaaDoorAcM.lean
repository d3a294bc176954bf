/- Accumulators: numbers: Of, Add. -/
import Derived.Test.YtembpajlllnncaaDoorAcN
import Derived.Test.YtembpajlllnncaaDoorBsE2
set_option linter.unusedVariables false
set_option linter.unusedSimpArgs false
namespace Go.Proofs.YtembpajlllnncaaDoor
open Go.RowKit

/-- The kind of a number as a value. -/
def kindI (n : Int) : Int := if -2147483648 ≤ n ∧ n ≤ 2147483647 then 3 else 4
theorem ofI_eq (n : Int) : ofI n = .mk (kindI n) n [] [] [] [] := by unfold ofI kindI; split <;> rfl
/-- A number goes into 64 bits. -/
def inR (n : Int) : Prop := -9223372036854775808 ≤ n ∧ n ≤ 9223372036854775807
instance (n : Int) : Decidable (inR n) := by unfold inR; infer_instance
theorem results_v {fn : Func} {tmps : Array Value} {w : World} {S V : Nat} {v0 v1 v2 v3 v4 v5 : Value} {t : TypeId} (hfn : fn.results = #[.cell S 32]) (ht : tmps.getD S undef = .pointer (some ⟨V, 0, none⟩)) (hb : w.heap[V]? = some (.cells #[v0, v1, v2, v3, v4, v5] t (0, 0))) :
    (results fn tmps).run Tryd.prog w = .ok (.agg #[v0, v1, v2, v3, v4, v5]) w := by
  have p0 := cell_blk hb (i := 0) rfl
  have p1 := cell_blk hb (i := 1) rfl
  have p2 := cell_blk hb (i := 2) rfl
  have p3 := cell_blk hb (i := 3) rfl
  have p4 := cell_blk hb (i := 4) rfl
  have p5 := cell_blk hb (i := 5) rfl
  simp at p0 p1 p2 p3 p4 p5
  have ht' : tmps[S]?.getD undef = .pointer (some ⟨V, 0, none⟩) := by simpa using ht
  simp [results, hfn, ht', go_sem, p0, p1, p2, p3, p4, p5]
theorem results_v2 {fn : Func} {tmps : Array Value} {w : World} {S Q V : Nat} {x v0 v1 v2 v3 v4 v5 : Value} {t : TypeId} (hfn : fn.results = #[.cell S 32, .tmp Q]) (ht : tmps.getD S undef = .pointer (some ⟨V, 0, none⟩)) (hq : tmps.getD Q undef = x) (hb : w.heap[V]? = some (.cells #[v0, v1, v2, v3, v4, v5] t (0, 0))) :
    (results fn tmps).run Tryd.prog w = .ok (.tuple #[.agg #[v0, v1, v2, v3, v4, v5], x]) w := by
  have p0 := cell_blk hb (i := 0) rfl
  have p1 := cell_blk hb (i := 1) rfl
  have p2 := cell_blk hb (i := 2) rfl
  have p3 := cell_blk hb (i := 3) rfl
  have p4 := cell_blk hb (i := 4) rfl
  have p5 := cell_blk hb (i := 5) rfl
  simp at p0 p1 p2 p3 p4 p5
  have ht' : tmps[S]?.getD undef = .pointer (some ⟨V, 0, none⟩) := by simpa using ht
  have hq' : tmps[Q]?.getD undef = x := by simpa using hq
  simp [results, hfn, ht', hq', go_sem, p0, p1, p2, p3, p4, p5]
set_option maxRecDepth 100000 in
set_option maxHeartbeats 2000000 in
theorem num_of (n : Int) (w : World) (hn : inR n) : Calls Tryd.prog 17 #[.int .i64 n] w fun e w' => e = .returned (.agg #[.int .i64 (kindI n), .int .i64 n, (.string ⟨#[]⟩), (.slice none 0 0), (.slice none 0 0), (.slice none 0 0)]) ∧ Step [] id id w w' := by
  unfold kindI
  by_cases h : -2147483648 ≤ n ∧ n ≤ 2147483647
  · rw [if_pos h]
    have h2 : wrap64 (wrap32 n) = n := by rw [IntWalk.wrap32_in n h]; exact IntWalk.wrap64_in n hn
    have h3 : (n == wrap64 (wrap32 n)) = true := by rw [h2]; simp
    clear h2
    go_enter Tryd.func17, Tryd.ntmps17
    go_wp2_with fail
    have hvb := heap_alloc_new w (.cells #[.int .i64 3, .int .i64 n, (.string ⟨#[]⟩), (.slice none 0 0), (.slice none 0 0), (.slice none 0 0)] 32)
    exact bodyPost_ret (results_v rfl rfl hvb) rfl ⟨rfl, Step.alloc _⟩
  · rw [if_neg h]
    have h2 : wrap64 (wrap32 n) ≠ n := by
      intro e
      have : -2147483648 ≤ wrap32 n ∧ wrap32 n ≤ 2147483647 := by unfold wrap32; omega
      rw [IntWalk.wrap64_in _ (by omega)] at e
      rw [e] at this
      exact h this
    have h3 : (n == wrap64 (wrap32 n)) = false := by rw [beq_eq_false_iff_ne]; exact fun e => h2 e.symm
    clear h2
    go_enter Tryd.func17, Tryd.ntmps17
    go_wp2_with fail
    have hvb := heap_alloc_new w (.cells #[.int .i64 4, .int .i64 n, (.string ⟨#[]⟩), (.slice none 0 0), (.slice none 0 0), (.slice none 0 0)] 32)
    exact bodyPost_ret (results_v rfl rfl hvb) rfl ⟨rfl, Step.alloc _⟩
set_option maxRecDepth 100000 in
set_option maxHeartbeats 2000000 in
theorem num_within (n : Int) (b : Bool) (w : World) : Calls Tryd.prog 56 #[.int .i64 n, .bool b] w fun e w' => e = .returned (.tuple #[.int .i64 (if b then n else 0), .int .i64 (if b then 0 else 10)]) ∧ w = w' := by
  cases b
  · go_enter Tryd.func56, Tryd.ntmps56
    go_wp2_with fail
    go_ret2
    exact ⟨rfl, rfl⟩
  · go_enter Tryd.func56, Tryd.ntmps56
    go_wp2_with fail
    go_ret2
    exact ⟨rfl, rfl⟩
theorem add_fits {x y : Int} (hx : inR x) (hy : inR y) : (decide (x < wrap64 (x + y)) == decide (0 < y)) = decide (inR (x + y)) := by
  obtain ⟨x0, x1⟩ := hx
  obtain ⟨y0, y1⟩ := hy
  by_cases hr : inR (x + y)
  · rw [decide_eq_true hr, IntWalk.wrap64_in _ hr, beq_iff_eq, decide_eq_decide]
    omega
  · rw [decide_eq_false hr, beq_eq_false_iff_ne]
    intro h
    rw [decide_eq_decide] at h
    have hc : 9223372036854775807 < x + y ∨ x + y < -9223372036854775808 := by
      rcases Classical.em (-9223372036854775808 ≤ x + y) with h1 | h1
      · exact .inl (by rcases Classical.em (x + y ≤ 9223372036854775807) with h2 | h2; exact absurd ⟨h1, h2⟩ hr; omega)
      · exact .inr (by omega)
    rcases hc with hc | hc
    · have e : wrap64 (x + y) = x + y - 18446744073709551616 := by unfold wrap64; omega
      rw [e] at h
      have := h.2 (by omega)
      omega
    · have e : wrap64 (x + y) = x + y + 18446744073709551616 := by unfold wrap64; omega
      rw [e] at h
      have := h.1 (by omega)
      omega
set_option maxRecDepth 100000 in
set_option maxHeartbeats 2000000 in
theorem num_add1 (x y : Int) (w : World) (hx : inR x) (hy : inR y) : Calls Tryd.prog 40 #[.int .i64 x, .int .i64 y] w fun e w' => e = .returned (.tuple #[.int .i64 (if inR (x + y) then x + y else 0), .int .i64 (if inR (x + y) then 0 else 10)]) ∧ w = w' := by
  have hf := add_fits hx hy
  obtain ⟨r, hr⟩ : ∃ r, r = decide (inR (x + y)) := ⟨_, rfl⟩
  rw [← hr] at hf
  have hfH := Lib.hid hf
  have hrH := Lib.hid hr
  clear hf hr
  have hres : (if inR (x + y) then x + y else 0) = (if r then wrap64 (x + y) else 0) ∧ (if inR (x + y) then (0 : Int) else 10) = (if r then 0 else 10) := by
    rw [hrH.out]
    by_cases h : inR (x + y)
    · simp only [h, if_true, decide_true]
      exact ⟨(IntWalk.wrap64_in _ h).symm, trivial⟩
    · simp [h]
  rw [hres.1, hres.2]
  clear hres
  go_enter Tryd.func40, Tryd.ntmps40
  go_wp2_with fail
  rw [hfH.out]
  refine (num_within _ _ _).mono ?_
  rintro e w' ⟨rfl, rfl⟩
  cases r
  · go_wp2_with fail
    go_ret2
    exact ⟨rfl, rfl⟩
  · go_wp2_with fail
    go_ret2
    exact ⟨rfl, rfl⟩
set_option maxRecDepth 100000 in
set_option maxHeartbeats 2000000 in
theorem num_none {k n : Int} {s b f l : Value} (w : World) (hk : k = 3 ∨ k = 4) : Calls Tryd.prog 54 #[.agg #[.int .i64 k, .int .i64 n, s, b, f, l]] w fun e w' => e = .returned (.bool false) ∧ Step [] id id w w' := by
  by_cases h : k = 3
  · subst h; go_enter Tryd.func54, Tryd.ntmps54; go_wp2; go_ret; exact ⟨rfl, Step.alloc _⟩
  · obtain rfl : k = 4 := by omega
    go_enter Tryd.func54, Tryd.ntmps54; go_wp2; go_ret; exact ⟨rfl, Step.alloc _⟩
set_option maxRecDepth 100000 in
set_option maxHeartbeats 2000000 in
theorem num_number {k n : Int} {s b f l : Value} (w : World) (hk : k = 3 ∨ k = 4) : Calls Tryd.prog 55 #[.agg #[.int .i64 k, .int .i64 n, s, b, f, l]] w fun e w' => e = .returned (.bool true) ∧ Step [] id id w w' := by
  by_cases h : k = 3
  · subst h; go_enter Tryd.func55, Tryd.ntmps55; go_wp2; go_ret; exact ⟨rfl, Step.alloc _⟩
  · obtain rfl : k = 4 := by omega
    go_enter Tryd.func55, Tryd.ntmps55; go_wp2; go_ret; exact ⟨rfl, Step.alloc _⟩
/-- A sum as a value. -/
def sumC (k1 n1 k2 n2 : Int) : Array Value := if inR (n1 + n2) then #[.int .i64 (if k1 = 4 ∨ k2 = 4 then 4 else kindI (n1 + n2)), .int .i64 (n1 + n2), (.string ⟨#[]⟩), (.slice none 0 0), (.slice none 0 0), (.slice none 0 0)] else #[.int .i64 0, .int .i64 0, (.string ⟨#[]⟩), (.slice none 0 0), (.slice none 0 0), (.slice none 0 0)]
def SumP (k1 n1 k2 n2 : Int) (w : World) (e : Ending) (w' : World) : Prop := e = .returned (.tuple #[.agg (sumC k1 n1 k2 n2), .int .i64 (if inR (n1 + n2) then 0 else 10)]) ∧ Step [] id id w w'
theorem cells6A {w : World} {V : Nat} {v0 v1 v2 v3 v4 v5 : Value} {t : TypeId} (h : w.heap[V]? = some (.cells #[v0, v1, v2, v3, v4, v5] t (0, 0))) :
    w.cell? ⟨V, 0, none⟩ = some v0 ∧ w.cell? ⟨V, 1, none⟩ = some v1 ∧ w.cell? ⟨V, 2, none⟩ = some v2 ∧ w.cell? ⟨V, 3, none⟩ = some v3 ∧ w.cell? ⟨V, 4, none⟩ = some v4 ∧ w.cell? ⟨V, 5, none⟩ = some v5 :=
  ⟨cell_blk h (i := 0) rfl, cell_blk h (i := 1) rfl, cell_blk h (i := 2) rfl, cell_blk h (i := 3) rfl, cell_blk h (i := 4) rfl, cell_blk h (i := 5) rfl⟩
set_option maxRecDepth 100000 in
set_option maxHeartbeats 4000000 in
theorem num_reckoned {k1 n1 k2 n2 : Int} {s1 b1 f1 l1 s2 b2 f2 l2 : Value} (w : World) (h1 : k1 = 3 ∨ k1 = 4) (h2 : k2 = 3 ∨ k2 = 4) (hx : inR n1) (hy : inR n2) :
    Calls Tryd.prog 39 #[.agg #[.int .i64 k1, .int .i64 n1, s1, b1, f1, l1], .agg #[.int .i64 k2, .int .i64 n2, s2, b2, f2, l2], .func (.func 40) #[] #[]] w (SumP k1 n1 k2 n2 w) := by
  have hcf : ∀ (args : Array Value) (w : World), (callFunc 40 args).run Tryd.prog w = .ok (.enter 40 args) w := fun _ _ => by kernel_rfl
  obtain ⟨W3, hW3⟩ : ∃ W3, W3 = ((w.alloc (.cells #[.int .i64 k1, .int .i64 n1, s1, b1, f1, l1] 32)).alloc (.cells #[.int .i64 k2, .int .i64 n2, s2, b2, f2, l2] 32)).alloc (.cells #[.int .i64 0, .int .i64 0, (.string ⟨#[]⟩), (.slice none 0 0), (.slice none 0 0), (.slice none 0 0)] 32) := ⟨_, rfl⟩
  have hW3H := Lib.hid hW3
  go_enter Tryd.func39, Tryd.ntmps39
  go_wp2_with fail
  rw [← hW3H.out]
  have hA : Step [] id id w W3 := by rw [hW3]; exact ((Step.alloc _).tail (Step.alloc _)).tail (Step.alloc _)
  have hb0 : W3.heap[w.heap.size]? = some (.cells #[.int .i64 k1, .int .i64 n1, s1, b1, f1, l1] 32 (0, 0)) := by rw [hW3]; exact alloc_old (alloc_old (heap_alloc_new w _))
  have hb1 : W3.heap[w.heap.size + 1]? = some (.cells #[.int .i64 k2, .int .i64 n2, s2, b2, f2, l2] 32 (0, 0)) := by
    rw [hW3]; refine alloc_old ?_
    have := heap_alloc_new (w.alloc (.cells #[.int .i64 k1, .int .i64 n1, s1, b1, f1, l1] 32)) (.cells #[.int .i64 k2, .int .i64 n2, s2, b2, f2, l2] 32)
    rwa [show (w.alloc (.cells #[.int .i64 k1, .int .i64 n1, s1, b1, f1, l1] 32)).heap.size = w.heap.size + 1 by simp] at this
  have hb2 : W3.heap[w.heap.size + 1 + 1]? = some (.cells #[.int .i64 0, .int .i64 0, (.string ⟨#[]⟩), (.slice none 0 0), (.slice none 0 0), (.slice none 0 0)] 32 (0, 0)) := by
    rw [hW3]
    have := heap_alloc_new ((w.alloc (.cells #[.int .i64 k1, .int .i64 n1, s1, b1, f1, l1] 32)).alloc (.cells #[.int .i64 k2, .int .i64 n2, s2, b2, f2, l2] 32)) (.cells #[.int .i64 0, .int .i64 0, (.string ⟨#[]⟩), (.slice none 0 0), (.slice none 0 0), (.slice none 0 0)] 32)
    rwa [show ((w.alloc (.cells #[.int .i64 k1, .int .i64 n1, s1, b1, f1, l1] 32)).alloc (.cells #[.int .i64 k2, .int .i64 n2, s2, b2, f2, l2] 32)).heap.size = w.heap.size + 1 + 1 by simp] at this
  have hAH := Lib.hid hA
  have hb0H := Lib.hid hb0
  have hb1H := Lib.hid hb1
  have hb2H := Lib.hid hb2
  clear hW3 hA hb0 hb1 hb2
  refine (num_none W3 h1).mono ?_
  rintro e w4 ⟨rfl, hs4⟩
  have hA2 := hAH.out.tail hs4
  have hb0 := hs4.at hb0H.out (by simp)
  have hb1 := hs4.at hb1H.out (by simp)
  have hb2 := hs4.at hb2H.out (by simp)
  (try clear a0 a1 a2 a3 a4 a5)
  (try clear c0 c1 c2 c3 c4 c5)
  (try clear z0 z1 z2 z3 z4 z5)
  (try clear fz)
  (try clear lt0 lt1 lt2)
  clear hAH hb0H hb1H hb2H
  have hAH := Lib.hid hA2
  have hb0H := Lib.hid hb0
  have hb1H := Lib.hid hb1
  have hb2H := Lib.hid hb2
  have lt0 := lt_of_block hb0
  have lt1 := lt_of_block hb1
  have lt2 := lt_of_block hb2
  obtain ⟨a0, a1, a2, a3, a4, a5⟩ := cells6A hb0
  obtain ⟨c0, c1, c2, c3, c4, c5⟩ := cells6A hb1
  obtain ⟨z0, z1, z2, z3, z4, z5⟩ := cells6A hb2
  have fz := free_blk hb2
  clear hA2 hb0 hb1 hb2 hs4
  go_wp2_with fail
  refine (num_none w4 h2).mono ?_
  rintro e w5 ⟨rfl, hs5⟩
  have hA2 := hAH.out.tail hs5
  have hb0 := hs5.at hb0H.out (by simp)
  have hb1 := hs5.at hb1H.out (by simp)
  have hb2 := hs5.at hb2H.out (by simp)
  (try clear a0 a1 a2 a3 a4 a5)
  (try clear c0 c1 c2 c3 c4 c5)
  (try clear z0 z1 z2 z3 z4 z5)
  (try clear fz)
  (try clear lt0 lt1 lt2)
  clear hAH hb0H hb1H hb2H
  have hAH := Lib.hid hA2
  have hb0H := Lib.hid hb0
  have hb1H := Lib.hid hb1
  have hb2H := Lib.hid hb2
  have lt0 := lt_of_block hb0
  have lt1 := lt_of_block hb1
  have lt2 := lt_of_block hb2
  obtain ⟨a0, a1, a2, a3, a4, a5⟩ := cells6A hb0
  obtain ⟨c0, c1, c2, c3, c4, c5⟩ := cells6A hb1
  obtain ⟨z0, z1, z2, z3, z4, z5⟩ := cells6A hb2
  have fz := free_blk hb2
  clear hA2 hb0 hb1 hb2 hs5
  go_wp2_with fail
  refine (num_number w5 h1).mono ?_
  rintro e w6 ⟨rfl, hs6⟩
  have hA2 := hAH.out.tail hs6
  have hb0 := hs6.at hb0H.out (by simp)
  have hb1 := hs6.at hb1H.out (by simp)
  have hb2 := hs6.at hb2H.out (by simp)
  (try clear a0 a1 a2 a3 a4 a5)
  (try clear c0 c1 c2 c3 c4 c5)
  (try clear z0 z1 z2 z3 z4 z5)
  (try clear fz)
  (try clear lt0 lt1 lt2)
  clear hAH hb0H hb1H hb2H
  have hAH := Lib.hid hA2
  have hb0H := Lib.hid hb0
  have hb1H := Lib.hid hb1
  have hb2H := Lib.hid hb2
  have lt0 := lt_of_block hb0
  have lt1 := lt_of_block hb1
  have lt2 := lt_of_block hb2
  obtain ⟨a0, a1, a2, a3, a4, a5⟩ := cells6A hb0
  obtain ⟨c0, c1, c2, c3, c4, c5⟩ := cells6A hb1
  obtain ⟨z0, z1, z2, z3, z4, z5⟩ := cells6A hb2
  have fz := free_blk hb2
  clear hA2 hb0 hb1 hb2 hs6
  go_wp2_with fail
  refine (num_number w6 h2).mono ?_
  rintro e w7 ⟨rfl, hs7⟩
  have hA2 := hAH.out.tail hs7
  have hb0 := hs7.at hb0H.out (by simp)
  have hb1 := hs7.at hb1H.out (by simp)
  have hb2 := hs7.at hb2H.out (by simp)
  (try clear a0 a1 a2 a3 a4 a5)
  (try clear c0 c1 c2 c3 c4 c5)
  (try clear z0 z1 z2 z3 z4 z5)
  (try clear fz)
  (try clear lt0 lt1 lt2)
  clear hAH hb0H hb1H hb2H
  have hAH := Lib.hid hA2
  have hb0H := Lib.hid hb0
  have hb1H := Lib.hid hb1
  have hb2H := Lib.hid hb2
  have lt0 := lt_of_block hb0
  have lt1 := lt_of_block hb1
  have lt2 := lt_of_block hb2
  obtain ⟨a0, a1, a2, a3, a4, a5⟩ := cells6A hb0
  obtain ⟨c0, c1, c2, c3, c4, c5⟩ := cells6A hb1
  obtain ⟨z0, z1, z2, z3, z4, z5⟩ := cells6A hb2
  have fz := free_blk hb2
  clear hA2 hb0 hb1 hb2 hs7
  go_wp2_with fail
  have hN := num_add1 n1 n2 w7 hx hy
  by_cases hr : inR (n1 + n2)
  · rw [if_pos hr, if_pos hr] at hN
    have hres := Lib.hid hr
    refine hN.mono ?_
    clear hN
    rintro e w' ⟨rfl, rfl⟩
    go_wp2_with fail
    refine (num_of (n1 + n2) w7 hr).mono ?_
    rintro e w8 ⟨rfl, hs8⟩
    have hA2 := hAH.out.tail hs8
    have hb0 := hs8.at hb0H.out (by simp)
    have hb1 := hs8.at hb1H.out (by simp)
    have hb2 := hs8.at hb2H.out (by simp)
    (try clear a0 a1 a2 a3 a4 a5)
    (try clear c0 c1 c2 c3 c4 c5)
    (try clear z0 z1 z2 z3 z4 z5)
    (try clear fz)
    (try clear lt0 lt1 lt2)
    clear hAH hb0H hb1H hb2H
    have hAH := Lib.hid hA2
    have hb0H := Lib.hid hb0
    have hb1H := Lib.hid hb1
    have hb2H := Lib.hid hb2
    have lt0 := lt_of_block hb0
    have lt1 := lt_of_block hb1
    have lt2 := lt_of_block hb2
    obtain ⟨a0, a1, a2, a3, a4, a5⟩ := cells6A hb0
    obtain ⟨c0, c1, c2, c3, c4, c5⟩ := cells6A hb1
    obtain ⟨z0, z1, z2, z3, z4, z5⟩ := cells6A hb2
    have fz := free_blk hb2
    clear hA2 hb0 hb1 hb2 hs8
    obtain ⟨K, hK⟩ : ∃ K, K = kindI (n1 + n2) := ⟨_, rfl⟩
    rw [← hK]
    have hKH := Lib.hid hK
    clear hK
    rcases h1 with rfl | rfl
    · rcases h2 with rfl | rfl
      · go_wp2_with fail
        change bodyPost _ _ _ _ _ ((set6 w8 (w.heap.size + 1 + 1) (.int .i64 K) (.int .i64 (n1 + n2)) (.string ⟨#[]⟩) (.slice none 0 0) (.slice none 0 0) (.slice none 0 0)).alloc (.cells #[.int .i64 K, .int .i64 (n1 + n2), (.string ⟨#[]⟩), (.slice none 0 0), (.slice none 0 0), (.slice none 0 0)] 32))
        refine bodyPost_ret (results_v2 rfl rfl rfl (alloc_old (set6_heap hb2H.out))) rfl ?_
        have hs : Step [] id id w ((set6 w8 (w.heap.size + 1 + 1) (.int .i64 K) (.int .i64 (n1 + n2)) (.string ⟨#[]⟩) (.slice none 0 0) (.slice none 0 0) (.slice none 0 0)).alloc (.cells #[.int .i64 K, .int .i64 (n1 + n2), (.string ⟨#[]⟩), (.slice none 0 0), (.slice none 0 0), (.slice none 0 0)] 32)) := (hAH.out.tailNew (T2 := [w.heap.size + 1 + 1]) (.grown set6_grown (fun k hk => by cases hk; simp)) (by simp; omega)).tail (Step.alloc _)
        unfold SumP sumC
        rw [if_pos hres.out, if_pos hres.out]
        rw [if_neg (by omega), ← hKH.out]
        exact ⟨rfl, hs⟩
      · go_wp2_with fail
        change bodyPost _ _ _ _ _ ((set6 w8 (w.heap.size + 1 + 1) (.int .i64 4) (.int .i64 (n1 + n2)) (.string ⟨#[]⟩) (.slice none 0 0) (.slice none 0 0) (.slice none 0 0)).alloc (.cells #[.int .i64 4, .int .i64 (n1 + n2), (.string ⟨#[]⟩), (.slice none 0 0), (.slice none 0 0), (.slice none 0 0)] 32))
        refine bodyPost_ret (results_v2 rfl rfl rfl (alloc_old (set6_heap hb2H.out))) rfl ?_
        have hs : Step [] id id w ((set6 w8 (w.heap.size + 1 + 1) (.int .i64 4) (.int .i64 (n1 + n2)) (.string ⟨#[]⟩) (.slice none 0 0) (.slice none 0 0) (.slice none 0 0)).alloc (.cells #[.int .i64 4, .int .i64 (n1 + n2), (.string ⟨#[]⟩), (.slice none 0 0), (.slice none 0 0), (.slice none 0 0)] 32)) := (hAH.out.tailNew (T2 := [w.heap.size + 1 + 1]) (.grown set6_grown (fun k hk => by cases hk; simp)) (by simp; omega)).tail (Step.alloc _)
        unfold SumP sumC
        rw [if_pos hres.out, if_pos hres.out]
        rw [if_pos (.inr rfl)]
        exact ⟨rfl, hs⟩
    · go_wp2_with fail
      change bodyPost _ _ _ _ _ ((set6 w8 (w.heap.size + 1 + 1) (.int .i64 4) (.int .i64 (n1 + n2)) (.string ⟨#[]⟩) (.slice none 0 0) (.slice none 0 0) (.slice none 0 0)).alloc (.cells #[.int .i64 4, .int .i64 (n1 + n2), (.string ⟨#[]⟩), (.slice none 0 0), (.slice none 0 0), (.slice none 0 0)] 32))
      refine bodyPost_ret (results_v2 rfl rfl rfl (alloc_old (set6_heap hb2H.out))) rfl ?_
      have hs : Step [] id id w ((set6 w8 (w.heap.size + 1 + 1) (.int .i64 4) (.int .i64 (n1 + n2)) (.string ⟨#[]⟩) (.slice none 0 0) (.slice none 0 0) (.slice none 0 0)).alloc (.cells #[.int .i64 4, .int .i64 (n1 + n2), (.string ⟨#[]⟩), (.slice none 0 0), (.slice none 0 0), (.slice none 0 0)] 32)) := (hAH.out.tailNew (T2 := [w.heap.size + 1 + 1]) (.grown set6_grown (fun k hk => by cases hk; simp)) (by simp; omega)).tail (Step.alloc _)
      unfold SumP sumC
      rw [if_pos hres.out, if_pos hres.out]
      rw [if_pos (.inl rfl)]
      exact ⟨rfl, hs⟩
  · rw [if_neg hr, if_neg hr] at hN
    have hres := Lib.hid hr
    refine hN.mono ?_
    clear hN
    rintro e w' ⟨rfl, rfl⟩
    go_wp2_with fail
    change bodyPost _ _ _ _ _ (set6 w7 (w.heap.size + 1 + 1) (.int .i64 0) (.int .i64 0) (.string ⟨#[]⟩) (.slice none 0 0) (.slice none 0 0) (.slice none 0 0))
    refine bodyPost_ret (results_v2 rfl rfl rfl (set6_heap hb2H.out)) rfl ?_
    unfold SumP sumC
    rw [if_neg hres.out, if_neg hres.out]
    exact ⟨rfl, hAH.out.tailNew (T2 := [w.heap.size + 1 + 1]) (.grown set6_grown (fun k hk => by cases hk; simp)) (by simp; omega)⟩
set_option maxRecDepth 100000 in
set_option maxHeartbeats 4000000 in
theorem num_add {k1 n1 k2 n2 : Int} {s1 b1 f1 l1 s2 b2 f2 l2 : Value} (w : World) (h1 : k1 = 3 ∨ k1 = 4) (h2 : k2 = 3 ∨ k2 = 4) (hx : inR n1) (hy : inR n2) :
    Calls Tryd.prog 29 #[.agg #[.int .i64 k1, .int .i64 n1, s1, b1, f1, l1], .agg #[.int .i64 k2, .int .i64 n2, s2, b2, f2, l2]] w (SumP k1 n1 k2 n2 w) := by
  have hc := Lib.hid (fun W => num_reckoned (s1 := s1) (b1 := b1) (f1 := f1) (l1 := l1) (s2 := s2) (b2 := b2) (f2 := f2) (l2 := l2) W h1 h2 hx hy)
  clear h1 h2 hx hy
  go_enter Tryd.func29, Tryd.ntmps29
  go_wp2_with fail
  obtain ⟨W3, hW3⟩ : ∃ W3, W3 = ((w.alloc (.cells #[.int .i64 k1, .int .i64 n1, s1, b1, f1, l1] 32)).alloc (.cells #[.int .i64 k2, .int .i64 n2, s2, b2, f2, l2] 32)).alloc (.cells #[.int .i64 0, .int .i64 0, (.string ⟨#[]⟩), (.slice none 0 0), (.slice none 0 0), (.slice none 0 0)] 32) := ⟨_, rfl⟩
  rw [← hW3]
  have hA : Step [] id id w W3 := by rw [hW3]; exact ((Step.alloc _).tail (Step.alloc _)).tail (Step.alloc _)
  have hb2 : W3.heap[w.heap.size + 1 + 1]? = some (.cells #[.int .i64 0, .int .i64 0, (.string ⟨#[]⟩), (.slice none 0 0), (.slice none 0 0), (.slice none 0 0)] 32 (0, 0)) := by
    rw [hW3]
    have := heap_alloc_new ((w.alloc (.cells #[.int .i64 k1, .int .i64 n1, s1, b1, f1, l1] 32)).alloc (.cells #[.int .i64 k2, .int .i64 n2, s2, b2, f2, l2] 32)) (.cells #[.int .i64 0, .int .i64 0, (.string ⟨#[]⟩), (.slice none 0 0), (.slice none 0 0), (.slice none 0 0)] 32)
    rwa [show ((w.alloc (.cells #[.int .i64 k1, .int .i64 n1, s1, b1, f1, l1] 32)).alloc (.cells #[.int .i64 k2, .int .i64 n2, s2, b2, f2, l2] 32)).heap.size = w.heap.size + 1 + 1 by simp] at this
  refine (hc.out W3).mono ?_
  rintro e w4 ⟨rfl, hs4⟩
  have hb4 := hs4.at hb2 (by simp)
  have hAH := Lib.hid (hA.tail hs4)
  have lt2 := lt_of_block hb4
  obtain ⟨z0, z1, z2, z3, z4, z5⟩ := cells6A hb4
  have fz := free_blk hb4
  have hb4H := Lib.hid hb4
  clear hW3 hA hb2 hs4 hb4 hc
  unfold SumP sumC
  by_cases hr : inR (n1 + n2)
  · simp only [if_pos hr]
    have hrH := Lib.hid hr
    obtain ⟨K, hK⟩ : ∃ K : Int, K = if k1 = 4 ∨ k2 = 4 then 4 else kindI (n1 + n2) := ⟨_, rfl⟩
    rw [← hK]
    have hKH := Lib.hid hK
    clear hr hK
    go_wp2_with fail
    change bodyPost _ _ _ _ _ (set6 w4 (w.heap.size + 1 + 1) (.int .i64 K) (.int .i64 (n1 + n2)) (.string ⟨#[]⟩) (.slice none 0 0) (.slice none 0 0) (.slice none 0 0))
    refine bodyPost_ret (results_v2 rfl rfl rfl (set6_heap hb4H.out)) rfl ?_
    unfold SumP sumC
    rw [if_pos hrH.out, if_pos hrH.out, ← hKH.out]
    exact ⟨rfl, hAH.out.tailNew (T2 := [w.heap.size + 1 + 1]) (.grown set6_grown (fun k hk => by cases hk; simp)) (by simp; omega)⟩
  · simp only [if_neg hr]
    have hrH := Lib.hid hr
    clear hr
    go_wp2_with fail
    change bodyPost _ _ _ _ _ (set6 w4 (w.heap.size + 1 + 1) (.int .i64 0) (.int .i64 0) (.string ⟨#[]⟩) (.slice none 0 0) (.slice none 0 0) (.slice none 0 0))
    refine bodyPost_ret (results_v2 rfl rfl rfl (set6_heap hb4H.out)) rfl ?_
    unfold SumP sumC
    rw [if_neg hrH.out, if_neg hrH.out]
    exact ⟨rfl, hAH.out.tailNew (T2 := [w.heap.size + 1 + 1]) (.grown set6_grown (fun k hk => by cases hk; simp)) (by simp; omega)⟩
end Go.Proofs.YtembpajlllnncaaDoor
