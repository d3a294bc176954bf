/- bson: the reader reads values without parts. -/
import Derived.Test.YtbkmnhogfegmcaaDoorBsG2
set_option linter.unusedVariables false
set_option linter.unusedSimpArgs false
namespace Go.Proofs.YtbkmnhogfegmcaaDoor
open Go.RowKit

/-- How the reading of a value ends. -/
def DecP (w : World) (R B o c : Nat) (b : Bs) : Res Val → Ending → World → Prop
  | .ok v a', e, w' => Step [R] id id w w' ∧ ∃ cs : List Value, e = .returned (.agg cs.toArray) ∧ VIs (fun k => w.heap.size ≤ k) w' v cs ∧ Rd w' R B o c b a'
  | .bad n, e, w' => Step [R] id id w w' ∧ e = broke n
theorem VIs.flat {P : Nat → Prop} {w : World} {k n : Int} (s : Bs) (hk : -9223372036854775808 ≤ k ∧ k ≤ 9223372036854775807) (hn : -9223372036854775808 ≤ n ∧ n ≤ 9223372036854775807) (hs : s.length ≤ 140737488351232) :
    VIs P w (.mk k n s [] [] []) [.int .i64 k, .int .i64 n, .string (strOf s), .slice none 0 0, .slice none 0 0, .slice none 0 0] := by
  refine VIs.mk ⟨.slice none 0 0, none, 0, none, 0, rfl, .inl ⟨none, 0, rfl, rfl, fun _ => rfl⟩, ⟨by simp [Val.f], by simp [Val.l], fun _ => rfl, fun _ => rfl⟩, ⟨hk.1, hk.2, hn.1, hn.2⟩, ⟨hs, by simp [Val.b], by simp [Val.f], by simp [Val.l]⟩, ?_, ?_⟩
  · simp [Val.f, FIs]
  · simp [Val.l, LIs]
theorem VIs.bytes {P : Nat → Prop} {w : World} {k : Int} {v : Value} {l : Bs} (hk : -9223372036854775808 ≤ k ∧ k ≤ 9223372036854775807) (h : BIn P w v l) (hl : l.length ≤ 140737488351232) :
    VIs P w (.mk k 0 [] l [] []) [.int .i64 k, .int .i64 0, .string (strOf []), v, .slice none 0 0, .slice none 0 0] := by
  refine VIs.mk ⟨v, none, 0, none, 0, rfl, h, ⟨by simp [Val.f], by simp [Val.l], fun _ => rfl, fun _ => rfl⟩, ⟨hk.1, hk.2, by simp [Val.num], by simp [Val.num]⟩, ⟨by simp [Val.s], hl, by simp [Val.f], by simp [Val.l]⟩, ?_, ?_⟩
  · simp [Val.f, FIs]
  · simp [Val.l, LIs]

/-- A value is stored, part by part. -/
def set6 (w : World) (V : Nat) (v0 v1 v2 v3 v4 v5 : Value) : World :=
  (((((w.setCell ⟨V, 0, none⟩ v0).setCell ⟨V, 1, none⟩ v1).setCell ⟨V, 2, none⟩ v2).setCell ⟨V, 3, none⟩ v3).setCell ⟨V, 4, none⟩ v4).setCell ⟨V, 5, none⟩ v5
section
variable {w : World} {V : Nat} {c0 c1 c2 c3 c4 c5 v0 v1 v2 v3 v4 v5 : Value} {t : TypeId}
theorem set6_heap (h : w.heap[V]? = some (.cells #[c0, c1, c2, c3, c4, c5] t (0, 0))) : (set6 w V v0 v1 v2 v3 v4 v5).heap[V]? = some (.cells #[v0, v1, v2, v3, v4, v5] t (0, 0)) := by
  have h1 := set_blk h 0 v0
  have h2 := set_blk h1 1 v1
  have h3 := set_blk h2 2 v2
  have h4 := set_blk h3 3 v3
  have h5 := set_blk h4 4 v4
  have h6 := set_blk h5 5 v5
  unfold set6
  rw [h6]; rfl
theorem set6_grown : w.grownBy (set6 w V v0 v1 v2 v3 v4 v5) (some V) := by
  have h : ∀ (w : World) (i : Nat) (v : Value), w.grownBy (w.setCell ⟨V, i, none⟩ v) (some V) := fun w i v => ⟨rfl, rfl, rfl, by simp [World.setCell], fun k _ hk => Below.heap_setCell _ _ _ _ (fun e => hk (by rw [e]))⟩
  unfold set6
  exact (((((h _ _ _).trans (h _ _ _)).trans (h _ _ _)).trans (h _ _ _)).trans (h _ _ _)).trans (h _ _ _)
theorem results_cell4 {fn : Func} {tmps : Array Value} (hfn : fn.results = #[.cell 4 27]) (ht : tmps.getD 4 undef = .pointer (some ⟨V, 0, none⟩)) (hb : w.heap[V]? = some (.cells #[v0, v1, v2, v3, v4, v5] t (0, 0))) :
    (results fn tmps).run Tryd.prog w = .ok (.agg #[v0, v1, v2, v3, v4, v5]) w := by
  have p0 := cell_blk hb (i := 0) rfl
  have p1 := cell_blk hb (i := 1) rfl
  have p2 := cell_blk hb (i := 2) rfl
  have p3 := cell_blk hb (i := 3) rfl
  have p4 := cell_blk hb (i := 4) rfl
  have p5 := cell_blk hb (i := 5) rfl
  simp at p0 p1 p2 p3 p4 p5
  have ht' : tmps[4]?.getD undef = .pointer (some ⟨V, 0, none⟩) := by simpa using ht
  simp [results, hfn, ht', go_sem, p0, p1, p2, p3, p4, p5]
end

/-- The value that was laid is the one that was read. -/
theorem dec_fin {w w2 : World} {z : Obj} {x : Val} {R B o c a' : Nat} {b : Bs} {v0 v1 v2 v3 v4 v5 : Value} (hs : Step [R] id id (w.alloc z) w2) (hr : Rd w2 R B o c b a') (hne : w.heap.size ≠ R) (hB : B < w.heap.size)
    (hx : VIs (fun k => w.heap.size < k) w2 x [v0, v1, v2, v3, v4, v5]) : DecP w R B o c b (.ok x a') (.returned (.agg #[v0, v1, v2, v3, v4, v5])) (set6 w2 w.heap.size v0 v1 v2 v3 v4 v5) := by
  have hg6 : w2.grownBy (set6 w2 w.heap.size v0 v1 v2 v3 v4 v5) (some w.heap.size) := set6_grown
  refine ⟨?_, _, rfl, hx.keep (fun k hk => by omega) (fun k hk hl => hg6.block k hl (by simp; omega)), hr.kept hg6 hne (by omega)⟩
  exact ((Step.alloc z).tail hs).tailNew (T2 := [w.heap.size]) (.grown hg6 (fun k hk => by cases hk; simp)) (by simp)


set_option maxRecDepth 100000 in
set_option maxHeartbeats 2000000 in
theorem rd_id {w : World} {R B o c a : Nat} {b : Bs} (deep : Int) (rec_ : Bool → Nat → Res (List (Bs × Val))) (h : Rd w R B o c b a) :
    Calls Tryd.prog 80 #[.pointer (some ⟨R, 0, none⟩), .int .i64 deep] w (DecP w R B o c b (decV b rec_ 7 a)) := by
  have hd : decV b rec_ 7 a = if b.length - a < 12 then .bad 2 else .ok (.mk 9 0 [] ((b.drop a).take 12) [] []) (a + 12) := rfl
  rw [hd]
  clear hd
  have hle := h.le
  have hB := h.blt
  have hR := lt_of_block h.cell
  have hne : w.heap.size ≠ R := by omega
  have hH := Lib.hid h
  clear h
  by_cases hn : b.length - a < 12
  · rw [if_pos hn]
    go_enter Tryd.func80, Tryd.ntmps80
    go_wp2_with (go_at_call 74; refine (take_bad 12 (hH.out.step (Step.alloc _)).cell hH.out.small hle (by omega)).mono ?_; rintro e w1 ⟨rfl, hs1⟩; have hs1H := Lib.hid hs1; clear hs1)
    exact ⟨rfl, ((Step.alloc _).tail hs1H.out).mono (fun _ h => by cases h), rfl⟩
  · rw [if_neg hn]
    have hn12 : a + 12 ≤ b.length := by omega
    go_enter Tryd.func80, Tryd.ntmps80
    go_wp2_with (first | (go_at_call 74; refine (take_ok 12 (hH.out.step (Step.alloc _)) hn12).mono ?_; rintro e w1 ⟨⟨ad, rfl, had⟩, hr1, hs1⟩; obtain rfl := had (by omega); have hlie := hr1.lie a 12; have hlt1 := hs1.size; have hvb := hs1.at (heap_alloc_new w _) (by simp; exact hne); have hvbH := Lib.hid hvb; have hr1H := Lib.hid hr1; have hs1H := Lib.hid hs1; have hlieH := Lib.hid hlie; clear hr1 hs1 hlie hvb had) | (go_at_call 36; refine (bs_clone _ 12 _ _ w1 (take_len hn12).symm (by omega) hlieH.out).mono ?_; rintro e w2 ⟨v, rfl, hb2, -, hs2, hv2⟩; obtain ⟨va, vc, rfl⟩ := hb2.shape; rw [take_len hn12] at *; have hvb2 := hs2.at hvbH.out (by simp); have p0 := cell_blk hvb2 (i := 0) rfl; have p1 := cell_blk hvb2 (i := 1) rfl; have p2 := cell_blk hvb2 (i := 2) rfl; have p3 := cell_blk hvb2 (i := 3) rfl; have p4 := cell_blk hvb2 (i := 4) rfl; have p5 := cell_blk hvb2 (i := 5) rfl; have pf := free_blk hvb2; have hvb2H := Lib.hid hvb2; have hb2H := Lib.hid hb2; have hs2H := Lib.hid hs2; have hv2H := Lib.hid hv2; clear hb2 hs2 hv2 hvb2))
    change bodyPost _ _ _ _ _ (set6 w2 w.heap.size (.int .i64 9) (.int .i64 0) (.string ⟨#[]⟩) (.slice va 12 vc) (.slice none 0 0) (.slice none 0 0))
    simp only [World.size_alloc] at hlt1
    exact bodyPost_ret (results_cell4 rfl rfl (set6_heap hvb2H.out)) rfl (dec_fin (hs1H.out.tail (hs2H.out.mono (fun _ h => by cases h))) (hr1H.out.step hs2H.out) hne hB (VIs.bytes (by omega) (hb2H.out.keep (fun k hk => by omega) (fun _ _ _ => rfl)) (by rw [take_len hn12]; omega)))

set_option maxRecDepth 100000 in
set_option maxHeartbeats 2000000 in
theorem rd_bool {w : World} {R B o c a : Nat} {b : Bs} (deep : Int) (rec_ : Bool → Nat → Res (List (Bs × Val))) (h : Rd w R B o c b a) :
    Calls Tryd.prog 81 #[.pointer (some ⟨R, 0, none⟩), .int .i64 deep] w (DecP w R B o c b (decV b rec_ 8 a)) := by
  have hd : decV b rec_ 8 a = if b.length - a < 1 then .bad 2 else if numAt b a 1 ≤ 1 then .ok (.mk 10 (numAt b a 1) [] [] [] []) (a + 1) else .bad 4 := rfl
  rw [hd]
  clear hd
  have hle := h.le
  have hB := h.blt
  have hR := lt_of_block h.cell
  have hne : w.heap.size ≠ R := by omega
  have hH := Lib.hid h
  clear h
  by_cases hn : b.length - a < 1
  · rw [if_pos hn]
    go_enter Tryd.func81, Tryd.ntmps81
    go_wp2_with (go_at_call 47; refine (number_bad 1 (hH.out.step (Step.alloc _)).cell hH.out.small hle (by omega)).mono ?_; rintro e w1 ⟨rfl, hs1⟩; have hs1H := Lib.hid hs1; clear hs1)
    exact ⟨rfl, ((Step.alloc _).tail hs1H.out).mono (fun _ h => by cases h), rfl⟩
  · rw [if_neg hn]
    have hn2 : a + 1 ≤ b.length := by omega
    obtain ⟨N, hN⟩ : ∃ N, numAt b a 1 = N := ⟨_, rfl⟩
    rw [hN]
    have hN := Lib.hid hN
    by_cases h1 : N ≤ 1
    · rw [if_pos h1]
      have h1i : (N : Int) ≤ 1 := by omega
      have hw1 : wrap64 (N : Int) = (N : Int) := wrap_id (by omega) (by omega)
      go_enter Tryd.func81, Tryd.ntmps81
      go_wp2_with (first | (go_at_call 47; refine (number_ok 1 (hH.out.step (Step.alloc _)) hn2 (by omega) (by omega)).mono ?_; rintro e w1 ⟨rfl, hr1, hs1⟩; rw [hN.out]; have hvb := hs1.at (heap_alloc_new w _) (by simp; exact hne); have p0 := cell_blk hvb (i := 0) rfl; have p1 := cell_blk hvb (i := 1) rfl; have p2 := cell_blk hvb (i := 2) rfl; have p3 := cell_blk hvb (i := 3) rfl; have p4 := cell_blk hvb (i := 4) rfl; have p5 := cell_blk hvb (i := 5) rfl; have pf := free_blk hvb; have hvbH := Lib.hid hvb; have hr1H := Lib.hid hr1; have hs1H := Lib.hid hs1; clear hr1 hs1 hvb) | (go_at_call 25; refine (must_ok 4 _).mono ?_; rintro e w' ⟨rfl, rfl⟩))
      change bodyPost _ _ _ _ _ (set6 w1 w.heap.size (.int .i64 10) (.int .i64 N) (.string ⟨#[]⟩) (.slice none 0 0) (.slice none 0 0) (.slice none 0 0))
      exact bodyPost_ret (results_cell4 rfl rfl (set6_heap hvbH.out)) rfl (dec_fin hs1H.out hr1H.out hne hB (VIs.flat [] (by omega) (by omega) (by simp)))
    · rw [if_neg h1]
      have h1i : ¬ (N : Int) ≤ 1 := by omega
      have h1d := Lib.hid (decide_eq_false h1i)
      go_enter Tryd.func81, Tryd.ntmps81
      go_wp2_with (first | (go_at_call 47; refine (number_ok 1 (hH.out.step (Step.alloc _)) hn2 (by omega) (by omega)).mono ?_; rintro e w1 ⟨rfl, hr1, hs1⟩; rw [hN.out]; have hvb := hs1.at (heap_alloc_new w _) (by simp; exact hne); have p0 := cell_blk hvb (i := 0) rfl; have p1 := cell_blk hvb (i := 1) rfl; have p2 := cell_blk hvb (i := 2) rfl; have p3 := cell_blk hvb (i := 3) rfl; have p4 := cell_blk hvb (i := 4) rfl; have p5 := cell_blk hvb (i := 5) rfl; have pf := free_blk hvb; have hvbH := Lib.hid hvb; have hr1H := Lib.hid hr1; have hs1H := Lib.hid hs1; clear hr1 hs1 hvb) | (go_at_call 25; (try rw [h1d.out]); refine (must_bad 4 _).mono ?_; rintro e w' ⟨rfl, rfl⟩))
      exact ⟨rfl, ((Step.alloc _).tail hs1H.out), rfl⟩

theorem conv64 (m : Nat) (h : m < 18446744073709551616) : wrap64 (m : Int) = signed 8 m := by
  unfold signed wrap64
  simp only [show 8 * 8 - 1 = 63 from rfl, show 8 * 8 = 64 from rfl, show (2 : Nat) ^ 63 = 9223372036854775808 from rfl, show (2 : Int) ^ 64 = 18446744073709551616 from rfl]
  split <;> omega
theorem numAt_lt8 {b : Bs} {a : Nat} (h : a + 8 ≤ b.length) : numAt b a 8 < 18446744073709551616 := by
  have := leVal_lt ((b.drop a).take 8)
  rw [take_len h] at this
  exact this
theorem signed8_range (m : Nat) (h : m < 18446744073709551616) : -9223372036854775808 ≤ signed 8 m ∧ signed 8 m ≤ 9223372036854775807 := by
  rw [← conv64 m h]; unfold wrap64; omega
theorem signed4_range (m : Nat) (h : m < 4294967296) : -2147483648 ≤ signed 4 m ∧ signed 4 m ≤ 2147483647 := by
  rw [← signed_conv m h]; unfold wrap64 wrap32; omega

set_option maxRecDepth 100000 in
set_option maxHeartbeats 2000000 in
theorem rd_date {w : World} {R B o c a : Nat} {b : Bs} (deep : Int) (rec_ : Bool → Nat → Res (List (Bs × Val))) (h : Rd w R B o c b a) :
    Calls Tryd.prog 82 #[.pointer (some ⟨R, 0, none⟩), .int .i64 deep] w (DecP w R B o c b (decV b rec_ 9 a)) := by
  have hd : decV b rec_ 9 a = if b.length - a < 8 then .bad 2 else .ok (.mk 11 (signed 8 (numAt b a 8)) [] [] [] []) (a + 8) := rfl
  rw [hd]
  clear hd
  have hle := h.le
  have hB := h.blt
  have hR := lt_of_block h.cell
  have hne : w.heap.size ≠ R := by omega
  have hH := Lib.hid h
  clear h
  by_cases hn : b.length - a < 8
  · rw [if_pos hn]
    go_enter Tryd.func82, Tryd.ntmps82
    go_wp2_with (go_at_call 47; refine (number_bad 8 (hH.out.step (Step.alloc _)).cell hH.out.small hle (by omega)).mono ?_; rintro e w1 ⟨rfl, hs1⟩; have hs1H := Lib.hid hs1; clear hs1)
    exact ⟨rfl, ((Step.alloc _).tail hs1H.out).mono (fun _ h => by cases h), rfl⟩
  · rw [if_neg hn]
    have hn2 : a + 8 ≤ b.length := by omega
    have hlt := numAt_lt8 hn2
    obtain ⟨N, hN⟩ : ∃ N, numAt b a 8 = N := ⟨_, rfl⟩
    rw [hN] at hlt ⊢
    have hN := Lib.hid hN
    have hw1 : wrap64 (N : Int) = signed 8 N := conv64 N hlt
    have hrg := signed8_range N hlt
    generalize signed 8 N = S at *
    go_enter Tryd.func82, Tryd.ntmps82
    go_wp2_with (go_at_call 47; refine (number_ok 8 (hH.out.step (Step.alloc _)) hn2 (by omega) (by omega)).mono ?_; rintro e w1 ⟨rfl, hr1, hs1⟩; rw [hN.out]; have hvb := hs1.at (heap_alloc_new w _) (by simp; exact hne); have p0 := cell_blk hvb (i := 0) rfl; have p1 := cell_blk hvb (i := 1) rfl; have p2 := cell_blk hvb (i := 2) rfl; have p3 := cell_blk hvb (i := 3) rfl; have p4 := cell_blk hvb (i := 4) rfl; have p5 := cell_blk hvb (i := 5) rfl; have pf := free_blk hvb; have hvbH := Lib.hid hvb; have hr1H := Lib.hid hr1; have hs1H := Lib.hid hs1; clear hr1 hs1 hvb)
    change bodyPost _ _ _ _ _ (set6 w1 w.heap.size (.int .i64 11) (.int .i64 S) (.string ⟨#[]⟩) (.slice none 0 0) (.slice none 0 0) (.slice none 0 0))
    exact bodyPost_ret (results_cell4 rfl rfl (set6_heap hvbH.out)) rfl (dec_fin hs1H.out hr1H.out hne hB (VIs.flat [] (by omega) (by omega) (by simp)))
set_option maxRecDepth 100000 in
set_option maxHeartbeats 2000000 in
theorem rd_int64 {w : World} {R B o c a : Nat} {b : Bs} (deep : Int) (rec_ : Bool → Nat → Res (List (Bs × Val))) (h : Rd w R B o c b a) :
    Calls Tryd.prog 84 #[.pointer (some ⟨R, 0, none⟩), .int .i64 deep] w (DecP w R B o c b (decV b rec_ 18 a)) := by
  have hd : decV b rec_ 18 a = if b.length - a < 8 then .bad 2 else .ok (.mk 4 (signed 8 (numAt b a 8)) [] [] [] []) (a + 8) := rfl
  rw [hd]
  clear hd
  have hle := h.le
  have hB := h.blt
  have hR := lt_of_block h.cell
  have hne : w.heap.size ≠ R := by omega
  have hH := Lib.hid h
  clear h
  by_cases hn : b.length - a < 8
  · rw [if_pos hn]
    go_enter Tryd.func84, Tryd.ntmps84
    go_wp2_with (go_at_call 47; refine (number_bad 8 (hH.out.step (Step.alloc _)).cell hH.out.small hle (by omega)).mono ?_; rintro e w1 ⟨rfl, hs1⟩; have hs1H := Lib.hid hs1; clear hs1)
    exact ⟨rfl, ((Step.alloc _).tail hs1H.out).mono (fun _ h => by cases h), rfl⟩
  · rw [if_neg hn]
    have hn2 : a + 8 ≤ b.length := by omega
    have hlt := numAt_lt8 hn2
    obtain ⟨N, hN⟩ : ∃ N, numAt b a 8 = N := ⟨_, rfl⟩
    rw [hN] at hlt ⊢
    have hN := Lib.hid hN
    have hw1 : wrap64 (N : Int) = signed 8 N := conv64 N hlt
    have hrg := signed8_range N hlt
    generalize signed 8 N = S at *
    go_enter Tryd.func84, Tryd.ntmps84
    go_wp2_with (go_at_call 47; refine (number_ok 8 (hH.out.step (Step.alloc _)) hn2 (by omega) (by omega)).mono ?_; rintro e w1 ⟨rfl, hr1, hs1⟩; rw [hN.out]; have hvb := hs1.at (heap_alloc_new w _) (by simp; exact hne); have p0 := cell_blk hvb (i := 0) rfl; have p1 := cell_blk hvb (i := 1) rfl; have p2 := cell_blk hvb (i := 2) rfl; have p3 := cell_blk hvb (i := 3) rfl; have p4 := cell_blk hvb (i := 4) rfl; have p5 := cell_blk hvb (i := 5) rfl; have pf := free_blk hvb; have hvbH := Lib.hid hvb; have hr1H := Lib.hid hr1; have hs1H := Lib.hid hs1; clear hr1 hs1 hvb)
    change bodyPost _ _ _ _ _ (set6 w1 w.heap.size (.int .i64 4) (.int .i64 S) (.string ⟨#[]⟩) (.slice none 0 0) (.slice none 0 0) (.slice none 0 0))
    exact bodyPost_ret (results_cell4 rfl rfl (set6_heap hvbH.out)) rfl (dec_fin hs1H.out hr1H.out hne hB (VIs.flat [] (by omega) (by omega) (by simp)))

set_option maxRecDepth 100000 in
set_option maxHeartbeats 2000000 in
theorem rd_int32 {w : World} {R B o c a : Nat} {b : Bs} (deep : Int) (rec_ : Bool → Nat → Res (List (Bs × Val))) (h : Rd w R B o c b a) :
    Calls Tryd.prog 83 #[.pointer (some ⟨R, 0, none⟩), .int .i64 deep] w (DecP w R B o c b (decV b rec_ 16 a)) := by
  have hd : decV b rec_ 16 a = if b.length - a < 4 then .bad 2 else .ok (.mk 3 (signed 4 (numAt b a 4)) [] [] [] []) (a + 4) := rfl
  rw [hd]
  clear hd
  have hle := h.le
  have hB := h.blt
  have hR := lt_of_block h.cell
  have hne : w.heap.size ≠ R := by omega
  have hH := Lib.hid h
  clear h
  by_cases hn : b.length - a < 4
  · rw [if_pos hn]
    go_enter Tryd.func83, Tryd.ntmps83
    go_wp2_with (go_at_call 46; refine (signed_bad (hH.out.step (Step.alloc _)).cell hH.out.small hle (by omega)).mono ?_; rintro e w1 ⟨rfl, hs1⟩; have hs1H := Lib.hid hs1; clear hs1)
    exact ⟨rfl, ((Step.alloc _).tail hs1H.out).mono (fun _ h => by cases h), rfl⟩
  · rw [if_neg hn]
    have hn2 : a + 4 ≤ b.length := by omega
    have hrg := signed4_range _ (numAt_lt4 hn2)
    obtain ⟨S, hS⟩ : ∃ S, signed 4 (numAt b a 4) = S := ⟨_, rfl⟩
    rw [hS] at hrg ⊢
    have hN := Lib.hid hS
    have hw1 : wrap64 S = S := wrap_id (by omega) (by omega)
    clear hS
    go_enter Tryd.func83, Tryd.ntmps83
    go_wp2_with (go_at_call 46; refine (signed_ok (hH.out.step (Step.alloc _)) hn2).mono ?_; rintro e w1 ⟨rfl, hr1, hs1⟩; rw [hN.out]; have hvb := hs1.at (heap_alloc_new w _) (by simp; exact hne); have p0 := cell_blk hvb (i := 0) rfl; have p1 := cell_blk hvb (i := 1) rfl; have p2 := cell_blk hvb (i := 2) rfl; have p3 := cell_blk hvb (i := 3) rfl; have p4 := cell_blk hvb (i := 4) rfl; have p5 := cell_blk hvb (i := 5) rfl; have pf := free_blk hvb; have hvbH := Lib.hid hvb; have hr1H := Lib.hid hr1; have hs1H := Lib.hid hs1; clear hr1 hs1 hvb)
    change bodyPost _ _ _ _ _ (set6 w1 w.heap.size (.int .i64 3) (.int .i64 S) (.string ⟨#[]⟩) (.slice none 0 0) (.slice none 0 0) (.slice none 0 0))
    exact bodyPost_ret (results_cell4 rfl rfl (set6_heap hvbH.out)) rfl (dec_fin hs1H.out hr1H.out hne hB (VIs.flat [] (by omega) (by omega) (by simp)))

set_option maxRecDepth 100000 in
set_option maxHeartbeats 2000000 in
theorem rd_double {w : World} {R B o c a : Nat} {b : Bs} (deep : Int) (rec_ : Bool → Nat → Res (List (Bs × Val))) (h : Rd w R B o c b a) :
    Calls Tryd.prog 85 #[.pointer (some ⟨R, 0, none⟩), .int .i64 deep] w (DecP w R B o c b (decV b rec_ 1 a)) := by
  have hd : decV b rec_ 1 a = if b.length - a < 8 then .bad 2 else .bad 8 := rfl
  rw [hd]
  clear hd
  have hle := h.le
  have hB := h.blt
  have hR := lt_of_block h.cell
  have hne : w.heap.size ≠ R := by omega
  have hH := Lib.hid h
  clear h
  by_cases hn : b.length - a < 8
  · rw [if_pos hn]
    go_enter Tryd.func85, Tryd.ntmps85
    go_wp2_with (go_at_call 74; refine (take_bad 8 (hH.out.step (Step.alloc _)).cell hH.out.small hle (by omega)).mono ?_; rintro e w1 ⟨rfl, hs1⟩; have hs1H := Lib.hid hs1; clear hs1)
    exact ⟨rfl, ((Step.alloc _).tail hs1H.out).mono (fun _ h => by cases h), rfl⟩
  · rw [if_neg hn]
    go_enter Tryd.func85, Tryd.ntmps85
    go_wp2_with (go_at_call 74; refine (take_ok 8 (hH.out.step (Step.alloc _)) (by omega)).mono ?_; rintro e w1 ⟨⟨ad, rfl, had⟩, hr1, hs1⟩; have hs1H := Lib.hid hs1; clear hr1 hs1 had)
    exact ⟨rfl, ((Step.alloc _).tail hs1H.out), rfl⟩
set_option maxRecDepth 100000 in
set_option maxHeartbeats 2000000 in
theorem rd_decimal {w : World} {R B o c a : Nat} {b : Bs} (deep : Int) (rec_ : Bool → Nat → Res (List (Bs × Val))) (h : Rd w R B o c b a) :
    Calls Tryd.prog 86 #[.pointer (some ⟨R, 0, none⟩), .int .i64 deep] w (DecP w R B o c b (decV b rec_ 19 a)) := by
  have hd : decV b rec_ 19 a = if b.length - a < 16 then .bad 2 else .bad 8 := rfl
  rw [hd]
  clear hd
  have hle := h.le
  have hB := h.blt
  have hR := lt_of_block h.cell
  have hne : w.heap.size ≠ R := by omega
  have hH := Lib.hid h
  clear h
  by_cases hn : b.length - a < 16
  · rw [if_pos hn]
    go_enter Tryd.func86, Tryd.ntmps86
    go_wp2_with (go_at_call 74; refine (take_bad 16 (hH.out.step (Step.alloc _)).cell hH.out.small hle (by omega)).mono ?_; rintro e w1 ⟨rfl, hs1⟩; have hs1H := Lib.hid hs1; clear hs1)
    exact ⟨rfl, ((Step.alloc _).tail hs1H.out).mono (fun _ h => by cases h), rfl⟩
  · rw [if_neg hn]
    go_enter Tryd.func86, Tryd.ntmps86
    go_wp2_with (go_at_call 74; refine (take_ok 16 (hH.out.step (Step.alloc _)) (by omega)).mono ?_; rintro e w1 ⟨⟨ad, rfl, had⟩, hr1, hs1⟩; have hs1H := Lib.hid hs1; clear hr1 hs1 had)
    exact ⟨rfl, ((Step.alloc _).tail hs1H.out), rfl⟩

set_option maxRecDepth 100000 in
set_option maxHeartbeats 2000000 in
theorem rd_null {w : World} {R B o c a : Nat} {b : Bs} (deep : Int) (rec_ : Bool → Nat → Res (List (Bs × Val))) (h : Rd w R B o c b a) :
    Calls Tryd.prog 89 #[.pointer (some ⟨R, 0, none⟩), .int .i64 deep] w (DecP w R B o c b (decV b rec_ 10 a)) := by
  have hd : decV b rec_ 10 a = .ok (.bare 2) a := rfl
  rw [hd]
  clear hd
  have hle := h.le
  have hB := h.blt
  have hR := lt_of_block h.cell
  have hne : w.heap.size ≠ R := by omega
  have hH := Lib.hid h
  clear h
  go_enter Tryd.func89, Tryd.ntmps89
  go_wp2_with fail
  have hvb := heap_alloc_new w (.cells #[.int .i64 2, .int .i64 0, (.string ⟨#[]⟩), (.slice none 0 0), (.slice none 0 0), (.slice none 0 0)] 27)
  refine bodyPost_ret (results_cell4 rfl rfl hvb) rfl ⟨(Step.alloc _).mono (fun _ h => h), _, rfl, VIs.flat [] (by omega) (by omega) (by simp), hH.out.step (Step.alloc _)⟩
set_option maxRecDepth 100000 in
set_option maxHeartbeats 2000000 in
theorem rd_least {w : World} {R B o c a : Nat} {b : Bs} (deep : Int) (rec_ : Bool → Nat → Res (List (Bs × Val))) (h : Rd w R B o c b a) :
    Calls Tryd.prog 87 #[.pointer (some ⟨R, 0, none⟩), .int .i64 deep] w (DecP w R B o c b (decV b rec_ 255 a)) := by
  have hd : decV b rec_ 255 a = .ok (.bare 1) a := rfl
  rw [hd]
  clear hd
  have hle := h.le
  have hB := h.blt
  have hR := lt_of_block h.cell
  have hne : w.heap.size ≠ R := by omega
  have hH := Lib.hid h
  clear h
  go_enter Tryd.func87, Tryd.ntmps87
  go_wp2_with fail
  have hvb := heap_alloc_new w (.cells #[.int .i64 1, .int .i64 0, (.string ⟨#[]⟩), (.slice none 0 0), (.slice none 0 0), (.slice none 0 0)] 27)
  refine bodyPost_ret (results_cell4 rfl rfl hvb) rfl ⟨(Step.alloc _).mono (fun _ h => h), _, rfl, VIs.flat [] (by omega) (by omega) (by simp), hH.out.step (Step.alloc _)⟩
set_option maxRecDepth 100000 in
set_option maxHeartbeats 2000000 in
theorem rd_greatest {w : World} {R B o c a : Nat} {b : Bs} (deep : Int) (rec_ : Bool → Nat → Res (List (Bs × Val))) (h : Rd w R B o c b a) :
    Calls Tryd.prog 88 #[.pointer (some ⟨R, 0, none⟩), .int .i64 deep] w (DecP w R B o c b (decV b rec_ 127 a)) := by
  have hd : decV b rec_ 127 a = .ok (.bare 12) a := rfl
  rw [hd]
  clear hd
  have hle := h.le
  have hB := h.blt
  have hR := lt_of_block h.cell
  have hne : w.heap.size ≠ R := by omega
  have hH := Lib.hid h
  clear h
  go_enter Tryd.func88, Tryd.ntmps88
  go_wp2_with fail
  have hvb := heap_alloc_new w (.cells #[.int .i64 12, .int .i64 0, (.string ⟨#[]⟩), (.slice none 0 0), (.slice none 0 0), (.slice none 0 0)] 27)
  refine bodyPost_ret (results_cell4 rfl rfl hvb) rfl ⟨(Step.alloc _).mono (fun _ h => h), _, rfl, VIs.flat [] (by omega) (by omega) (by simp), hH.out.step (Step.alloc _)⟩
end Go.Proofs.YtbkmnhogfegmcaaDoor
