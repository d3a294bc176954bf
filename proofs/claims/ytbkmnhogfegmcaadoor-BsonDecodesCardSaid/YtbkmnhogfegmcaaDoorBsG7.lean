/- bson: the reader reads values without parts. bson: the reader reads texts and bytes. bson: which kinds are known, how each is read; documents. bson: the reader reads lists. bson: the fields that are being read: their row, their meaning. -/
import Derived.Test.YtbkmnhogfegmcaaDoorBsG2
set_option linter.unusedVariables false
set_option linter.unusedSimpArgs false
namespace Go.Proofs.YtbkmnhogfegmcaaDoor
open Go.RowKit

/-- How the reading of a value ends. -/
def DecP (w : World) (R B o c : Nat) (b : Bs) : Res Val → Ending → World → Prop
  | .ok v a', e, w' => Step [R] id id w w' ∧ ∃ cs : List Value, e = .returned (.agg cs.toArray) ∧ VIs (fun k => w.heap.size ≤ k) w' v cs ∧ Rd w' R B o c b a'
  | .bad n, e, w' => Step [R] id id w w' ∧ e = broke n
theorem VIs.flat {P : Nat → Prop} {w : World} {k n : Int} (s : Bs) (hk : -9223372036854775808 ≤ k ∧ k ≤ 9223372036854775807) (hn : -9223372036854775808 ≤ n ∧ n ≤ 9223372036854775807) (hs : s.length ≤ 140737488351232) :
    VIs P w (.mk k n s [] [] []) [.int .i64 k, .int .i64 n, .string (strOf s), .slice none 0 0, .slice none 0 0, .slice none 0 0] := by
  refine VIs.mk ⟨.slice none 0 0, none, 0, none, 0, rfl, .inl ⟨none, 0, rfl, rfl, fun _ => rfl⟩, ⟨by simp [Val.f], by simp [Val.l], fun _ => rfl, fun _ => rfl⟩, ⟨hk.1, hk.2, hn.1, hn.2⟩, ⟨hs, by simp [Val.b], by simp [Val.f], by simp [Val.l]⟩, ?_, ?_⟩
  · simp [Val.f, FIs]
  · simp [Val.l, LIs]
theorem VIs.bytes {P : Nat → Prop} {w : World} {k : Int} {v : Value} {l : Bs} (hk : -9223372036854775808 ≤ k ∧ k ≤ 9223372036854775807) (h : BIn P w v l) (hl : l.length ≤ 140737488351232) :
    VIs P w (.mk k 0 [] l [] []) [.int .i64 k, .int .i64 0, .string (strOf []), v, .slice none 0 0, .slice none 0 0] := by
  refine VIs.mk ⟨v, none, 0, none, 0, rfl, h, ⟨by simp [Val.f], by simp [Val.l], fun _ => rfl, fun _ => rfl⟩, ⟨hk.1, hk.2, by simp [Val.num], by simp [Val.num]⟩, ⟨by simp [Val.s], hl, by simp [Val.f], by simp [Val.l]⟩, ?_, ?_⟩
  · simp [Val.f, FIs]
  · simp [Val.l, LIs]

/-- A value is stored, part by part. -/
def set6 (w : World) (V : Nat) (v0 v1 v2 v3 v4 v5 : Value) : World :=
  (((((w.setCell ⟨V, 0, none⟩ v0).setCell ⟨V, 1, none⟩ v1).setCell ⟨V, 2, none⟩ v2).setCell ⟨V, 3, none⟩ v3).setCell ⟨V, 4, none⟩ v4).setCell ⟨V, 5, none⟩ v5
section
variable {w : World} {V : Nat} {c0 c1 c2 c3 c4 c5 v0 v1 v2 v3 v4 v5 : Value} {t : TypeId}
theorem set6_heap (h : w.heap[V]? = some (.cells #[c0, c1, c2, c3, c4, c5] t (0, 0))) : (set6 w V v0 v1 v2 v3 v4 v5).heap[V]? = some (.cells #[v0, v1, v2, v3, v4, v5] t (0, 0)) := by
  have h1 := set_blk h 0 v0
  have h2 := set_blk h1 1 v1
  have h3 := set_blk h2 2 v2
  have h4 := set_blk h3 3 v3
  have h5 := set_blk h4 4 v4
  have h6 := set_blk h5 5 v5
  unfold set6
  rw [h6]; rfl
theorem set6_grown : w.grownBy (set6 w V v0 v1 v2 v3 v4 v5) (some V) := by
  have h : ∀ (w : World) (i : Nat) (v : Value), w.grownBy (w.setCell ⟨V, i, none⟩ v) (some V) := fun w i v => ⟨rfl, rfl, rfl, by simp [World.setCell], fun k _ hk => Below.heap_setCell _ _ _ _ (fun e => hk (by rw [e]))⟩
  unfold set6
  exact (((((h _ _ _).trans (h _ _ _)).trans (h _ _ _)).trans (h _ _ _)).trans (h _ _ _)).trans (h _ _ _)
theorem results_cell4 {fn : Func} {tmps : Array Value} (hfn : fn.results = #[.cell 4 27]) (ht : tmps.getD 4 undef = .pointer (some ⟨V, 0, none⟩)) (hb : w.heap[V]? = some (.cells #[v0, v1, v2, v3, v4, v5] t (0, 0))) :
    (results fn tmps).run Tryd.prog w = .ok (.agg #[v0, v1, v2, v3, v4, v5]) w := by
  have p0 := cell_blk hb (i := 0) rfl
  have p1 := cell_blk hb (i := 1) rfl
  have p2 := cell_blk hb (i := 2) rfl
  have p3 := cell_blk hb (i := 3) rfl
  have p4 := cell_blk hb (i := 4) rfl
  have p5 := cell_blk hb (i := 5) rfl
  simp at p0 p1 p2 p3 p4 p5
  have ht' : tmps[4]?.getD undef = .pointer (some ⟨V, 0, none⟩) := by simpa using ht
  simp [results, hfn, ht', go_sem, p0, p1, p2, p3, p4, p5]
end

/-- The value that was laid is the one that was read. -/
theorem dec_fin {w w2 : World} {z : Obj} {x : Val} {R B o c a' : Nat} {b : Bs} {v0 v1 v2 v3 v4 v5 : Value} (hs : Step [R] id id (w.alloc z) w2) (hr : Rd w2 R B o c b a') (hne : w.heap.size ≠ R) (hB : B < w.heap.size)
    (hx : VIs (fun k => w.heap.size < k) w2 x [v0, v1, v2, v3, v4, v5]) : DecP w R B o c b (.ok x a') (.returned (.agg #[v0, v1, v2, v3, v4, v5])) (set6 w2 w.heap.size v0 v1 v2 v3 v4 v5) := by
  have hg6 : w2.grownBy (set6 w2 w.heap.size v0 v1 v2 v3 v4 v5) (some w.heap.size) := set6_grown
  refine ⟨?_, _, rfl, hx.keep (fun k hk => by omega) (fun k hk hl => hg6.block k hl (by simp; omega)), hr.kept hg6 hne (by omega)⟩
  exact ((Step.alloc z).tail hs).tailNew (T2 := [w.heap.size]) (.grown hg6 (fun k hk => by cases hk; simp)) (by simp)


set_option maxRecDepth 100000 in
set_option maxHeartbeats 2000000 in
theorem rd_id {w : World} {R B o c a : Nat} {b : Bs} (deep : Int) (rec_ : Bool → Nat → Res (List (Bs × Val))) (h : Rd w R B o c b a) :
    Calls Tryd.prog 80 #[.pointer (some ⟨R, 0, none⟩), .int .i64 deep] w (DecP w R B o c b (decV b rec_ 7 a)) := by
  have hd : decV b rec_ 7 a = if b.length - a < 12 then .bad 2 else .ok (.mk 9 0 [] ((b.drop a).take 12) [] []) (a + 12) := rfl
  rw [hd]
  clear hd
  have hle := h.le
  have hB := h.blt
  have hR := lt_of_block h.cell
  have hne : w.heap.size ≠ R := by omega
  have hH := Lib.hid h
  clear h
  by_cases hn : b.length - a < 12
  · rw [if_pos hn]
    go_enter Tryd.func80, Tryd.ntmps80
    go_wp2_with (go_at_call 74; refine (take_bad 12 (hH.out.step (Step.alloc _)).cell hH.out.small hle (by omega)).mono ?_; rintro e w1 ⟨rfl, hs1⟩; have hs1H := Lib.hid hs1; clear hs1)
    exact ⟨rfl, ((Step.alloc _).tail hs1H.out).mono (fun _ h => by cases h), rfl⟩
  · rw [if_neg hn]
    have hn12 : a + 12 ≤ b.length := by omega
    go_enter Tryd.func80, Tryd.ntmps80
    go_wp2_with (first | (go_at_call 74; refine (take_ok 12 (hH.out.step (Step.alloc _)) hn12).mono ?_; rintro e w1 ⟨⟨ad, rfl, had⟩, hr1, hs1⟩; obtain rfl := had (by omega); have hlie := hr1.lie a 12; have hlt1 := hs1.size; have hvb := hs1.at (heap_alloc_new w _) (by simp; exact hne); have hvbH := Lib.hid hvb; have hr1H := Lib.hid hr1; have hs1H := Lib.hid hs1; have hlieH := Lib.hid hlie; clear hr1 hs1 hlie hvb had) | (go_at_call 36; refine (bs_clone _ 12 _ _ w1 (take_len hn12).symm (by omega) hlieH.out).mono ?_; rintro e w2 ⟨v, rfl, hb2, -, hs2, hv2⟩; obtain ⟨va, vc, rfl⟩ := hb2.shape; rw [take_len hn12] at *; have hvb2 := hs2.at hvbH.out (by simp); have p0 := cell_blk hvb2 (i := 0) rfl; have p1 := cell_blk hvb2 (i := 1) rfl; have p2 := cell_blk hvb2 (i := 2) rfl; have p3 := cell_blk hvb2 (i := 3) rfl; have p4 := cell_blk hvb2 (i := 4) rfl; have p5 := cell_blk hvb2 (i := 5) rfl; have pf := free_blk hvb2; have hvb2H := Lib.hid hvb2; have hb2H := Lib.hid hb2; have hs2H := Lib.hid hs2; have hv2H := Lib.hid hv2; clear hb2 hs2 hv2 hvb2))
    change bodyPost _ _ _ _ _ (set6 w2 w.heap.size (.int .i64 9) (.int .i64 0) (.string ⟨#[]⟩) (.slice va 12 vc) (.slice none 0 0) (.slice none 0 0))
    simp only [World.size_alloc] at hlt1
    exact bodyPost_ret (results_cell4 rfl rfl (set6_heap hvb2H.out)) rfl (dec_fin (hs1H.out.tail (hs2H.out.mono (fun _ h => by cases h))) (hr1H.out.step hs2H.out) hne hB (VIs.bytes (by omega) (hb2H.out.keep (fun k hk => by omega) (fun _ _ _ => rfl)) (by rw [take_len hn12]; omega)))

set_option maxRecDepth 100000 in
set_option maxHeartbeats 2000000 in
theorem rd_bool {w : World} {R B o c a : Nat} {b : Bs} (deep : Int) (rec_ : Bool → Nat → Res (List (Bs × Val))) (h : Rd w R B o c b a) :
    Calls Tryd.prog 81 #[.pointer (some ⟨R, 0, none⟩), .int .i64 deep] w (DecP w R B o c b (decV b rec_ 8 a)) := by
  have hd : decV b rec_ 8 a = if b.length - a < 1 then .bad 2 else if numAt b a 1 ≤ 1 then .ok (.mk 10 (numAt b a 1) [] [] [] []) (a + 1) else .bad 4 := rfl
  rw [hd]
  clear hd
  have hle := h.le
  have hB := h.blt
  have hR := lt_of_block h.cell
  have hne : w.heap.size ≠ R := by omega
  have hH := Lib.hid h
  clear h
  by_cases hn : b.length - a < 1
  · rw [if_pos hn]
    go_enter Tryd.func81, Tryd.ntmps81
    go_wp2_with (go_at_call 47; refine (number_bad 1 (hH.out.step (Step.alloc _)).cell hH.out.small hle (by omega)).mono ?_; rintro e w1 ⟨rfl, hs1⟩; have hs1H := Lib.hid hs1; clear hs1)
    exact ⟨rfl, ((Step.alloc _).tail hs1H.out).mono (fun _ h => by cases h), rfl⟩
  · rw [if_neg hn]
    have hn2 : a + 1 ≤ b.length := by omega
    obtain ⟨N, hN⟩ : ∃ N, numAt b a 1 = N := ⟨_, rfl⟩
    rw [hN]
    have hN := Lib.hid hN
    by_cases h1 : N ≤ 1
    · rw [if_pos h1]
      have h1i : (N : Int) ≤ 1 := by omega
      have hw1 : wrap64 (N : Int) = (N : Int) := wrap_id (by omega) (by omega)
      go_enter Tryd.func81, Tryd.ntmps81
      go_wp2_with (first | (go_at_call 47; refine (number_ok 1 (hH.out.step (Step.alloc _)) hn2 (by omega) (by omega)).mono ?_; rintro e w1 ⟨rfl, hr1, hs1⟩; rw [hN.out]; have hvb := hs1.at (heap_alloc_new w _) (by simp; exact hne); have p0 := cell_blk hvb (i := 0) rfl; have p1 := cell_blk hvb (i := 1) rfl; have p2 := cell_blk hvb (i := 2) rfl; have p3 := cell_blk hvb (i := 3) rfl; have p4 := cell_blk hvb (i := 4) rfl; have p5 := cell_blk hvb (i := 5) rfl; have pf := free_blk hvb; have hvbH := Lib.hid hvb; have hr1H := Lib.hid hr1; have hs1H := Lib.hid hs1; clear hr1 hs1 hvb) | (go_at_call 25; refine (must_ok 4 _).mono ?_; rintro e w' ⟨rfl, rfl⟩))
      change bodyPost _ _ _ _ _ (set6 w1 w.heap.size (.int .i64 10) (.int .i64 N) (.string ⟨#[]⟩) (.slice none 0 0) (.slice none 0 0) (.slice none 0 0))
      exact bodyPost_ret (results_cell4 rfl rfl (set6_heap hvbH.out)) rfl (dec_fin hs1H.out hr1H.out hne hB (VIs.flat [] (by omega) (by omega) (by simp)))
    · rw [if_neg h1]
      have h1i : ¬ (N : Int) ≤ 1 := by omega
      have h1d := Lib.hid (decide_eq_false h1i)
      go_enter Tryd.func81, Tryd.ntmps81
      go_wp2_with (first | (go_at_call 47; refine (number_ok 1 (hH.out.step (Step.alloc _)) hn2 (by omega) (by omega)).mono ?_; rintro e w1 ⟨rfl, hr1, hs1⟩; rw [hN.out]; have hvb := hs1.at (heap_alloc_new w _) (by simp; exact hne); have p0 := cell_blk hvb (i := 0) rfl; have p1 := cell_blk hvb (i := 1) rfl; have p2 := cell_blk hvb (i := 2) rfl; have p3 := cell_blk hvb (i := 3) rfl; have p4 := cell_blk hvb (i := 4) rfl; have p5 := cell_blk hvb (i := 5) rfl; have pf := free_blk hvb; have hvbH := Lib.hid hvb; have hr1H := Lib.hid hr1; have hs1H := Lib.hid hs1; clear hr1 hs1 hvb) | (go_at_call 25; (try rw [h1d.out]); refine (must_bad 4 _).mono ?_; rintro e w' ⟨rfl, rfl⟩))
      exact ⟨rfl, ((Step.alloc _).tail hs1H.out), rfl⟩

theorem conv64 (m : Nat) (h : m < 18446744073709551616) : wrap64 (m : Int) = signed 8 m := by
  unfold signed wrap64
  simp only [show 8 * 8 - 1 = 63 from rfl, show 8 * 8 = 64 from rfl, show (2 : Nat) ^ 63 = 9223372036854775808 from rfl, show (2 : Int) ^ 64 = 18446744073709551616 from rfl]
  split <;> omega
theorem numAt_lt8 {b : Bs} {a : Nat} (h : a + 8 ≤ b.length) : numAt b a 8 < 18446744073709551616 := by
  have := leVal_lt ((b.drop a).take 8)
  rw [take_len h] at this
  exact this
theorem signed8_range (m : Nat) (h : m < 18446744073709551616) : -9223372036854775808 ≤ signed 8 m ∧ signed 8 m ≤ 9223372036854775807 := by
  rw [← conv64 m h]; unfold wrap64; omega
theorem signed4_range (m : Nat) (h : m < 4294967296) : -2147483648 ≤ signed 4 m ∧ signed 4 m ≤ 2147483647 := by
  rw [← signed_conv m h]; unfold wrap64 wrap32; omega

set_option maxRecDepth 100000 in
set_option maxHeartbeats 2000000 in
theorem rd_date {w : World} {R B o c a : Nat} {b : Bs} (deep : Int) (rec_ : Bool → Nat → Res (List (Bs × Val))) (h : Rd w R B o c b a) :
    Calls Tryd.prog 82 #[.pointer (some ⟨R, 0, none⟩), .int .i64 deep] w (DecP w R B o c b (decV b rec_ 9 a)) := by
  have hd : decV b rec_ 9 a = if b.length - a < 8 then .bad 2 else .ok (.mk 11 (signed 8 (numAt b a 8)) [] [] [] []) (a + 8) := rfl
  rw [hd]
  clear hd
  have hle := h.le
  have hB := h.blt
  have hR := lt_of_block h.cell
  have hne : w.heap.size ≠ R := by omega
  have hH := Lib.hid h
  clear h
  by_cases hn : b.length - a < 8
  · rw [if_pos hn]
    go_enter Tryd.func82, Tryd.ntmps82
    go_wp2_with (go_at_call 47; refine (number_bad 8 (hH.out.step (Step.alloc _)).cell hH.out.small hle (by omega)).mono ?_; rintro e w1 ⟨rfl, hs1⟩; have hs1H := Lib.hid hs1; clear hs1)
    exact ⟨rfl, ((Step.alloc _).tail hs1H.out).mono (fun _ h => by cases h), rfl⟩
  · rw [if_neg hn]
    have hn2 : a + 8 ≤ b.length := by omega
    have hlt := numAt_lt8 hn2
    obtain ⟨N, hN⟩ : ∃ N, numAt b a 8 = N := ⟨_, rfl⟩
    rw [hN] at hlt ⊢
    have hN := Lib.hid hN
    have hw1 : wrap64 (N : Int) = signed 8 N := conv64 N hlt
    have hrg := signed8_range N hlt
    generalize signed 8 N = S at *
    go_enter Tryd.func82, Tryd.ntmps82
    go_wp2_with (go_at_call 47; refine (number_ok 8 (hH.out.step (Step.alloc _)) hn2 (by omega) (by omega)).mono ?_; rintro e w1 ⟨rfl, hr1, hs1⟩; rw [hN.out]; have hvb := hs1.at (heap_alloc_new w _) (by simp; exact hne); have p0 := cell_blk hvb (i := 0) rfl; have p1 := cell_blk hvb (i := 1) rfl; have p2 := cell_blk hvb (i := 2) rfl; have p3 := cell_blk hvb (i := 3) rfl; have p4 := cell_blk hvb (i := 4) rfl; have p5 := cell_blk hvb (i := 5) rfl; have pf := free_blk hvb; have hvbH := Lib.hid hvb; have hr1H := Lib.hid hr1; have hs1H := Lib.hid hs1; clear hr1 hs1 hvb)
    change bodyPost _ _ _ _ _ (set6 w1 w.heap.size (.int .i64 11) (.int .i64 S) (.string ⟨#[]⟩) (.slice none 0 0) (.slice none 0 0) (.slice none 0 0))
    exact bodyPost_ret (results_cell4 rfl rfl (set6_heap hvbH.out)) rfl (dec_fin hs1H.out hr1H.out hne hB (VIs.flat [] (by omega) (by omega) (by simp)))
set_option maxRecDepth 100000 in
set_option maxHeartbeats 2000000 in
theorem rd_int64 {w : World} {R B o c a : Nat} {b : Bs} (deep : Int) (rec_ : Bool → Nat → Res (List (Bs × Val))) (h : Rd w R B o c b a) :
    Calls Tryd.prog 84 #[.pointer (some ⟨R, 0, none⟩), .int .i64 deep] w (DecP w R B o c b (decV b rec_ 18 a)) := by
  have hd : decV b rec_ 18 a = if b.length - a < 8 then .bad 2 else .ok (.mk 4 (signed 8 (numAt b a 8)) [] [] [] []) (a + 8) := rfl
  rw [hd]
  clear hd
  have hle := h.le
  have hB := h.blt
  have hR := lt_of_block h.cell
  have hne : w.heap.size ≠ R := by omega
  have hH := Lib.hid h
  clear h
  by_cases hn : b.length - a < 8
  · rw [if_pos hn]
    go_enter Tryd.func84, Tryd.ntmps84
    go_wp2_with (go_at_call 47; refine (number_bad 8 (hH.out.step (Step.alloc _)).cell hH.out.small hle (by omega)).mono ?_; rintro e w1 ⟨rfl, hs1⟩; have hs1H := Lib.hid hs1; clear hs1)
    exact ⟨rfl, ((Step.alloc _).tail hs1H.out).mono (fun _ h => by cases h), rfl⟩
  · rw [if_neg hn]
    have hn2 : a + 8 ≤ b.length := by omega
    have hlt := numAt_lt8 hn2
    obtain ⟨N, hN⟩ : ∃ N, numAt b a 8 = N := ⟨_, rfl⟩
    rw [hN] at hlt ⊢
    have hN := Lib.hid hN
    have hw1 : wrap64 (N : Int) = signed 8 N := conv64 N hlt
    have hrg := signed8_range N hlt
    generalize signed 8 N = S at *
    go_enter Tryd.func84, Tryd.ntmps84
    go_wp2_with (go_at_call 47; refine (number_ok 8 (hH.out.step (Step.alloc _)) hn2 (by omega) (by omega)).mono ?_; rintro e w1 ⟨rfl, hr1, hs1⟩; rw [hN.out]; have hvb := hs1.at (heap_alloc_new w _) (by simp; exact hne); have p0 := cell_blk hvb (i := 0) rfl; have p1 := cell_blk hvb (i := 1) rfl; have p2 := cell_blk hvb (i := 2) rfl; have p3 := cell_blk hvb (i := 3) rfl; have p4 := cell_blk hvb (i := 4) rfl; have p5 := cell_blk hvb (i := 5) rfl; have pf := free_blk hvb; have hvbH := Lib.hid hvb; have hr1H := Lib.hid hr1; have hs1H := Lib.hid hs1; clear hr1 hs1 hvb)
    change bodyPost _ _ _ _ _ (set6 w1 w.heap.size (.int .i64 4) (.int .i64 S) (.string ⟨#[]⟩) (.slice none 0 0) (.slice none 0 0) (.slice none 0 0))
    exact bodyPost_ret (results_cell4 rfl rfl (set6_heap hvbH.out)) rfl (dec_fin hs1H.out hr1H.out hne hB (VIs.flat [] (by omega) (by omega) (by simp)))

set_option maxRecDepth 100000 in
set_option maxHeartbeats 2000000 in
theorem rd_int32 {w : World} {R B o c a : Nat} {b : Bs} (deep : Int) (rec_ : Bool → Nat → Res (List (Bs × Val))) (h : Rd w R B o c b a) :
    Calls Tryd.prog 83 #[.pointer (some ⟨R, 0, none⟩), .int .i64 deep] w (DecP w R B o c b (decV b rec_ 16 a)) := by
  have hd : decV b rec_ 16 a = if b.length - a < 4 then .bad 2 else .ok (.mk 3 (signed 4 (numAt b a 4)) [] [] [] []) (a + 4) := rfl
  rw [hd]
  clear hd
  have hle := h.le
  have hB := h.blt
  have hR := lt_of_block h.cell
  have hne : w.heap.size ≠ R := by omega
  have hH := Lib.hid h
  clear h
  by_cases hn : b.length - a < 4
  · rw [if_pos hn]
    go_enter Tryd.func83, Tryd.ntmps83
    go_wp2_with (go_at_call 46; refine (signed_bad (hH.out.step (Step.alloc _)).cell hH.out.small hle (by omega)).mono ?_; rintro e w1 ⟨rfl, hs1⟩; have hs1H := Lib.hid hs1; clear hs1)
    exact ⟨rfl, ((Step.alloc _).tail hs1H.out).mono (fun _ h => by cases h), rfl⟩
  · rw [if_neg hn]
    have hn2 : a + 4 ≤ b.length := by omega
    have hrg := signed4_range _ (numAt_lt4 hn2)
    obtain ⟨S, hS⟩ : ∃ S, signed 4 (numAt b a 4) = S := ⟨_, rfl⟩
    rw [hS] at hrg ⊢
    have hN := Lib.hid hS
    have hw1 : wrap64 S = S := wrap_id (by omega) (by omega)
    clear hS
    go_enter Tryd.func83, Tryd.ntmps83
    go_wp2_with (go_at_call 46; refine (signed_ok (hH.out.step (Step.alloc _)) hn2).mono ?_; rintro e w1 ⟨rfl, hr1, hs1⟩; rw [hN.out]; have hvb := hs1.at (heap_alloc_new w _) (by simp; exact hne); have p0 := cell_blk hvb (i := 0) rfl; have p1 := cell_blk hvb (i := 1) rfl; have p2 := cell_blk hvb (i := 2) rfl; have p3 := cell_blk hvb (i := 3) rfl; have p4 := cell_blk hvb (i := 4) rfl; have p5 := cell_blk hvb (i := 5) rfl; have pf := free_blk hvb; have hvbH := Lib.hid hvb; have hr1H := Lib.hid hr1; have hs1H := Lib.hid hs1; clear hr1 hs1 hvb)
    change bodyPost _ _ _ _ _ (set6 w1 w.heap.size (.int .i64 3) (.int .i64 S) (.string ⟨#[]⟩) (.slice none 0 0) (.slice none 0 0) (.slice none 0 0))
    exact bodyPost_ret (results_cell4 rfl rfl (set6_heap hvbH.out)) rfl (dec_fin hs1H.out hr1H.out hne hB (VIs.flat [] (by omega) (by omega) (by simp)))

set_option maxRecDepth 100000 in
set_option maxHeartbeats 2000000 in
theorem rd_double {w : World} {R B o c a : Nat} {b : Bs} (deep : Int) (rec_ : Bool → Nat → Res (List (Bs × Val))) (h : Rd w R B o c b a) :
    Calls Tryd.prog 85 #[.pointer (some ⟨R, 0, none⟩), .int .i64 deep] w (DecP w R B o c b (decV b rec_ 1 a)) := by
  have hd : decV b rec_ 1 a = if b.length - a < 8 then .bad 2 else .bad 8 := rfl
  rw [hd]
  clear hd
  have hle := h.le
  have hB := h.blt
  have hR := lt_of_block h.cell
  have hne : w.heap.size ≠ R := by omega
  have hH := Lib.hid h
  clear h
  by_cases hn : b.length - a < 8
  · rw [if_pos hn]
    go_enter Tryd.func85, Tryd.ntmps85
    go_wp2_with (go_at_call 74; refine (take_bad 8 (hH.out.step (Step.alloc _)).cell hH.out.small hle (by omega)).mono ?_; rintro e w1 ⟨rfl, hs1⟩; have hs1H := Lib.hid hs1; clear hs1)
    exact ⟨rfl, ((Step.alloc _).tail hs1H.out).mono (fun _ h => by cases h), rfl⟩
  · rw [if_neg hn]
    go_enter Tryd.func85, Tryd.ntmps85
    go_wp2_with (go_at_call 74; refine (take_ok 8 (hH.out.step (Step.alloc _)) (by omega)).mono ?_; rintro e w1 ⟨⟨ad, rfl, had⟩, hr1, hs1⟩; have hs1H := Lib.hid hs1; clear hr1 hs1 had)
    exact ⟨rfl, ((Step.alloc _).tail hs1H.out), rfl⟩
set_option maxRecDepth 100000 in
set_option maxHeartbeats 2000000 in
theorem rd_decimal {w : World} {R B o c a : Nat} {b : Bs} (deep : Int) (rec_ : Bool → Nat → Res (List (Bs × Val))) (h : Rd w R B o c b a) :
    Calls Tryd.prog 86 #[.pointer (some ⟨R, 0, none⟩), .int .i64 deep] w (DecP w R B o c b (decV b rec_ 19 a)) := by
  have hd : decV b rec_ 19 a = if b.length - a < 16 then .bad 2 else .bad 8 := rfl
  rw [hd]
  clear hd
  have hle := h.le
  have hB := h.blt
  have hR := lt_of_block h.cell
  have hne : w.heap.size ≠ R := by omega
  have hH := Lib.hid h
  clear h
  by_cases hn : b.length - a < 16
  · rw [if_pos hn]
    go_enter Tryd.func86, Tryd.ntmps86
    go_wp2_with (go_at_call 74; refine (take_bad 16 (hH.out.step (Step.alloc _)).cell hH.out.small hle (by omega)).mono ?_; rintro e w1 ⟨rfl, hs1⟩; have hs1H := Lib.hid hs1; clear hs1)
    exact ⟨rfl, ((Step.alloc _).tail hs1H.out).mono (fun _ h => by cases h), rfl⟩
  · rw [if_neg hn]
    go_enter Tryd.func86, Tryd.ntmps86
    go_wp2_with (go_at_call 74; refine (take_ok 16 (hH.out.step (Step.alloc _)) (by omega)).mono ?_; rintro e w1 ⟨⟨ad, rfl, had⟩, hr1, hs1⟩; have hs1H := Lib.hid hs1; clear hr1 hs1 had)
    exact ⟨rfl, ((Step.alloc _).tail hs1H.out), rfl⟩

set_option maxRecDepth 100000 in
set_option maxHeartbeats 2000000 in
theorem rd_null {w : World} {R B o c a : Nat} {b : Bs} (deep : Int) (rec_ : Bool → Nat → Res (List (Bs × Val))) (h : Rd w R B o c b a) :
    Calls Tryd.prog 89 #[.pointer (some ⟨R, 0, none⟩), .int .i64 deep] w (DecP w R B o c b (decV b rec_ 10 a)) := by
  have hd : decV b rec_ 10 a = .ok (.bare 2) a := rfl
  rw [hd]
  clear hd
  have hle := h.le
  have hB := h.blt
  have hR := lt_of_block h.cell
  have hne : w.heap.size ≠ R := by omega
  have hH := Lib.hid h
  clear h
  go_enter Tryd.func89, Tryd.ntmps89
  go_wp2_with fail
  have hvb := heap_alloc_new w (.cells #[.int .i64 2, .int .i64 0, (.string ⟨#[]⟩), (.slice none 0 0), (.slice none 0 0), (.slice none 0 0)] 27)
  refine bodyPost_ret (results_cell4 rfl rfl hvb) rfl ⟨(Step.alloc _).mono (fun _ h => h), _, rfl, VIs.flat [] (by omega) (by omega) (by simp), hH.out.step (Step.alloc _)⟩
set_option maxRecDepth 100000 in
set_option maxHeartbeats 2000000 in
theorem rd_least {w : World} {R B o c a : Nat} {b : Bs} (deep : Int) (rec_ : Bool → Nat → Res (List (Bs × Val))) (h : Rd w R B o c b a) :
    Calls Tryd.prog 87 #[.pointer (some ⟨R, 0, none⟩), .int .i64 deep] w (DecP w R B o c b (decV b rec_ 255 a)) := by
  have hd : decV b rec_ 255 a = .ok (.bare 1) a := rfl
  rw [hd]
  clear hd
  have hle := h.le
  have hB := h.blt
  have hR := lt_of_block h.cell
  have hne : w.heap.size ≠ R := by omega
  have hH := Lib.hid h
  clear h
  go_enter Tryd.func87, Tryd.ntmps87
  go_wp2_with fail
  have hvb := heap_alloc_new w (.cells #[.int .i64 1, .int .i64 0, (.string ⟨#[]⟩), (.slice none 0 0), (.slice none 0 0), (.slice none 0 0)] 27)
  refine bodyPost_ret (results_cell4 rfl rfl hvb) rfl ⟨(Step.alloc _).mono (fun _ h => h), _, rfl, VIs.flat [] (by omega) (by omega) (by simp), hH.out.step (Step.alloc _)⟩
set_option maxRecDepth 100000 in
set_option maxHeartbeats 2000000 in
theorem rd_greatest {w : World} {R B o c a : Nat} {b : Bs} (deep : Int) (rec_ : Bool → Nat → Res (List (Bs × Val))) (h : Rd w R B o c b a) :
    Calls Tryd.prog 88 #[.pointer (some ⟨R, 0, none⟩), .int .i64 deep] w (DecP w R B o c b (decV b rec_ 127 a)) := by
  have hd : decV b rec_ 127 a = .ok (.bare 12) a := rfl
  rw [hd]
  clear hd
  have hle := h.le
  have hB := h.blt
  have hR := lt_of_block h.cell
  have hne : w.heap.size ≠ R := by omega
  have hH := Lib.hid h
  clear h
  go_enter Tryd.func88, Tryd.ntmps88
  go_wp2_with fail
  have hvb := heap_alloc_new w (.cells #[.int .i64 12, .int .i64 0, (.string ⟨#[]⟩), (.slice none 0 0), (.slice none 0 0), (.slice none 0 0)] 27)
  refine bodyPost_ret (results_cell4 rfl rfl hvb) rfl ⟨(Step.alloc _).mono (fun _ h => h), _, rfl, VIs.flat [] (by omega) (by omega) (by simp), hH.out.step (Step.alloc _)⟩
end Go.Proofs.YtbkmnhogfegmcaaDoor
namespace Go.Proofs.YtbkmnhogfegmcaaDoor
open Go.RowKit


set_option maxRecDepth 100000 in
set_option maxHeartbeats 4000000 in
theorem rd_text {P : Nat → Prop} {w : World} {R B o c a : Nat} {b : Bs} (deep : Int) (rec_ : Bool → Nat → Res (List (Bs × Val))) (h : Rd w R B o c b a) (ht : Tabs P w) (hPR : ¬ P R) :
    Calls Tryd.prog 76 #[.pointer (some ⟨R, 0, none⟩), .int .i64 deep] w (DecP w R B o c b (decV b rec_ 2 a)) := by
  have hd : decV b rec_ 2 a = if b.length - a < 4 then .bad 2 else
    if signed 4 (numAt b a 4) < 1 then .bad 4 else
    if (b.length : Int) - (a + 4 : Nat) < signed 4 (numAt b a 4) then .bad 2 else
    if (b.drop (a + 4)).getD ((signed 4 (numAt b a 4)).toNat - 1) 1 ≠ 0 then .bad 4 else
    if utf8 ((b.drop (a + 4)).take ((signed 4 (numAt b a 4)).toNat - 1)) then .ok (.mk 5 0 ((b.drop (a + 4)).take ((signed 4 (numAt b a 4)).toNat - 1)) [] [] []) (a + 4 + (signed 4 (numAt b a 4)).toNat) else .bad 5 := rfl
  rw [hd]
  clear hd
  have hle := h.le
  have hB := h.blt
  have hR := lt_of_block h.cell
  have hne : w.heap.size ≠ R := by omega
  have hH := Lib.hid h
  have hcap := h.cap
  have hsm := h.small
  clear h
  have ht := Lib.hid (ht.grown (World.grownBy_alloc w (.cells #[.int .i64 0, .int .i64 0, (.string ⟨#[]⟩), (.slice none 0 0), (.slice none 0 0), (.slice none 0 0)] 27) none))
  by_cases hn : b.length - a < 4
  · rw [if_pos hn]
    go_enter Tryd.func76, Tryd.ntmps76
    go_wp2_with (go_at_call 26; refine (length_short _ (hH.out.step (Step.alloc _)).cell hsm hle (by omega)).mono ?_; rintro e w1 ⟨rfl, hs1⟩; have hs1H := Lib.hid hs1; clear hs1)
    exact ⟨rfl, ((Step.alloc _).tail hs1H.out).mono (fun _ h => by cases h), rfl⟩
  rw [if_neg hn]
  have hn4 : a + 4 ≤ b.length := by omega
  by_cases hlow : signed 4 (numAt b a 4) < 1
  · rw [if_pos hlow]
    have hlow := Lib.hid (show ¬ 1 ≤ signed 4 (numAt b a 4) by omega)
    go_enter Tryd.func76, Tryd.ntmps76
    go_wp2_with (go_at_call 26; refine (length_bad 1 (hH.out.step (Step.alloc _)) hn4 (by first | (have := hlow.out; omega) | omega)).mono ?_; rintro e w1 ⟨rfl, hs1⟩; have hs1H := Lib.hid hs1; clear hs1)
    exact ⟨rfl, ((Step.alloc _).tail hs1H.out), rfl⟩
  rw [if_neg hlow]
  obtain ⟨m, hm⟩ : ∃ m : Nat, signed 4 (numAt b a 4) = (m : Int) + 1 := ⟨(signed 4 (numAt b a 4) - 1).toNat, by omega⟩
  have hlow := Lib.hid (show 1 ≤ signed 4 (numAt b a 4) by omega)
  rw [hm]
  have hN := Lib.hid hm
  have hm1 := Lib.hid (show (m : Int) + 1 = ((m + 1 : Nat) : Int) by push_cast; rfl)
  have htn : ((m : Int) + 1).toNat = m + 1 := by omega
  rw [htn]
  clear hm htn
  by_cases hsh : (b.length : Int) - (a + 4 : Nat) < (m : Int) + 1
  · rw [if_pos hsh]
    go_enter Tryd.func76, Tryd.ntmps76
    go_wp2_with (first | (go_at_call 26; refine (length_ok 1 (hH.out.step (Step.alloc _)) hn4 (by first | (have := hlow.out; omega) | omega)).mono ?_; rintro e w1 ⟨rfl, hr1, hs1⟩; rw [hN.out]; have hr1H := Lib.hid hr1; have hs1H := Lib.hid hs1; clear hr1 hs1) | (go_at_call 74; refine (take_bad _ hr1H.out.cell hsm (by omega) (by push_cast at hsh ⊢; omega)).mono ?_; rintro e w2 ⟨rfl, hs2⟩; have hs2H := Lib.hid hs2; clear hs2))
    exact ⟨rfl, ((Step.alloc _).tail hs1H.out).tail (hs2H.out.mono (fun _ h => by cases h)), rfl⟩
  rw [if_neg hsh]
  have hfit : a + 4 + m + 1 ≤ b.length := by push_cast at hsh; omega
  have hget : (b.drop (a + 4)).getD (m + 1 - 1) 1 = b[a + 4 + m] := by
    rw [Nat.add_sub_cancel, List.getD_eq_getElem?_getD, List.getElem?_drop, List.getElem?_eq_getElem (by omega)]; rfl
  rw [hget]
  simp only [Nat.add_sub_cancel]
  have hsl := Lib.hid (take_len (b := b) (a := a + 4) (n := m) (by omega))
  obtain ⟨s, hs⟩ : ∃ s, s = (b.drop (a + 4)).take m := ⟨_, rfl⟩
  rw [← hs] at hsl ⊢
  have hsH := Lib.hid hs
  obtain ⟨C, hC⟩ : ∃ C : Int, (b[a + 4 + m].toNat : Int) = C := ⟨_, rfl⟩
  have hCe := Lib.hid hC
  have hC0 : b[a + 4 + m] = 0 ↔ C = 0 := by
    rw [← hC, ← UInt8.toNat_inj]; simp
  clear hsh hget hs hC
  have hb1 : (m : Int) ≤ ((c - (a + 4) : Nat) : Int) := by omega
  have hb2 : (0 : Int) ≤ (m : Int) := by omega
  by_cases hz : b[a + 4 + m] = 0
  rotate_left
  · rw [if_pos hz]
    have hC1 : ¬ C = 0 := fun h => hz (hC0.2 h)
    have hCd : (C == 0) = false := by rw [beq_eq_false_iff_ne]; exact hC1
    clear hC0
    go_enter Tryd.func76, Tryd.ntmps76
    go_wp2_with (first | (go_at_call 26; refine (length_ok 1 (hH.out.step (Step.alloc _)) hn4 (by first | (have := hlow.out; omega) | omega)).mono ?_; rintro e w1 ⟨rfl, hr1, hs1⟩; rw [hN.out]; have hr1H := Lib.hid hr1; have hs1H := Lib.hid hs1; clear hr1 hs1) | (go_at_call 74; rw [hm1.out]; refine (take_ok (m + 1) hr1H.out (by omega)).mono ?_; rintro e w2 ⟨⟨ad, rfl, had⟩, hr2, hs2⟩; obtain rfl := had (by omega); have hlast := hr2.bytes (a + 4 + m) (by omega); rw [hCe.out, ← Nat.add_assoc] at hlast; have hcv := bs_str B (o + (a + 4)) m (c - (a + 4)) s w2 hsl.out.symm (by rw [hsH.out]; exact hr2.lie (a + 4) m); have hvb := hs2.at (hs1H.out.at (heap_alloc_new w _) (by simp; exact hne)) (by simp; exact hne); have hvbH := Lib.hid hvb; have hr2H := Lib.hid hr2; have hs2H := Lib.hid hs2; clear hr2 hs2 hvb had) | (go_at_call 25; refine (must_bad _ _).mono ?_; rintro e w' ⟨rfl, rfl⟩))
    exact ⟨rfl, ((Step.alloc _).tail hs1H.out).tail hs2H.out, rfl⟩
  rw [if_neg (by simpa using hz)]
  obtain rfl := hC0.1 hz
  clear hC0
  cases hu : utf8 s
  · have huH := Lib.hid hu
    clear hu
    simp only [Bool.false_eq_true, if_false]
    go_enter Tryd.func76, Tryd.ntmps76
    go_wp2_with (first | (go_at_call 26; refine (length_ok 1 (hH.out.step (Step.alloc _)) hn4 (by first | (have := hlow.out; omega) | omega)).mono ?_; rintro e w1 ⟨rfl, hr1, hs1⟩; rw [hN.out]; have hr1H := Lib.hid hr1; have hs1H := Lib.hid hs1; clear hr1 hs1) | (go_at_call 74; rw [hm1.out]; refine (take_ok (m + 1) hr1H.out (by omega)).mono ?_; rintro e w2 ⟨⟨ad, rfl, had⟩, hr2, hs2⟩; obtain rfl := had (by omega); have hlast := hr2.bytes (a + 4 + m) (by omega); rw [hCe.out, ← Nat.add_assoc] at hlast; have hcv := bs_str B (o + (a + 4)) m (c - (a + 4)) s w2 hsl.out.symm (by rw [hsH.out]; exact hr2.lie (a + 4) m); have hvb := hs2.at (hs1H.out.at (heap_alloc_new w _) (by simp; exact hne)) (by simp; exact hne); have hvbH := Lib.hid hvb; have hr2H := Lib.hid hr2; have hs2H := Lib.hid hs2; clear hr2 hs2 hvb had) | (go_at_call 64; refine (bs_valid s (by have := hsl.out; omega) ((ht.out.one hs1H.out hPR).one hs2H.out hPR).utf).mono ?_; rintro e w3 ⟨rfl, hs3⟩; rw [huH.out]; have hvb := hs3.at hvbH.out (by simp); have p0 := cell_blk hvb (i := 0) rfl; have p1 := cell_blk hvb (i := 1) rfl; have p2 := cell_blk hvb (i := 2) rfl; have p3 := cell_blk hvb (i := 3) rfl; have p4 := cell_blk hvb (i := 4) rfl; have p5 := cell_blk hvb (i := 5) rfl; have pf := free_blk hvb; have hvb3H := Lib.hid hvb; have hs3H := Lib.hid hs3; clear hs3 hvb) | (go_at_call 25; (first | (with_reducible refine (must_ok _ _).mono ?_) | (with_reducible refine (must_bad _ _).mono ?_)); rintro e w' ⟨rfl, rfl⟩))
    exact ⟨rfl, (((Step.alloc _).tail hs1H.out).tail hs2H.out).tail (hs3H.out.mono (fun _ h => by cases h)), rfl⟩
  · have huH := Lib.hid hu
    clear hu
    simp only [if_true]
    go_enter Tryd.func76, Tryd.ntmps76
    go_wp2_with (first | (go_at_call 26; refine (length_ok 1 (hH.out.step (Step.alloc _)) hn4 (by first | (have := hlow.out; omega) | omega)).mono ?_; rintro e w1 ⟨rfl, hr1, hs1⟩; rw [hN.out]; have hr1H := Lib.hid hr1; have hs1H := Lib.hid hs1; clear hr1 hs1) | (go_at_call 74; rw [hm1.out]; refine (take_ok (m + 1) hr1H.out (by omega)).mono ?_; rintro e w2 ⟨⟨ad, rfl, had⟩, hr2, hs2⟩; obtain rfl := had (by omega); have hlast := hr2.bytes (a + 4 + m) (by omega); rw [hCe.out, ← Nat.add_assoc] at hlast; have hcv := bs_str B (o + (a + 4)) m (c - (a + 4)) s w2 hsl.out.symm (by rw [hsH.out]; exact hr2.lie (a + 4) m); have hvb := hs2.at (hs1H.out.at (heap_alloc_new w _) (by simp; exact hne)) (by simp; exact hne); have hvbH := Lib.hid hvb; have hr2H := Lib.hid hr2; have hs2H := Lib.hid hs2; clear hr2 hs2 hvb had) | (go_at_call 64; refine (bs_valid s (by have := hsl.out; omega) ((ht.out.one hs1H.out hPR).one hs2H.out hPR).utf).mono ?_; rintro e w3 ⟨rfl, hs3⟩; rw [huH.out]; have hvb := hs3.at hvbH.out (by simp); have p0 := cell_blk hvb (i := 0) rfl; have p1 := cell_blk hvb (i := 1) rfl; have p2 := cell_blk hvb (i := 2) rfl; have p3 := cell_blk hvb (i := 3) rfl; have p4 := cell_blk hvb (i := 4) rfl; have p5 := cell_blk hvb (i := 5) rfl; have pf := free_blk hvb; have hvb3H := Lib.hid hvb; have hs3H := Lib.hid hs3; clear hs3 hvb) | (go_at_call 25; refine (must_ok _ _).mono ?_; rintro e w' ⟨rfl, rfl⟩))
    change bodyPost _ _ _ _ _ (set6 w3 w.heap.size (.int .i64 5) (.int .i64 0) (.string (strOf s)) (.slice none 0 0) (.slice none 0 0) (.slice none 0 0))
    exact bodyPost_ret (results_cell4 rfl rfl (set6_heap hvb3H.out)) rfl (dec_fin ((hs1H.out.tail hs2H.out).tail (hs3H.out.mono (fun _ h => by cases h))) (hr2H.out.step hs3H.out) hne hB (VIs.flat s (by omega) (by omega) (by have := hsl.out; omega)))

set_option maxRecDepth 100000 in
set_option maxHeartbeats 4000000 in
theorem rd_raw {w : World} {R B o c a : Nat} {b : Bs} (deep : Int) (rec_ : Bool → Nat → Res (List (Bs × Val))) (h : Rd w R B o c b a) :
    Calls Tryd.prog 79 #[.pointer (some ⟨R, 0, none⟩), .int .i64 deep] w (DecP w R B o c b (decV b rec_ 5 a)) := by
  have hd : decV b rec_ 5 a = if b.length - a < 5 then .bad 2 else
    if signed 4 (numAt b a 4) < 0 then .bad 4 else
    if numAt b (a + 4) 1 ≠ 0 then .bad 4 else
    if (b.length : Int) - (a + 5 : Nat) < signed 4 (numAt b a 4) then .bad 2 else
    .ok (.mk 8 0 [] ((b.drop (a + 5)).take (signed 4 (numAt b a 4)).toNat) [] []) (a + 5 + (signed 4 (numAt b a 4)).toNat) := rfl
  rw [hd]
  clear hd
  have hle := h.le
  have hB := h.blt
  have hR := lt_of_block h.cell
  have hne : w.heap.size ≠ R := by omega
  have hH := Lib.hid h
  have hcap := h.cap
  have hsm := h.small
  clear h
  obtain ⟨W0, hW0⟩ : ∃ W0, W0 = w.alloc (.cells #[.int .i64 0, .int .i64 0, (.string ⟨#[]⟩), (.slice none 0 0), (.slice none 0 0), (.slice none 0 0)] 27) := ⟨_, rfl⟩
  have hA : Step [] id id w W0 := by rw [hW0]; exact Step.alloc _
  have hvb0 := Lib.hid (show W0.heap[w.heap.size]? = some (.cells #[.int .i64 0, .int .i64 0, (.string ⟨#[]⟩), (.slice none 0 0), (.slice none 0 0), (.slice none 0 0)] 27 (0, 0)) by rw [hW0]; exact heap_alloc_new w _)
  have hsz0 : w.heap.size < W0.heap.size := lt_of_block hvb0.out
  have hH0 := hH.out.step hA
  have k0 := cell_blk hH0.cell (i := 0) rfl
  have k1 := cell_blk hH0.cell (i := 1) rfl
  have hH0 := Lib.hid hH0
  have hAH := Lib.hid hA
  have hWH := Lib.hid hW0
  clear hA hW0
  have hw1 : IntKind.i64.wrap ((b.length : Int) - (a : Int)) = (b.length : Int) - (a : Int) := IntWalk.i64_in _ (by omega)
  by_cases hn : b.length - a < 5
  · rw [if_pos hn]
    have hd5 : decide ((5 : Int) ≤ (b.length : Int) - (a : Int)) = false := decide_eq_false (by omega)
    go_enter Tryd.func79, Tryd.ntmps79
    go_wp2_with fail
    rw [← hWH.out]
    refine wp_region_held_drew (S := fun w' => w'.cell? ⟨R, 0, none⟩ = some (.slice (some ⟨B, o, none⟩) b.length c) ∧ w'.cell? ⟨R, 1, none⟩ = some (.int .i64 a)) (by kernel_rfl) ⟨k0, k1⟩ (fun hHeld => ?_)
    refine wpAnyH_take (i := 0) (v := ?_) rfl (by kernel_rfl) (by kernel_rfl) (by kernel_rfl) (fun _ _ _ h => h) (Or.inl ⟨by kernel_rfl, ?_⟩) hHeld ?_
    rotate_left
    · intro w' hSw; (try dsimp only at hSw); go_simp
      all_goals (with_reducible rfl)
    simp only [Act.put, List.getElem_toArray, List.getElem_cons_zero, List.getElem_cons_succ, List.setIfInBounds_toArray, List.set_cons_zero, List.set_cons_succ]
    refine wpAnyH_take (i := 1) (v := ?_) rfl (by kernel_rfl) (by kernel_rfl) (by kernel_rfl) (fun _ _ _ h => h) (Or.inl ⟨by kernel_rfl, ?_⟩) hHeld ?_
    rotate_left
    · intro w' hSw; (try dsimp only at hSw); go_simp
      all_goals (with_reducible rfl)
    simp only [Act.put, List.getElem_toArray, List.getElem_cons_zero, List.getElem_cons_succ, List.setIfInBounds_toArray, List.set_cons_zero, List.set_cons_succ]
    refine wpAnyH_take (i := 2) (v := ?_) rfl (by kernel_rfl) (by kernel_rfl) (by kernel_rfl) (fun _ _ _ h => h) (Or.inl ⟨by kernel_rfl, ?_⟩) hHeld ?_
    rotate_left
    · intro w' hSw; (try dsimp only at hSw); go_simp
      all_goals (with_reducible rfl)
    simp only [Act.put, List.getElem_toArray, List.getElem_cons_zero, List.getElem_cons_succ, List.setIfInBounds_toArray, List.set_cons_zero, List.set_cons_succ]
    refine wpAnyH_take (i := 3) (v := ?_) rfl (by kernel_rfl) (by kernel_rfl) (by kernel_rfl) (fun _ _ _ h => h) (Or.inl ⟨by kernel_rfl, ?_⟩) hHeld ?_
    rotate_left
    · intro w' hSw; (try dsimp only at hSw); go_simp
      all_goals (with_reducible rfl)
    simp only [Act.put, List.getElem_toArray, List.getElem_cons_zero, List.getElem_cons_succ, List.setIfInBounds_toArray, List.set_cons_zero, List.set_cons_succ]
    refine wpAnyH_take (i := 4) (v := ?_) rfl (by kernel_rfl) (by kernel_rfl) (by kernel_rfl) (fun _ _ _ h => h) (Or.inl ⟨by kernel_rfl, ?_⟩) hHeld ?_
    rotate_left
    · intro w' hSw; (try dsimp only at hSw); go_simp
      all_goals (with_reducible rfl)
    simp only [Act.put, List.getElem_toArray, List.getElem_cons_zero, List.getElem_cons_succ, List.setIfInBounds_toArray, List.set_cons_zero, List.set_cons_succ]
    refine wpAnyH_take (i := 5) (v := ?_) rfl (by kernel_rfl) (by kernel_rfl) (by kernel_rfl) (fun _ _ _ h => h) (Or.inl ⟨by kernel_rfl, ?_⟩) hHeld ?_
    rotate_left
    · intro w' hSw; (try dsimp only at hSw); go_simp
      all_goals (with_reducible rfl)
    simp only [Act.put, List.getElem_toArray, List.getElem_cons_zero, List.getElem_cons_succ, List.setIfInBounds_toArray, List.set_cons_zero, List.set_cons_succ]
    refine wpAnyH_take (i := 6) (v := ?_) rfl (by kernel_rfl) (by kernel_rfl) (by kernel_rfl) (fun _ _ _ h => h) (Or.inl ⟨by kernel_rfl, ?_⟩) hHeld ?_
    rotate_left
    · intro w' hSw; (try dsimp only at hSw); go_simp
      all_goals (with_reducible rfl)
    simp only [Act.put, List.getElem_toArray, List.getElem_cons_zero, List.getElem_cons_succ, List.setIfInBounds_toArray, List.set_cons_zero, List.set_cons_succ]
    refine wpAnyH_take (i := 7) (v := ?_) rfl (by kernel_rfl) (by kernel_rfl) (by kernel_rfl) (fun _ _ _ h => h) (Or.inl ⟨by kernel_rfl, ?_⟩) hHeld ?_
    rotate_left
    · intro w' hSw; (try dsimp only at hSw); go_simp
      all_goals (with_reducible rfl)
    simp only [Act.put, List.getElem_toArray, List.getElem_cons_zero, List.getElem_cons_succ, List.setIfInBounds_toArray, List.set_cons_zero, List.set_cons_succ]
    refine wpAnyH_take (i := 8) (v := ?_) rfl (by kernel_rfl) (by kernel_rfl) (by kernel_rfl) (fun _ _ _ h => h) (Or.inl ⟨by kernel_rfl, ?_⟩) hHeld ?_
    rotate_left
    · intro w' hSw; (try dsimp only at hSw); go_simp
      all_goals (with_reducible rfl)
    simp only [Act.put, List.getElem_toArray, List.getElem_cons_zero, List.getElem_cons_succ, List.setIfInBounds_toArray, List.set_cons_zero, List.set_cons_succ]
    refine wpAnyH_take (i := 9) (v := ?_) rfl (by kernel_rfl) (by kernel_rfl) (by kernel_rfl) (fun _ _ _ h => h) (Or.inl ⟨by kernel_rfl, ?_⟩) hHeld ?_
    rotate_left
    · intro w' hSw; (try dsimp only at hSw); go_simp
      all_goals (with_reducible rfl)
    simp only [Act.put, List.getElem_toArray, List.getElem_cons_zero, List.getElem_cons_succ, List.setIfInBounds_toArray, List.set_cons_zero, List.set_cons_succ]
    refine wpAnyH_take (i := 10) (v := ?_) rfl (by kernel_rfl) (by kernel_rfl) (by kernel_rfl) (fun _ _ _ h => h) (Or.inl ⟨by kernel_rfl, ?_⟩) hHeld ?_
    rotate_left
    · intro w' hSw; (try dsimp only at hSw); go_simp
      all_goals (with_reducible rfl)
    simp only [Act.put, List.getElem_toArray, List.getElem_cons_zero, List.getElem_cons_succ, List.setIfInBounds_toArray, List.set_cons_zero, List.set_cons_succ]
    refine wpAnyH_ready (rs := [11]) (by kernel_rfl) (by simp) ?_
    refine AllReadyH.cons (o := _) rfl (fun K hK => ?_) AllReadyH.nil
    go_simp
    refine (must_bad 2 _).mono ?_
    rintro e w' ⟨rfl, rfl⟩
    exact ⟨rfl, (hAH.out.tail Step.drew).mono (fun _ h => by cases h), rfl⟩
  rw [if_neg hn]
  have hd5 : decide ((5 : Int) ≤ (b.length : Int) - (a : Int)) = true := decide_eq_true (by omega)
  have hn4 : a + 4 ≤ b.length := by omega
  have hfirst : ∀ nq, Rd (W0.drewN nq) R B o c b a := fun nq => hH0.out.step (Step.drewN W0 nq)
  have hfH := Lib.hid hfirst
  clear hfirst
  by_cases hlow : signed 4 (numAt b a 4) < 0
  · rw [if_pos hlow]
    have hlow := Lib.hid (show ¬ 0 ≤ signed 4 (numAt b a 4) by omega)
    go_enter Tryd.func79, Tryd.ntmps79
    go_wp2_with fail
    rw [← hWH.out]
    go_quiet ((go_at_call 25; exact quietL (must_ok 2 _)))
    go_wp2_with (go_at_call 26; refine (length_bad 0 (hfH.out _) hn4 (by first | (have := hlow.out; omega) | omega)).mono ?_; rintro e w1 ⟨rfl, hs1⟩; have hs1H := Lib.hid hs1; clear hs1)
    exact ⟨rfl, ((hAH.out.tail (Step.drewN W0 _)).mono (fun _ h => by cases h)).tail hs1H.out, rfl⟩
  rw [if_neg hlow]
  obtain ⟨n, hm⟩ : ∃ n : Nat, signed 4 (numAt b a 4) = (n : Int) := ⟨(signed 4 (numAt b a 4)).toNat, by omega⟩
  have hlow := Lib.hid (show 0 ≤ signed 4 (numAt b a 4) by omega)
  rw [hm]
  have hN := Lib.hid hm
  rw [Int.toNat_natCast]
  clear hm
  obtain ⟨S, hS⟩ : ∃ S, numAt b (a + 4) 1 = S := ⟨_, rfl⟩
  rw [hS]
  have hSb := Lib.hid hS
  clear hS
  by_cases hS0 : S = 0
  rotate_left
  · rw [if_pos hS0]
    have hS1 : ¬ (S : Int) = 0 := by omega
    have hSd : ((S : Int) == 0) = false := by rw [beq_eq_false_iff_ne]; exact hS1
    go_enter Tryd.func79, Tryd.ntmps79
    go_wp2_with fail
    rw [← hWH.out]
    go_quiet ((go_at_call 25; exact quietL (must_ok 2 _)))
    go_wp2_with (first | (go_at_call 26; refine (length_ok 0 (hfH.out _) hn4 (by first | (have := hlow.out; omega) | omega)).mono ?_; rintro e w1 ⟨rfl, hr1, hs1⟩; rw [hN.out]; have hr1H := Lib.hid hr1; have hs1H := Lib.hid hs1; clear hr1 hs1) | (go_at_call 47; refine (number_ok 1 hr1H.out (by omega) (by omega) (by omega)).mono ?_; rintro e w2 ⟨rfl, hr2, hs2⟩; rw [hSb.out]; have hr2H := Lib.hid hr2; have hs2H := Lib.hid hs2; clear hr2 hs2) | (go_at_call 25; refine (must_bad _ _).mono ?_; rintro e w' ⟨rfl, rfl⟩))
    exact ⟨rfl, (((hAH.out.tail (Step.drewN W0 _)).mono (fun _ h => by cases h)).tail hs1H.out).tail hs2H.out, rfl⟩
  subst hS0
  rw [if_neg (by simp)]
  by_cases hsh : (b.length : Int) - (a + 5 : Nat) < (n : Int)
  · rw [if_pos hsh]
    have hsh2 : b.length < a + 5 + n := by push_cast at hsh; omega
    clear hsh
    go_enter Tryd.func79, Tryd.ntmps79
    go_wp2_with fail
    rw [← hWH.out]
    go_quiet ((go_at_call 25; exact quietL (must_ok 2 _)))
    go_wp2_with (first | (go_at_call 26; refine (length_ok 0 (hfH.out _) hn4 (by first | (have := hlow.out; omega) | omega)).mono ?_; rintro e w1 ⟨rfl, hr1, hs1⟩; rw [hN.out]; have hr1H := Lib.hid hr1; have hs1H := Lib.hid hs1; clear hr1 hs1) | (go_at_call 47; refine (number_ok 1 hr1H.out (by omega) (by omega) (by omega)).mono ?_; rintro e w2 ⟨rfl, hr2, hs2⟩; rw [hSb.out]; have hr2H := Lib.hid hr2; have hs2H := Lib.hid hs2; clear hr2 hs2) | (go_at_call 25; refine (must_ok _ _).mono ?_; rintro e w' ⟨rfl, rfl⟩) | (go_at_call 74; refine (take_bad _ hr2H.out.cell hsm (by omega) (by push_cast; omega)).mono ?_; rintro e w3 ⟨rfl, hs3⟩; have hs3H := Lib.hid hs3; clear hs3))
    exact ⟨rfl, ((((hAH.out.tail (Step.drewN W0 _)).mono (fun _ h => by cases h)).tail hs1H.out).tail hs2H.out).tail (hs3H.out.mono (fun _ h => by cases h)), rfl⟩
  rw [if_neg hsh]
  have hfit : a + 5 + n ≤ b.length := by push_cast at hsh; omega
  have hsl := Lib.hid (take_len (b := b) (a := a + 5) (n := n) hfit)
  clear hsh
  go_enter Tryd.func79, Tryd.ntmps79
  go_wp2_with fail
  rw [← hWH.out]
  go_quiet ((go_at_call 25; exact quietL (must_ok 2 _)))
  go_wp2_with (first | (go_at_call 26; refine (length_ok 0 (hfH.out _) hn4 (by first | (have := hlow.out; omega) | omega)).mono ?_; rintro e w1 ⟨rfl, hr1, hs1⟩; rw [hN.out]; have hr1H := Lib.hid hr1; have hs1H := Lib.hid hs1; clear hr1 hs1) | (go_at_call 47; refine (number_ok 1 hr1H.out (by omega) (by omega) (by omega)).mono ?_; rintro e w2 ⟨rfl, hr2, hs2⟩; rw [hSb.out]; have hr2H := Lib.hid hr2; have hs2H := Lib.hid hs2; clear hr2 hs2) | (go_at_call 25; refine (must_ok _ _).mono ?_; rintro e w' ⟨rfl, rfl⟩) | (go_at_call 74; refine (take_ok n hr2H.out (by omega)).mono ?_; rintro e w3 ⟨⟨ad, rfl, had⟩, hr3, hs3⟩; have hlie := Lib.hid (show Lie w3 ad ((b.drop (a + 5)).take n) from (by rcases Nat.eq_zero_or_pos n with h0 | h0; (subst h0; intro i hi; simp at hi); (rw [had h0]; exact hr3.lie (a + 5) n))); have hvb := hs3.at (hs2H.out.at (hs1H.out.at hvb0.out (by simp; exact hne)) (by simp; exact hne)) (by simp; exact hne); have hl3 := hs3.size; have hl2 := hs2H.out.size; have hl1 := hs1H.out.size; have hvbH := Lib.hid hvb; have hr3H := Lib.hid hr3; have hs3H := Lib.hid hs3; clear hr3 hs3 hvb had) | (go_at_call 36; refine (bs_clone _ n _ _ w3 hsl.out.symm (by omega) hlie.out).mono ?_; rintro e w4 ⟨v, rfl, hb4, -, hs4, hv4⟩; obtain ⟨va, vc, rfl⟩ := hb4.shape; rw [hsl.out] at *; have hvb2 := hs4.at hvbH.out (by simp); have p0 := cell_blk hvb2 (i := 0) rfl; have p1 := cell_blk hvb2 (i := 1) rfl; have p2 := cell_blk hvb2 (i := 2) rfl; have p3 := cell_blk hvb2 (i := 3) rfl; have p4 := cell_blk hvb2 (i := 4) rfl; have p5 := cell_blk hvb2 (i := 5) rfl; have pf := free_blk hvb2; have hvb4H := Lib.hid hvb2; have hb4H := Lib.hid hb4; have hs4H := Lib.hid hs4; clear hb4 hs4 hv4 hvb2))
  change bodyPost _ _ _ _ _ (set6 w4 w.heap.size (.int .i64 8) (.int .i64 0) (.string ⟨#[]⟩) (.slice va n vc) (.slice none 0 0) (.slice none 0 0))
  have hstep : Step [R] id id (w.alloc (.cells #[.int .i64 0, .int .i64 0, (.string ⟨#[]⟩), (.slice none 0 0), (.slice none 0 0), (.slice none 0 0)] 27)) w4 := by
    rw [← hWH.out]
    exact ((((Step.drewN W0 _).tail hs1H.out).tail hs2H.out).tail hs3H.out).tail (hs4H.out.mono (fun _ h => by cases h))
  change W0.heap.size ≤ w1.heap.size at hl1
  refine bodyPost_ret (results_cell4 rfl rfl (set6_heap hvb4H.out)) rfl (dec_fin hstep ?_ hne hB (VIs.bytes (by omega) (hb4H.out.keep (fun k hk => by omega) (fun _ _ _ => rfl)) (by have := List.length_take_le n (b.drop (a + 5)); omega)))
  exact hr3H.out.step hs4H.out
end Go.Proofs.YtbkmnhogfegmcaaDoor
namespace Go.Proofs.YtbkmnhogfegmcaaDoor
open Go.RowKit

theorem known_cases {c : UInt8} (h : known c = true) : c = 255 ∨ c = 10 ∨ c = 16 ∨ c = 18 ∨ c = 2 ∨ c = 3 ∨ c = 4 ∨ c = 5 ∨ c = 7 ∨ c = 8 ∨ c = 9 ∨ c = 127 ∨ c = 1 ∨ c = 19 := by
  unfold known at h
  simpa using h
/-- The function that reads a kind. -/
def wayF (c : UInt8) : FuncId :=
  if c = 2 then 76 else if c = 3 then 77 else if c = 4 then 78 else if c = 5 then 79
  else if c = 7 then 80 else if c = 8 then 81 else if c = 9 then 82 else if c = 16 then 83
  else if c = 18 then 84 else if c = 1 then 85 else if c = 19 then 86 else if c = 255 then 87
  else if c = 127 then 88 else 89

set_option maxRecDepth 100000 in
set_option maxHeartbeats 4000000 in
theorem bs_known (c : UInt8) (w : World) : Calls Tryd.prog 48 #[.int .i64 (c.toNat : Int)] w fun e w' => e = .returned (.bool (known c)) ∧ w = w' := by
  by_cases h1 : c = 1
  · subst h1
    go_enter Tryd.func48, Tryd.ntmps48
    go_wp2
    go_ret
    exact ⟨rfl, rfl⟩
  have i1 : ¬ ((c.toNat : Int) = 1) := fun e => h1 (UInt8.toNat_inj.1 (by simp; omega))
  by_cases h2 : c = 2
  · subst h2
    go_enter Tryd.func48, Tryd.ntmps48
    go_wp2
    go_ret
    exact ⟨rfl, rfl⟩
  have i2 : ¬ ((c.toNat : Int) = 2) := fun e => h2 (UInt8.toNat_inj.1 (by simp; omega))
  by_cases h3 : c = 3
  · subst h3
    go_enter Tryd.func48, Tryd.ntmps48
    go_wp2
    go_ret
    exact ⟨rfl, rfl⟩
  have i3 : ¬ ((c.toNat : Int) = 3) := fun e => h3 (UInt8.toNat_inj.1 (by simp; omega))
  by_cases h4 : c = 4
  · subst h4
    go_enter Tryd.func48, Tryd.ntmps48
    go_wp2
    go_ret
    exact ⟨rfl, rfl⟩
  have i4 : ¬ ((c.toNat : Int) = 4) := fun e => h4 (UInt8.toNat_inj.1 (by simp; omega))
  by_cases h5 : c = 5
  · subst h5
    go_enter Tryd.func48, Tryd.ntmps48
    go_wp2
    go_ret
    exact ⟨rfl, rfl⟩
  have i5 : ¬ ((c.toNat : Int) = 5) := fun e => h5 (UInt8.toNat_inj.1 (by simp; omega))
  by_cases h7 : c = 7
  · subst h7
    go_enter Tryd.func48, Tryd.ntmps48
    go_wp2
    go_ret
    exact ⟨rfl, rfl⟩
  have i7 : ¬ ((c.toNat : Int) = 7) := fun e => h7 (UInt8.toNat_inj.1 (by simp; omega))
  by_cases h8 : c = 8
  · subst h8
    go_enter Tryd.func48, Tryd.ntmps48
    go_wp2
    go_ret
    exact ⟨rfl, rfl⟩
  have i8 : ¬ ((c.toNat : Int) = 8) := fun e => h8 (UInt8.toNat_inj.1 (by simp; omega))
  by_cases h9 : c = 9
  · subst h9
    go_enter Tryd.func48, Tryd.ntmps48
    go_wp2
    go_ret
    exact ⟨rfl, rfl⟩
  have i9 : ¬ ((c.toNat : Int) = 9) := fun e => h9 (UInt8.toNat_inj.1 (by simp; omega))
  by_cases h10 : c = 10
  · subst h10
    go_enter Tryd.func48, Tryd.ntmps48
    go_wp2
    go_ret
    exact ⟨rfl, rfl⟩
  have i10 : ¬ ((c.toNat : Int) = 10) := fun e => h10 (UInt8.toNat_inj.1 (by simp; omega))
  by_cases h16 : c = 16
  · subst h16
    go_enter Tryd.func48, Tryd.ntmps48
    go_wp2
    go_ret
    exact ⟨rfl, rfl⟩
  have i16 : ¬ ((c.toNat : Int) = 16) := fun e => h16 (UInt8.toNat_inj.1 (by simp; omega))
  by_cases h18 : c = 18
  · subst h18
    go_enter Tryd.func48, Tryd.ntmps48
    go_wp2
    go_ret
    exact ⟨rfl, rfl⟩
  have i18 : ¬ ((c.toNat : Int) = 18) := fun e => h18 (UInt8.toNat_inj.1 (by simp; omega))
  by_cases h19 : c = 19
  · subst h19
    go_enter Tryd.func48, Tryd.ntmps48
    go_wp2
    go_ret
    exact ⟨rfl, rfl⟩
  have i19 : ¬ ((c.toNat : Int) = 19) := fun e => h19 (UInt8.toNat_inj.1 (by simp; omega))
  by_cases h255 : c = 255
  · subst h255
    go_enter Tryd.func48, Tryd.ntmps48
    go_wp2
    go_ret
    exact ⟨rfl, rfl⟩
  have i255 : ¬ ((c.toNat : Int) = 255) := fun e => h255 (UInt8.toNat_inj.1 (by simp; omega))
  by_cases h127 : c = 127
  · subst h127
    go_enter Tryd.func48, Tryd.ntmps48
    go_wp2
    go_ret
    exact ⟨rfl, rfl⟩
  have i127 : ¬ ((c.toNat : Int) = 127) := fun e => h127 (UInt8.toNat_inj.1 (by simp; omega))
  have hk : known c = false := by
    unfold known
    simp [h1, h2, h3, h4, h5, h7, h8, h9, h10, h16, h18, h19, h255, h127]
  rw [hk]
  generalize (c.toNat : Int) = C at *
  clear hk h1 h2 h3 h4 h5 h7 h8 h9 h10 h16 h18 h19 h255 h127
  go_enter Tryd.func48, Tryd.ntmps48
  go_wp2
  go_ret
  exact ⟨rfl, rfl⟩

set_option maxRecDepth 100000 in
set_option maxHeartbeats 4000000 in
theorem bs_way (c : UInt8) (h : known c = true) (w : World) : Calls Tryd.prog 51 #[.int .i64 (c.toNat : Int)] w fun e w' => e = .returned (.func (.func (wayF c)) #[] #[]) ∧ w = w' := by
  rcases known_cases h with rfl | rfl | rfl | rfl | rfl | rfl | rfl | rfl | rfl | rfl | rfl | rfl | rfl | rfl
  all_goals
    clear h
    go_enter Tryd.func51, Tryd.ntmps51
    go_wp2
    go_ret
    exact ⟨rfl, rfl⟩
theorem way_call (c : UInt8) (h : known c = true) (args : Array Value) (w : World) : (callFunc (wayF c) args).run Tryd.prog w = .ok (.enter (wayF c) args) w := by
  rcases known_cases h with rfl | rfl | rfl | rfl | rfl | rfl | rfl | rfl | rfl | rfl | rfl | rfl | rfl | rfl
  all_goals simp [wayF, go_sem]

/-- How the reading of fields ends. -/
def DecFP (w : World) (R B o c : Nat) (b : Bs) : Res (List (Bs × Val)) → Ending → World → Prop
  | .ok f a', e, w' => Step [R] id id w w' ∧ ∃ ad cap, e = .returned (.slice ad f.length cap) ∧ FIs (fun k => w.heap.size ≤ k) w' f ad 0 ∧ f.length ≤ cap ∧ (ad = none → cap = 0) ∧ Rd w' R B o c b a'
  | .bad n, e, w' => Step [R] id id w w' ∧ e = broke n
def RdF (fuel : Nat) : Prop := ∀ (P : Nat → Prop) (w : World) (R B o c : Nat) (b : Bs) (a deep : Nat) (items : Bool), 34 ≤ fuel + deep → deep ≤ 1000 → Rd w R B o c b a → Tabs P w → ¬ P R →
  Calls Tryd.prog 27 #[.pointer (some ⟨R, 0, none⟩), .int .i64 deep, .bool items] w (DecFP w R B o c b (decDoc b fuel deep items a))

theorem dec_len {b : Bs} {fuel deep : Nat} {items : Bool} {a a' : Nat} {f : List (Bs × Val)} (h : decDoc b fuel deep items a = .ok f a') : f.length ≤ b.length := by
  obtain ⟨h1, _⟩ := decDoc_sound b _ _ _ _ _ _ h
  have h2 := h1.le
  rw [wrapDoc_length] at h2
  have := encFs_len f
  omega

set_option maxRecDepth 100000 in
set_option maxHeartbeats 4000000 in
theorem rd_doc {P : Nat → Prop} {w : World} {R B o c a fuel deep : Nat} {b : Bs} (hF : RdF fuel) (hfu : 34 ≤ fuel + (deep + 1)) (hdp : deep + 1 ≤ 1000) (h : Rd w R B o c b a) (ht : Tabs P w) (hPR : ¬ P R) :
    Calls Tryd.prog 77 #[.pointer (some ⟨R, 0, none⟩), .int .i64 deep] w (DecP w R B o c b (decV b (fun items a => decDoc b fuel (deep + 1) items a) 3 a)) := by
  have hd : decV b (fun items a => decDoc b fuel (deep + 1) items a) 3 a = (decDoc b fuel (deep + 1) false a).bind fun f a => .ok (.doc f) a := rfl
  rw [hd]
  clear hd
  have hle := h.le
  have hB := h.blt
  have hR := lt_of_block h.cell
  have hne : w.heap.size ≠ R := by omega
  have hsm := h.small
  have hd1 := Lib.hid (show (deep : Int) + 1 = ((deep + 1 : Nat) : Int) by push_cast; rfl)
  have hg0 := World.grownBy_alloc w (.cells #[.int .i64 0, .int .i64 0, (.string ⟨#[]⟩), (.slice none 0 0), (.slice none 0 0), (.slice none 0 0)] 27) none
  have hc := hF P _ R B o c b a (deep + 1) false hfu hdp (h.step (Step.alloc (.cells #[.int .i64 0, .int .i64 0, (.string ⟨#[]⟩), (.slice none 0 0), (.slice none 0 0), (.slice none 0 0)] 27))) (ht.grown hg0) hPR
  cases hr : decDoc b fuel (deep + 1) false a with
  | bad n =>
    rw [hr] at hc
    have hcH := Lib.hid hc
    simp only [Res.bind]
    clear hc hr h ht hg0
    go_enter Tryd.func77, Tryd.ntmps77
    go_wp2_with (go_at_call 27; rw [hd1.out]; refine hcH.out.mono ?_; rintro e w1 ⟨hs1, rfl⟩; have hs1H := Lib.hid hs1; clear hs1)
    exact ⟨rfl, (Step.alloc _).tail hs1H.out, rfl⟩
  | ok f a' =>
    rw [hr] at hc
    have hfl := dec_len hr
    have hcH := Lib.hid hc
    simp only [Res.bind]
    clear hc hr h ht hg0
    obtain ⟨n, hn⟩ : ∃ n, n = f.length := ⟨_, rfl⟩
    have hnH := Lib.hid hn
    clear hn
    go_enter Tryd.func77, Tryd.ntmps77
    go_wp2_with (go_at_call 27; rw [hd1.out]; refine hcH.out.mono ?_; rintro e w1 ⟨hs1, ad, cap, rfl, hFI, hcap, hnil, hr1⟩; rw [← hnH.out] at hcap ⊢; have hvb := hs1.at (heap_alloc_new w _) (by simp; exact hne); have p0 := cell_blk hvb (i := 0) rfl; have p1 := cell_blk hvb (i := 1) rfl; have p2 := cell_blk hvb (i := 2) rfl; have p3 := cell_blk hvb (i := 3) rfl; have p4 := cell_blk hvb (i := 4) rfl; have p5 := cell_blk hvb (i := 5) rfl; have pf := free_blk hvb; have hvbH := Lib.hid hvb; have hs1H := Lib.hid hs1; have hFIH := Lib.hid hFI; have hr1H := Lib.hid hr1; have hcapH := Lib.hid hcap; have hnilH := Lib.hid hnil; clear hs1 hFI hr1 hvb hcap hnil)
    change bodyPost _ _ _ _ _ (set6 w1 w.heap.size (.int .i64 6) (.int .i64 0) (.string ⟨#[]⟩) (.slice none 0 0) (.slice ad n cap) (.slice none 0 0))
    refine bodyPost_ret (results_cell4 rfl rfl (set6_heap hvbH.out)) rfl (dec_fin hs1H.out hr1H.out hne hB ?_)
    have hn2 : n = f.length := hnH.out
    have hcap2 : n ≤ cap := hcapH.out
    subst hn2
    refine VIs.mk ⟨.slice none 0 0, ad, cap, none, 0, rfl, .inl ⟨none, 0, rfl, rfl, fun _ => rfl⟩, ⟨hcap2, by simp [Val.doc, Val.l], hnilH.out, fun _ => rfl⟩, ⟨by simp [Val.doc, Val.kind], by simp [Val.doc, Val.kind], by simp [Val.doc, Val.num], by simp [Val.doc, Val.num]⟩, ⟨by simp [Val.doc, Val.s], by simp [Val.doc, Val.b], ?_, by simp [Val.doc, Val.l]⟩, ?_, by simp [Val.doc, Val.l, LIs]⟩
    · simp only [Val.doc, Val.f]; omega
    · exact FIs.keep (fun k hk => by simp only [World.size_alloc] at hk; omega) (fun _ _ _ => rfl) _ _ _ hFIH.out
end Go.Proofs.YtbkmnhogfegmcaaDoor
namespace Go.Proofs.YtbkmnhogfegmcaaDoor
open Go.RowKit

theorem info_value : (Tryd.prog.info? 27).map (fun i => (i.zero, i.size, i.bytes)) = some (some (.agg #[.int .i64 0, .int .i64 0, .string ⟨#[]⟩, .slice none 0 0, .slice none 0 0, .slice none 0 0]), 6, 104) := by kernel_rfl

theorem ownsRow_other {w w' : World} {base V : Nat} {e : TypeId} {size n : Nat} {v : Value} {xs : List Value} (h : w.ownsRow base e size v n xs) (hg : w.grownBy w' (some V)) (hV : ∀ k, v.ownBlock = some k → k ≠ V) : w'.ownsRow base e size v n xs :=
  ⟨h.1, h.2.imp id (fun ⟨g, cap, cur, e1, e2, e3, r⟩ => ⟨g, cap, cur, e1, e2, (hg.block g (lt_of_block e3) (by simp; exact hV g (by rw [e1]; rfl))).trans e3, r⟩)⟩
theorem grown_past {w w1 w2 : World} {row r2 : Option Nat} (h1 : w.grownBy w1 row) (h2 : w1.grownBy w2 r2) (hr : ∀ k, r2 = some k → w.heap.size ≤ k ∨ row = some k) : w.grownBy w2 row :=
  ⟨h2.os.trans h1.os, h2.tape.trans h1.tape, h2.output.trans h1.output, Nat.le_trans h1.size h2.size, fun k hk hn =>
    (h2.block k (Nat.lt_of_lt_of_le hk h1.size) (fun e => by
      rcases hr k e.symm with h | h
      · omega
      · exact hn h.symm)).trans (h1.block k hk hn)⟩
/-- Each field's cells, chosen. -/
theorem FIs.choose {P : Nat → Prop} {w : World} {f : List (Bs × Val)} {a : Option Addr} (h : FIs P w f a 0) : ∃ C : Nat → List Value, ∀ i (hi : i < f.length), ∃ b o, a = some ⟨b, o, none⟩ ∧ P b ∧ w.rangeAt b (o + i * 7) (.string (strOf f[i].1) :: C i) ∧ VIs P w f[i].2 (C i) := by
  have hex : ∀ i, ∃ cs, ∀ (hi : i < f.length), ∃ b o, a = some ⟨b, o, none⟩ ∧ P b ∧ w.rangeAt b (o + i * 7) (.string (strOf f[i].1) :: cs) ∧ VIs P w f[i].2 cs := fun i => by
    by_cases hi : i < f.length
    · obtain ⟨b, o, cs, h1, h2, _, h3, h4⟩ := h.get hi
      rw [Nat.zero_add] at h3
      exact ⟨cs, fun _ => ⟨b, o, h1, h2, h3, h4⟩⟩
    · exact ⟨[], fun e => absurd e hi⟩
  exact Classical.axiomOfChoice hex

/-- A row of values that the call made reads as its items. -/
theorem LIs.row {P : Nat → Prop} {w w0 : World} {l : List Val} {C : Nat → List Value} {va : Option Addr} {vc : Nat} {B0 : Nat} (hC : ∀ i (hi : i < l.length), VIs P w l[i] (C i))
    (hown : w.ownsRow 0 27 6 (.slice va l.length vc) l.length ((List.range l.length).flatMap C)) (hnew : ∀ k, (Value.slice va l.length vc).ownBlock = some k → P k) : LIs P w l va 0 ∧ l.length ≤ vc ∧ (va = none → vc = 0) := by
  have hCl : ∀ i, i < l.length → (C i).length = 6 := fun i hi => (hC i hi).len
  rcases hown.2 with ⟨e, h0⟩ | ⟨g, cap, cur, e, hb, hgg, rest⟩
  · injection e with e1 e2 e3
    subst e1 e3
    refine ⟨LIs.of fun {i} hi => by omega, by omega, fun _ => rfl⟩
  · injection e with e1 e2 e3
    subst e1 e3
    refine ⟨LIs.of fun {i} hi => ⟨g, 0, C i, rfl, hnew g rfl, ?_, hC i hi⟩, rest.1, fun h => by cases h⟩
    intro t u ht
    have h7 : t < 6 := by
      rcases Nat.lt_or_ge t 6 with h | h
      · exact h
      · rw [List.getElem?_eq_none (by rw [hCl i hi]; exact h)] at ht; cases ht
    have h8 := World.ownsRow.cells hown (g := g) rfl (i * 6 + t) u (by
      rw [flat_get 6 C l.length (fun i hi => hCl i hi) i t hi h7]; exact ht)
    rw [addr_add] at h8
    simpa [Nat.add_assoc] using h8

set_option maxRecDepth 100000 in
set_option maxHeartbeats 4000000 in
theorem rd_list {P : Nat → Prop} {w : World} {R B o c a fuel deep : Nat} {b : Bs} (hF : RdF fuel) (hfu : 34 ≤ fuel + (deep + 1)) (hdp : deep + 1 ≤ 1000) (h : Rd w R B o c b a) (ht : Tabs P w) (hPR : ¬ P R) :
    Calls Tryd.prog 78 #[.pointer (some ⟨R, 0, none⟩), .int .i64 deep] w (DecP w R B o c b (decV b (fun items a => decDoc b fuel (deep + 1) items a) 4 a)) := by
  have hd : decV b (fun items a => decDoc b fuel (deep + 1) items a) 4 a = (decDoc b fuel (deep + 1) true a).bind fun f a => .ok (.list (f.map (·.2))) a := rfl
  rw [hd]
  clear hd
  have hle := h.le
  have hB := h.blt
  have hR := lt_of_block h.cell
  have hne : w.heap.size ≠ R := by omega
  have hsm := h.small
  have hd1 := Lib.hid (show (deep : Int) + 1 = ((deep + 1 : Nat) : Int) by push_cast; rfl)
  obtain ⟨W0, hW0⟩ : ∃ W0, W0 = w.alloc (.cells #[.int .i64 0, .int .i64 0, (.string ⟨#[]⟩), (.slice none 0 0), (.slice none 0 0), (.slice none 0 0)] 27) := ⟨_, rfl⟩
  obtain ⟨W1, hW1⟩ : ∃ W1, W1 = W0.alloc (.cells #[.int .i64 7, .int .i64 0, (.string ⟨#[]⟩), (.slice none 0 0), (.slice none 0 0), (.slice none 0 0)] 27) := ⟨_, rfl⟩
  have z0 : W0.heap.size = w.heap.size + 1 := by rw [hW0]; simp
  have z1 : W1.heap.size = w.heap.size + 1 + 1 := by rw [hW1]; simp [z0]
  have hV0 : W1.heap[w.heap.size]? = some (.cells #[.int .i64 0, .int .i64 0, (.string ⟨#[]⟩), (.slice none 0 0), (.slice none 0 0), (.slice none 0 0)] 27 (0, 0)) := by
    rw [hW1]; refine alloc_old ?_; rw [hW0]; exact heap_alloc_new w _
  have hV1 : W1.heap[w.heap.size + 1]? = some (.cells #[.int .i64 7, .int .i64 0, (.string ⟨#[]⟩), (.slice none 0 0), (.slice none 0 0), (.slice none 0 0)] 27 (0, 0)) := by
    rw [hW1, ← z0]; exact heap_alloc_new W0 _
  have hg1 : w.grownBy W1 none := by rw [hW1, hW0]; exact (World.grownBy_alloc w _ none).trans (World.grownBy_alloc _ _ none)
  have hs01 : Step [] id id w W1 := .grown hg1 (fun _ h => by cases h)
  have hs0H := Lib.hid (show Step [] id id W0 W1 by rw [hW1]; exact Step.alloc _)
  have hc := hF P W1 R B o c b a (deep + 1) true hfu hdp (h.step hs01) (ht.grown hg1) hPR
  have hWH0 := Lib.hid hW0
  have hWH1 := Lib.hid hW1
  have hV0H := Lib.hid hV0
  have hV1H := Lib.hid hV1
  have hs01H := Lib.hid hs01
  clear hV0 hV1 hW0 hW1 h ht hg1 hs01
  cases hr : decDoc b fuel (deep + 1) true a with
  | bad n =>
    rw [hr] at hc
    have hcH := Lib.hid hc
    simp only [Res.bind]
    clear hc hr z0 z1
    go_enter Tryd.func78, Tryd.ntmps78
    go_wp2_with (go_at_call 27; rw [hd1.out, ← hWH0.out, ← hWH1.out]; refine hcH.out.mono ?_; rintro e w1 ⟨hs1, rfl⟩; have hs1H := Lib.hid hs1; clear hs1)
    exact ⟨rfl, (hs01H.out.mono (fun _ h => by cases h)).tail hs1H.out, rfl⟩
  | ok f a' =>
    rw [hr] at hc
    have hfl := dec_len hr
    have hcH := Lib.hid hc
    simp only [Res.bind]
    clear hc hr
    obtain ⟨n, hn⟩ : ∃ n, n = f.length := ⟨_, rfl⟩
    have hnH := Lib.hid hn
    have hn6 : n ≤ 65536 := by omega
    clear hn
    go_enter Tryd.func78, Tryd.ntmps78
    go_wp2_with (go_at_call 27; rw [hd1.out, ← hWH0.out, ← hWH1.out]; refine hcH.out.mono ?_; rintro e w2 ⟨hs2, ad, cap, rfl, hFI, hcap, hnil, hr2⟩; rw [← hnH.out] at hcap ⊢; have hV02 := hs2.at hV0H.out (by simp; exact hne); have hV12 := hs2.at hV1H.out (by simp; omega); have hsz2 := hs2.size; have hV02H := Lib.hid hV02; have hV12H := Lib.hid hV12; have hs2H := Lib.hid hs2; have hFIH := Lib.hid hFI; have hr2H := Lib.hid hr2; have hcapH := Lib.hid hcap; have hnilH := Lib.hid hnil; clear hs2 hFI hr2 hV02 hV12 hcap hnil)
    obtain ⟨C, hC⟩ := hFIH.out.choose
    have hCH := Lib.hid hC
    have hCl : ∀ i, i < n → (C i).length = 6 := fun i hi => by
      obtain ⟨_, _, _, _, _, hv⟩ := hC i (by rw [← hnH.out]; exact hi)
      exact hv.len
    have hClH := Lib.hid hCl
    clear hC hCl
    go_loopw [14] (fun i wr => ∃ (j : Nat) (va : Option Addr) (vc : Nat), i = .int .i64 j ∧ j ≤ n ∧ wr.heap[w.heap.size + 1]? = some (.cells #[.int .i64 7, .int .i64 0, (.string ⟨#[]⟩), (.slice none 0 0), (.slice none 0 0), .slice va j vc] 27 (0, 0)) ∧ wr.ownsRow 0 27 6 (.slice va j vc) j ((List.range j).flatMap C) ∧ (∀ k, (Value.slice va j vc).ownBlock = some k → w2.heap.size ≤ k) ∧ w2.grownBy wr (some (w.heap.size + 1))) (fun i _ => n - (intOf i).toNat)
    case atStart => exact ⟨0, none, 0, rfl, Nat.zero_le _, hV12H.out, World.ownsRow_nil _ _ _ _, (fun _ h => by cases h), grown_refl _ _⟩
    case round =>
      obtain ⟨j, va, vc, rfl, hj, hV1r, hown, hnew, hgr⟩ := hrel
      have hgrH := Lib.hid hgr
      have hownH := Lib.hid hown
      have hnewH := Lib.hid hnew
      have hV1rH := Lib.hid hV1r
      by_cases hjl : j < n
      · have hjl1 : (j : Int) < (n : Int) := by omega
        have hj0 : (0 : Int) ≤ (j : Int) := by omega
        obtain ⟨bb, oo, hae, hPb, hrng, hv⟩ := hCH.out j (by rw [← hnH.out]; exact hjl)
        subst hae
        obtain ⟨s0, ba, bn, bc, fa, fn, fc, la2, ln, lc2, hcs, -⟩ := hv.six
        have h1c := hv.one
        have hbb := rangeAt_lt hrng (by simp)
        have hrng2 : wr.rangeAt bb (oo + j * 7) (.string (strOf (f[j]'(by rw [← hnH.out]; exact hjl)).1) :: C j) := rangeAt_keep hrng (hgr.block bb hbb (by simp; omega))
        obtain ⟨nms, hnms⟩ : ∃ k, k = strOf (f[j]'(by rw [← hnH.out]; exact hjl)).1 := ⟨_, rfl⟩
        obtain ⟨k0, hk0⟩ : ∃ k, k = (f[j]'(by rw [← hnH.out]; exact hjl)).2.kind := ⟨_, rfl⟩
        obtain ⟨n0, hn0⟩ : ∃ k, k = (f[j]'(by rw [← hnH.out]; exact hjl)).2.num := ⟨_, rfl⟩
        rw [← hk0, ← hn0] at hcs
        rw [hcs, ← hnms] at hrng2
        have q0 := hrng2 0 _ rfl
        have q1 := hrng2 1 _ rfl
        have q2 := hrng2 2 _ rfl
        have q3 := hrng2 3 _ rfl
        have q4 := hrng2 4 _ rfl
        have q5 := hrng2 5 _ rfl
        have q6 := hrng2 6 _ rfl
        rw [Nat.add_zero] at q0
        have hcsH := Lib.hid hcs
        have h1cH := Lib.hid h1c
        have v5 := cell_blk hV1r (i := 5) rfl
        have hV1lt := lt_of_block hV1r
        have hbblt : bb < wr.heap.size := Nat.lt_of_lt_of_le hbb hgr.size
        have hcl1 := hClH.out j hjl
        have hcl1H := Lib.hid hcl1
        obtain ⟨W3, hW3⟩ : ∃ W3, W3 = wr.alloc (.cells #[.string nms, .int .i64 k0, .int .i64 n0, .string s0, .slice ba bn bc, .slice fa fn fc, .slice la2 ln lc2] 44) := ⟨_, rfl⟩
        obtain ⟨W4, hW4⟩ : ∃ W4, W4 = W3.alloc (.cells #[.int .i64 k0, .int .i64 n0, .string s0, .slice ba bn bc, .slice fa fn fc, .slice la2 ln lc2] 27) := ⟨_, rfl⟩
        have z3 : W3.heap.size = wr.heap.size + 1 := by rw [hW3]; simp
        have hg34 : wr.grownBy W4 none := by rw [hW4, hW3]; exact (World.grownBy_alloc _ _ none).trans (World.grownBy_alloc _ _ none)
        have hsrc : Src W4 6 (.slice (some ⟨wr.heap.size + 1, 0, none⟩) 1 1) 1 (C j) := by
          refine ⟨by rw [hcl1], .inr ⟨_, 1, rfl, fun t u ht => ?_⟩⟩
          rw [hcs] at ht
          rw [addr_add, Nat.zero_add, hW4, ← z3]
          exact cell_blk (heap_alloc_new W3 _) (by rw [← ht]; simp)
        obtain ⟨i0, hi, hz0, hz1, hz2⟩ := info_split info_value
        have hiH := Lib.hid hi
        have hz0H := Lib.hid hz0
        have hz1H := Lib.hid hz1
        have hz2H := Lib.hid hz2
        have hsrcH := Lib.hid hsrc
        have hown4H := Lib.hid (ownsRow_grown hown hg34)
        have hV14 := (hg34.block _ (lt_of_block hV1r) (by simp)).trans hV1r
        have hV14H := Lib.hid hV14
        have hg34H := Lib.hid hg34
        have hwrap : IntKind.i64.wrap ((j : Int) + 1) = (j : Int) + 1 := IntWalk.i64_in _ (by omega)
        have hW3H := Lib.hid hW3
        have hW4H := Lib.hid hW4
        clear hrng hrng2 hv hcs hk0 hn0 hnms h1c hcl1 z3 hsrc hi hz0 hz1 hz2 hV14 hg34 hgr hown hnew hV1r hW3 hW4
        go_wp2_with (at_builtin; rw [← hW3H.out, ← hW4H.out]; refine wpList_app rfl _ _ 25 rfl 27 i0 _ 6 104 Tryd.underlying25 hiH.out hz0H.out hz1H.out hz2H.out rfl (by decide) (.slice va j vc) j ((List.range j).flatMap C) (by rfl) hown4H.out (.slice (some ⟨wr.heap.size + 1, 0, none⟩) 1 1) 1 (C j) (by rfl) hsrcH.out (by exact h1cH.out) (by omega) (by omega) ?_; intro ad' c' w5 hown5 hgrow5 hnil5 hat5; have hV15 := (hgrow5.block _ (lt_of_block hV14H.out) (fun e => by have h1 := hnewH.out _ e.symm; omega)).trans hV14H.out; have r5 := cell_blk hV15 (i := 5) rfl; have rf := free_blk hV15; have hV15H := Lib.hid hV15; have hown5H := Lib.hid hown5; have hgrow5H := Lib.hid hgrow5; have hat5H := Lib.hid hat5; clear hV15 hown5 hgrow5 hnil5 hat5)
        go_roundw
        case rel =>
          have hg6 : w5.grownBy (w5.setCell ⟨w.heap.size + 1, 5, none⟩ (.slice ad' (j + 1) c')) (some (w.heap.size + 1)) := ⟨rfl, rfl, rfl, by simp [World.setCell], fun k _ hk => Below.heap_setCell _ _ _ _ (fun e => hk (by rw [e]))⟩
          have hnew5 : ∀ k, (Value.slice ad' (j + 1) c').ownBlock = some k → w2.heap.size ≤ k := fun k hk => by
            rcases hat5H.out with h | h
            · exact hnewH.out k (by rw [← h]; exact hk)
            · rw [h] at hk; cases hk
              exact Nat.le_trans hgrH.out.size hg34H.out.size
          refine ⟨j + 1, ad', c', rfl, by omega, ?_, ?_, hnew5, ?_⟩
          · have := set_blk hV15H.out 5 (.slice ad' (j + 1) c')
            simpa using this
          · refine ownsRow_other ?_ hg6 (fun k hk => by have := hnew5 k hk; omega)
            have := hown5H.out
            rw [← flat_succ] at this; exact this
          · refine grown_past (grown_past (grown_past hgrH.out hg34H.out (fun k h => by cases h)) hgrow5H.out (fun k h => .inl (hnewH.out k h))) hg6 (fun k h => .inr h)
        case measure => simp [intOf]; omega
      · have hjl1 : ¬ (j : Int) < (n : Int) := by omega
        have hjn : j = n := by omega
        subst hjn
        have hV0r := (hgr.block _ (lt_of_block hV02H.out) (by simp)).trans hV02H.out
        have p0 := cell_blk hV0r (i := 0) rfl; have p1 := cell_blk hV0r (i := 1) rfl; have p2 := cell_blk hV0r (i := 2) rfl; have p3 := cell_blk hV0r (i := 3) rfl; have p4 := cell_blk hV0r (i := 4) rfl; have p5 := cell_blk hV0r (i := 5) rfl; have pf := free_blk hV0r
        have v0 := cell_blk hV1r (i := 0) rfl; have v1 := cell_blk hV1r (i := 1) rfl; have v2 := cell_blk hV1r (i := 2) rfl; have v3 := cell_blk hV1r (i := 3) rfl; have v4 := cell_blk hV1r (i := 4) rfl; have v5 := cell_blk hV1r (i := 5) rfl; have vf := free_blk hV1r
        have hV0rH := Lib.hid hV0r
        clear hV0r hV1r hgr hown hnew
        go_wp2_with fail
        change bodyPost _ _ _ _ _ (set6 wr w.heap.size (.int .i64 7) (.int .i64 0) (.string ⟨#[]⟩) (.slice none 0 0) (.slice none 0 0) (.slice va j vc))
        have hst : Step [R] id id (w.alloc (.cells #[.int .i64 0, .int .i64 0, (.string ⟨#[]⟩), (.slice none 0 0), (.slice none 0 0), (.slice none 0 0)] 27)) wr := by
          rw [← hWH0.out]
          refine ((hs0H.out.mono (fun _ h => by cases h)).tail hs2H.out).tailNew (T2 := [w.heap.size + 1]) (.grown hgrH.out (fun k hk => by cases hk; simp)) (by simp [z0])
        refine bodyPost_ret (results_cell4 rfl rfl (set6_heap hV0rH.out)) rfl (dec_fin hst (hr2H.out.kept hgrH.out (by omega) (by omega)) hne hB ?_)
        have hjn2 := hnH.out
        have hmap : (f.map (·.2)).length = j := by rw [List.length_map]; exact hjn2.symm
        have hrow := LIs.row (P := fun k => w.heap.size < k) (w := wr) (w0 := w) (l := f.map (·.2)) (C := C) (va := va) (vc := vc) (B0 := 0) (fun i hi => by
          obtain ⟨_, _, _, _, _, hv⟩ := hCH.out i (by rw [hmap, hjn2] at hi; exact hi)
          rw [List.getElem_map]
          exact hv.keep (fun k hk => by omega) (fun k hk hl => hgrH.out.block k hl (by simp; omega))) (by rw [hmap]; exact hownH.out) (fun k hk => by rw [hmap] at hk; have := hnewH.out k hk; omega)
        rw [hmap] at hrow
        obtain ⟨hLI, hvc, hvn⟩ := hrow
        refine VIs.mk ⟨.slice none 0 0, none, 0, va, vc, ?_, .inl ⟨none, 0, rfl, rfl, fun _ => rfl⟩, ⟨by simp [Val.list, Val.f], ?_, fun _ => rfl, hvn⟩, ⟨by simp [Val.list, Val.kind], by simp [Val.list, Val.kind], by simp [Val.list, Val.num], by simp [Val.list, Val.num]⟩, ⟨by simp [Val.list, Val.s], by simp [Val.list, Val.b], by simp [Val.list, Val.f], ?_⟩, by simp [Val.list, Val.f, FIs], hLI⟩
        · simp only [Val.list, Val.kind, Val.num, Val.s, Val.f, Val.l, hmap]; rfl
        · simp only [Val.list, Val.l, hmap]; exact hvc
        · simp only [Val.list, Val.l, hmap]; omega

/-- Whatever the kind. -/
theorem rd_value {P : Nat → Prop} {w : World} {R B o c a fuel deep : Nat} {b : Bs} {k : UInt8} (hF : RdF fuel) (hfu : 34 ≤ fuel + (deep + 1)) (hdp : deep + 1 ≤ 1000) (hk : known k = true) (h : Rd w R B o c b a) (ht : Tabs P w) (hPR : ¬ P R) :
    Calls Tryd.prog (wayF k) #[.pointer (some ⟨R, 0, none⟩), .int .i64 deep] w (DecP w R B o c b (decV b (fun items a => decDoc b fuel (deep + 1) items a) k a)) := by
  rcases known_cases hk with rfl | rfl | rfl | rfl | rfl | rfl | rfl | rfl | rfl | rfl | rfl | rfl | rfl | rfl
  · exact rd_least _ _ h
  · exact rd_null _ _ h
  · exact rd_int32 _ _ h
  · exact rd_int64 _ _ h
  · exact rd_text _ _ h ht hPR
  · exact rd_doc hF hfu hdp h ht hPR
  · exact rd_list hF hfu hdp h ht hPR
  · exact rd_raw _ _ h
  · exact rd_id _ _ h
  · exact rd_bool _ _ h
  · exact rd_date _ _ h
  · exact rd_greatest _ _ h
  · exact rd_double _ _ h
  · exact rd_decimal _ _ h
end Go.Proofs.YtbkmnhogfegmcaaDoor
namespace Go.Proofs.YtbkmnhogfegmcaaDoor
open Go.RowKit

/-- A row's cells are these fields'. -/
def Flds (P : Nat → Prop) (w : World) : List (Bs × Val) → List Value → Prop
  | [], xs => xs = []
  | (s, v) :: r, xs => ∃ cs ys, xs = (.string (strOf s) :: cs) ++ ys ∧ s.length ≤ 140737488351232 ∧ VIs P w v cs ∧ Flds P w r ys
section
variable {P P2 : Nat → Prop} {w w' : World}
theorem Flds.keep (hP : ∀ k, P k → P2 k) (hk : ∀ k, P k → k < w.heap.size → w'.heap[k]? = w.heap[k]?) : ∀ (f : List (Bs × Val)) (xs : List Value), Flds P w f xs → Flds P2 w' f xs
  | [], xs, h => h
  | (s, v) :: r, xs, ⟨cs, ys, h1, h2, h3, h4⟩ => ⟨cs, ys, h1, h2, h3.keep hP hk, Flds.keep hP hk r ys h4⟩
theorem Flds.below : ∀ (f : List (Bs × Val)) (xs : List Value), Flds P w f xs → Flds (fun k => P k ∧ k < w.heap.size) w f xs
  | [], xs, h => h
  | (s, v) :: r, xs, ⟨cs, ys, h1, h2, h3, h4⟩ => ⟨cs, ys, h1, h2, VIs.below v cs h3, Flds.below r ys h4⟩
theorem Flds.snoc {s : Bs} {v : Val} {cs : List Value} (hs : s.length ≤ 140737488351232) (hv : VIs P w v cs) : ∀ (f : List (Bs × Val)) (xs : List Value), Flds P w f xs → Flds P w (f ++ [(s, v)]) (xs ++ (.string (strOf s) :: cs))
  | [], xs, h => ⟨cs, [], by rw [show xs = [] from h]; simp, hs, hv, rfl⟩
  | (t, u) :: r, xs, ⟨ds, ys, h1, h2, h3, h4⟩ => ⟨ds, ys ++ (.string (strOf s) :: cs), by rw [h1]; simp, h2, h3, Flds.snoc hs hv r ys h4⟩
theorem Flds.get : ∀ (f : List (Bs × Val)) (xs : List Value), Flds P w f xs → xs.length = f.length * 7 ∧ ∀ i (hi : i < f.length), f[i].1.length ≤ 140737488351232 ∧ ∃ cs, VIs P w f[i].2 cs ∧ ∀ t u, (Value.string (strOf f[i].1) :: cs)[t]? = some u → xs[i * 7 + t]? = some u
  | [], xs, h => ⟨by rw [show xs = [] from h]; rfl, fun i hi => by simp at hi⟩
  | (s, v) :: r, xs, ⟨cs, ys, h1, h2, h3, h4⟩ => by
    obtain ⟨g1, g2⟩ := Flds.get r ys h4
    have hl := h3.len
    refine ⟨by rw [h1]; simp only [List.length_append, List.length_cons, hl, g1]; omega, fun i hi => ?_⟩
    cases i with
    | zero =>
      refine ⟨h2, cs, h3, fun t u ht => ?_⟩
      have htl : t < (Value.string (strOf s) :: cs).length := by
        rcases Nat.lt_or_ge t (Value.string (strOf s) :: cs).length with h | h
        · exact h
        · have ht' : (Value.string (strOf s) :: cs)[t]? = some u := ht
          rw [List.getElem?_eq_none h] at ht'; cases ht'
      rw [h1, Nat.zero_mul, Nat.zero_add, List.getElem?_append_left htl]; exact ht
    | succ i =>
      obtain ⟨k1, ds, k2, k3⟩ := g2 i (by simpa using hi)
      refine ⟨k1, ds, k2, fun t u ht => ?_⟩
      have hlen : (Value.string (strOf s) :: cs).length = 7 := by simp [hl]
      rw [h1, List.getElem?_append_right (by rw [hlen]; omega), hlen, show (i + 1) * 7 + t - 7 = i * 7 + t by omega]
      exact k3 t u ht
/-- .. so they read as fields. -/
theorem FIs.ofRow {f : List (Bs × Val)} {xs : List Value} {va : Option Addr} {vc : Nat} (h : Flds P w f xs) (hown : w.ownsRow 0 44 7 (.slice va f.length vc) f.length xs) (hnew : ∀ k, (Value.slice va f.length vc).ownBlock = some k → P k) :
    FIs P w f va 0 ∧ f.length ≤ vc ∧ (va = none → vc = 0) := by
  obtain ⟨g1, g2⟩ := Flds.get f xs h
  rcases hown.2 with ⟨e, h0⟩ | ⟨g, cap, cur, e, hb, hgg, rest⟩
  · injection e with e1 e2 e3
    subst e1 e3
    refine ⟨FIs.of fun {i} hi => by omega, by omega, fun _ => rfl⟩
  · injection e with e1 e2 e3
    subst e1 e3
    refine ⟨FIs.of fun {i} hi => ?_, rest.1, fun h => by cases h⟩
    obtain ⟨k1, cs, k2, k3⟩ := g2 i hi
    refine ⟨g, 0, cs, rfl, hnew g rfl, k1, fun t u ht => ?_, k2⟩
    have h8 := World.ownsRow.cells hown (g := g) rfl (i * 7 + t) u (k3 t u ht)
    rw [addr_add] at h8
    simpa [Nat.add_assoc] using h8
end
theorem ownsRow_step {w w' : World} {base : Nat} {e : TypeId} {size n : Nat} {v : Value} {xs : List Value} {T : List Nat} (h : w.ownsRow base e size v n xs) (hs : Step T id id w w') (hV : ∀ k, v.ownBlock = some k → k ∉ T) : w'.ownsRow base e size v n xs :=
  ⟨h.1, h.2.imp id (fun ⟨g, cap, cur, e1, e2, e3, r⟩ => ⟨g, cap, cur, e1, e2, hs.at e3 (hV g (by rw [e1]; rfl)), r⟩)⟩

/-- One step of the fields' reading. -/
theorem decFs_step {b : Bs} {rec_ : Bool → Nat → Res (List (Bs × Val))} {items : Bool} {fl p : Nat} {acc : List (Bs × Val)} {k0 : UInt8} (hp : b[p]? = some k0) (hk : k0 ≠ 0) :
    decFs b rec_ items (fl + 1) acc p = if known k0 = false then .bad 9 else match nameRes b (p + 1) with
      | .bad e => .bad e
      | .ok s a1 => if items = true ∧ s ≠ itoa acc.length then .bad 4 else if s ∈ acc.map (·.1) then .bad 6 else
        (decV b rec_ k0 a1).bind fun v a => decFs b rec_ items fl (acc ++ [(s, v)]) a := by
  rw [decFs, hp]
  simp only
  rw [if_neg hk]
  by_cases h1 : known k0 = false
  · rw [if_pos h1, if_pos h1]
  rw [if_neg h1, if_neg h1]
  unfold nameRes
  cases hz : zeroFrom b (p + 1) with
  | none => rfl
  | some n =>
    simp only
    by_cases h2 : utf8 ((b.drop (p + 1)).take n) = false
    · rw [if_pos h2, if_pos h2]
    rw [if_neg h2, if_neg h2]
    by_cases h3 : 120 < ((b.drop (p + 1)).take n).length
    · rw [if_pos h3, if_pos h3]
    rw [if_neg h3, if_neg h3]
theorem nameRes_ok {b s : Bs} {a a1 : Nat} (h : nameRes b a = .ok s a1) : ∃ n, zeroFrom b a = some n ∧ s = (b.drop a).take n ∧ utf8 s = true ∧ n ≤ 120 ∧ a1 = a + n + 1 ∧ a + n < b.length := by
  unfold nameRes at h
  cases hz : zeroFrom b a with
  | none => rw [hz] at h; cases h
  | some n =>
    rw [hz] at h
    simp only at h
    obtain ⟨z1, -, -⟩ := zeroFrom_some hz
    split at h
    · cases h
    rename_i h2
    split at h
    · cases h
    rename_i h3
    cases h
    rw [take_len (by omega)] at h3
    exact ⟨n, rfl, rfl, by simpa using h2, by omega, rfl, z1⟩
theorem decV_gt {b : Bs} {rec_ : Bool → Nat → Res (List (Bs × Val))} {deep : Nat} (hrec : ∀ items a f a', rec_ items a = .ok f a' → DocIs b (deep + 1) items a f a') {k : UInt8} {a a' : Nat} {v : Val} (ha : a ≤ b.length) (h : decV b rec_ k a = .ok v a') : a ≤ a' ∧ a' ≤ b.length := by
  obtain ⟨h1, h2, _⟩ := decV_sound hrec ha h
  have := h1.le
  omega
end Go.Proofs.YtbkmnhogfegmcaaDoor
