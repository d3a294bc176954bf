/- Accumulators: states in a law: from the law's world on; awake. -/
import Derived.Test.YtembpajlllnncaaDoorAcH
import Derived.Test.YtembpajlllnncaaDoorAcKi
set_option linter.unusedVariables false
set_option linter.unusedSimpArgs false
namespace Go.Proofs.YtembpajlllnncaaDoor
open Go.RowKit

theorem AccIs.rowP {P : Nat → Prop} {w : World} {S : Nat} {K : Int} {st : ASt} {row : Option Nat} (h : AccIs P w S K st row) : ∀ k, row = some k → P k := by
  rcases h with ⟨hk, l, hv, va, vc, xs, h1, h2, h3, h4, h5, h6, h7⟩ | ⟨hk, hn, -⟩
  · exact h6
  · intro k hk; rw [hn] at hk; cases hk
theorem AccL.weak {P P2 : Nat → Prop} {w : World} {S : Nat} {K many size : Int} {l : List Val} {row : Option Nat} (h : AccL P w S K many l size row) (hP : ∀ k, P k → k < w.heap.size → P2 k) : AccL P2 w S K many l size row := by
  obtain ⟨va, vc, xs, h1, h2, h3, h4, h5, h6, h7⟩ := h
  exact ⟨va, vc, xs, h1, h2, h3, h4.below.keep (fun _ k hk => ⟨hP k hk.1.1 hk.2, hk.1.2⟩) (fun _ _ _ _ => rfl), h5, fun k hk => hP k (h6 k hk) (World.ownsRow.lt h3 k (by rw [← h2]; exact hk)).2, h7⟩
theorem AccIs.weak {P P2 : Nat → Prop} {w : World} {S : Nat} {K : Int} {st : ASt} {row : Option Nat} (h : AccIs P w S K st row) (hP : ∀ k, P k → k < w.heap.size → P2 k) : AccIs P2 w S K st row := by
  rcases h with ⟨hk, l, hv, h⟩ | ⟨hk, hn, hz, v0, v1, v2, v3, v4, v5, hst, hx, h1⟩
  · exact .inl ⟨hk, l, hv, h.weak hP⟩
  · exact .inr ⟨hk, hn, hz, v0, v1, v2, v3, v4, v5, hst, hx.below.keep (fun k hk => ⟨hP k hk.1.1 hk.2, hk.1.2⟩) (fun _ _ _ => rfl), h1⟩
/-- A state that was made in here; it has nothing to do with the blocks N. -/
def AccAt (w0 w : World) (N : List Nat) (S : Nat) (K : Int) (st : ASt) : Prop := w0.heap.size ≤ S ∧ S ∉ N ∧ (∀ k ∈ N, k < w.heap.size) ∧ ∃ row, AccIs (fun k => w0.heap.size ≤ k ∧ k ∉ N) w S K st row
/-- What was there at the start, and the blocks N, are as they were. -/
def StepN (w0 : World) (N : List Nat) (w w' : World) : Prop := ∃ T, Step T id id w w' ∧ ∀ k ∈ T, w0.heap.size ≤ k ∧ k ∉ N
section
variable {w0 w w' w2 : World} {S : Nat} {K : Int} {st : ASt} {x : Val} {cs : List Value} {Q : Nat → Prop} {N : List Nat}
theorem StepN.at (h : StepN w0 N w w') {k : Nat} {o : Obj} (ho : w.heap[k]? = some o) (hk : k < w0.heap.size ∨ k ∈ N) : w'.heap[k]? = some o := by
  obtain ⟨T, hs, hT⟩ := h
  exact hs.at ho (fun hm => by have := hT k hm; rcases hk with h | h; omega; exact this.2 h)
theorem StepN.of (h : Step [] id id w w') : StepN w0 N w w' := ⟨[], h, by simp⟩
theorem StepN.tail (h : StepN w0 N w w') (h2 : StepN w0 N w' w2) : StepN w0 N w w2 := by
  obtain ⟨T, hs, hT⟩ := h
  obtain ⟨T2, hs2, hT2⟩ := h2
  refine ⟨T ++ T2, (hs.mono (by simp; exact fun _ h => .inl h)).tail (hs2.mono (by simp; exact fun _ h => .inr h)), fun k hk => ?_⟩
  rcases List.mem_append.1 hk with h | h
  · exact hT k h
  · exact hT2 k h
theorem StepN.size (h : StepN w0 N w w') : w.heap.size ≤ w'.heap.size := by obtain ⟨T, hs, hT⟩ := h; exact hs.size
theorem StepN.all (h : StepN w0 N w w') (hs : Step [] id id w0 w) : Step [] id id w0 w' := by
  obtain ⟨T, hs2, hT⟩ := h
  exact hs.tailNew hs2 (fun r hr => .inr (hT r hr).1)
theorem AccAt.step (h : AccAt w0 w N S K st) (hs : Step [] id id w w') : AccAt w0 w' N S K st := ⟨h.1, h.2.1, fun k hk => Nat.lt_of_lt_of_le (h.2.2.1 k hk) hs.size, h.2.2.2.imp fun _ h => h.step hs⟩
/-- A block that has come since then is one of the others. -/
theorem AccAt.other {B : Nat} (h : AccAt w0 w N S K st) (hs : Step [] id id w w') (hB : w.heap.size ≤ B) (hB2 : B < w'.heap.size) : AccAt w0 w' (B :: N) S K st := by
  obtain ⟨h1, h2, h3, row, hA⟩ := h
  have hl := hA.lt
  refine ⟨h1, by simp only [List.mem_cons, not_or]; exact ⟨by omega, h2⟩, fun k hk => ?_, row, (hA.weak (P2 := fun k => w0.heap.size ≤ k ∧ k ∉ B :: N) (fun k hk hl => ⟨hk.1, by simp only [List.mem_cons, not_or]; exact ⟨by omega, hk.2⟩⟩)).step hs⟩
  rcases List.mem_cons.1 hk with rfl | hk
  · exact hB2
  · exact Nat.lt_of_lt_of_le (h3 k hk) hs.size
theorem new_at (hK : 1 ≤ K ∧ K ≤ 8) (ht : Tw w0) (hs : Step [] id id w0 w) (hN : ∀ k ∈ N, k < w.heap.size) : Calls Tryd.prog 7 #[.int .i64 K] w fun e w' => ∃ S, e = .returned (.pointer (some ⟨S, 0, none⟩)) ∧ w.heap.size ≤ S ∧ AccAt w0 w' N S K (startA K) ∧ Step [] id id w w' :=
  (new_all (P := fun k => w0.heap.size ≤ k ∧ k ∉ N) hK (ht.step hs)).mono fun e w' h => ⟨_, h.1, Nat.le_refl _, ⟨hs.size, fun hm => Nat.lt_irrefl _ (hN _ hm), fun k hk => Nat.lt_of_lt_of_le (hN k hk) h.2.2.size, none, h.2.1⟩, h.2.2⟩
theorem add_at (hK : 1 ≤ K ∧ K ≤ 8) (ht : Tw w0) (hs : Step [] id id w0 w) (h : AccAt w0 w N S K st) (hm : st.many ≤ 1000000000) (hx : VIs Q w x cs) (hQ : ∀ k, Q k → k ≠ S) (hwt : weightV x ≤ 100000000)
    (hcm : (K = 2 ∨ K = 3) ∧ st.v.kind ≠ 0 → CmpH x st.v) (hcm7 : K = 7 → x.kind ≠ 0 → ∀ y ∈ st.v.l, CmpH y x) :
    Calls Tryd.prog 8 #[.pointer (some ⟨S, 0, none⟩), .agg cs.toArray] w fun e w' => e = .returned (.int .i64 (addA K st x).1) ∧ AccAt w0 w' N S K (addA K st x).2 ∧ StepN w0 N w w' := by
  obtain ⟨h0, h1, h2, row, hA⟩ := h
  refine (add_all hK hA hm hx hQ hwt (ht.step hs) (fun k hk => ⟨Nat.le_trans hs.size hk, fun hm => by have := h2 k hm; omega⟩) hcm hcm7).mono fun e w' hS => ?_
  obtain ⟨rfl, row', hA', hs', -⟩ := hS
  refine ⟨rfl, ⟨h0, h1, fun k hk => Nat.lt_of_lt_of_le (h2 k hk) hs'.size, row', hA'⟩, _, hs', fun r hr => ?_⟩
  rcases List.mem_cons.1 hr with rfl | hr
  · exact ⟨h0, h1⟩
  · exact hA.rowP r (by simpa using hr)
theorem value_at (hK : 1 ≤ K ∧ K ≤ 8) (h : AccAt w0 w N S K st) (hm : st.many ≤ 1000000000) (hwt : weightV st.v ≤ 100000000) :
    Calls Tryd.prog 9 #[.pointer (some ⟨S, 0, none⟩)] w fun e w' => ∃ ds : List Value, e = .returned (.agg ds.toArray) ∧ VIs (fun k => w.heap.size ≤ k) w' (valueA K st) ds ∧ Step [] id id w w' := by
  obtain ⟨h0, h1, h2, row, hA⟩ := h
  exact value_all hK hA hm hwt
theorem size_at (ht : Tw w0) (hs : Step [] id id w0 w) (h : AccAt w0 w N S K st) :
    Calls Tryd.prog 10 #[.pointer (some ⟨S, 0, none⟩)] w fun e w' => e = .returned (.int .i64 (sizeA K st)) ∧ Step [] id id w w' := by
  obtain ⟨h0, h1, h2, row, hA⟩ := h
  exact size_all hA (ht.step hs)
end
theorem flat0 {P : Nat → Prop} {w : World} (k n : Int) (hk : 0 ≤ k ∧ k ≤ 100) (hn : inR n) : VIs P w (.mk k n [] [] [] []) [.int .i64 k, .int .i64 n, (.string ⟨#[]⟩), (.slice none 0 0), (.slice none 0 0), (.slice none 0 0)] := VIs.flat [] (by omega) hn (by simp)
/-- A number is added to a sum; a text, too. -/
theorem add_sum {w0 : World} {st st' : ASt} {er : Int} (k n : Int) (t : Bs) (ht : Tw w0) (hk : 0 ≤ k ∧ k ≤ 100) (hn : inR n) (hl : t.length ≤ 100) (hm : st.many ≤ 1000000000) (hr : addA 1 st (.mk k n t [] [] []) = (er, st')) :
    ∀ (S : Nat) (W : World) (N : List Nat), Step [] id id w0 W → AccAt w0 W N S 1 st → Calls Tryd.prog 8 #[.pointer (some ⟨S, 0, none⟩), .agg #[.int .i64 k, .int .i64 n, .string (strOf t), (.slice none 0 0), (.slice none 0 0), (.slice none 0 0)]] W fun e w' => e = .returned (.int .i64 er) ∧ AccAt w0 w' N S 1 st' ∧ StepN w0 N W w' := fun S W N hs hA => by
  have h := add_at (Q := fun _ => False) (by omega) ht hs hA hm (VIs.flat (k := k) (n := n) t (by omega) hn (by omega)) (fun _ h => h.elim) (by simp [weightV, weightFs, weightLs]; omega) (fun h => by omega) (fun h => by omega)
  rw [hr] at h
  exact h
set_option maxRecDepth 100000 in
set_option maxHeartbeats 4000000 in
theorem ac_awake (w : World) (ht : Tw w) : Calls Tryd.prog 6 #[] w fun e w' => e = .returned (.bool true) ∧ Step [] id id w w' := by
  have hnew := Lib.hid (new_at (K := 1) (N := []) (by omega) ht (Step.refl [] id w) (by simp))
  have hadd1 := Lib.hid (add_sum (st := startA 1) (st' := ⟨1, .mk 3 1 [] [] [] [], 0⟩) (er := 0) 3 1 [] ht (by omega) (by decide) (by simp) (by decide) (by kernel_rfl))
  have hadd2 := Lib.hid (add_sum (st := ⟨1, .mk 3 1 [] [] [] [], 0⟩) (st' := ⟨2, .mk 3 1 [] [] [] [], 0⟩) (er := 0) 5 0 [120] ht (by omega) (by decide) (by simp) (by decide) (by kernel_rfl))
  have hadd3 := Lib.hid (add_sum (st := ⟨2, .mk 3 1 [] [] [] [], 0⟩) (st' := ⟨3, .mk 3 3 [] [] [] [], 0⟩) (er := 0) 3 2 [] ht (by omega) (by decide) (by simp) (by decide) (by kernel_rfl))
  have hkind := Lib.hid (fun W => acc_kind [36, 112, 117, 115, 104] W)
  rw [show kindOf [36, 112, 117, 115, 104] = 6 from by decide] at hkind
  have hsize : sizeA 1 ⟨3, .mk 3 3 [] [] [] [], 0⟩ = 20 := by kernel_rfl
  have hszH := Lib.hid hsize
  have htH := Lib.hid ht
  clear ht hsize
  go_enter Tryd.func6, Tryd.ntmps6
  go_wp2_with fail
  refine hnew.out.mono ?_
  rintro e w1 ⟨S, rfl, -, hA1, hs1⟩
  have hA1H := Lib.hid hA1
  have hs1H := Lib.hid hs1
  clear hA1 hs1
  go_wp2_with fail
  refine (hadd1.out _ _ _ hs1H.out hA1H.out).mono ?_
  rintro e w2 ⟨rfl, hA2, hs2⟩
  have hA2H := Lib.hid hA2
  have hs2H := Lib.hid (hs2.all hs1H.out)
  clear hA2 hs2
  go_wp2_with fail
  refine (hadd2.out _ _ _ hs2H.out hA2H.out).mono ?_
  rintro e w3 ⟨rfl, hA3, hs3⟩
  have hA3H := Lib.hid hA3
  have hs3H := Lib.hid (hs3.all hs2H.out)
  clear hA3 hs3
  go_wp2_with fail
  refine (hadd3.out _ _ _ hs3H.out hA3H.out).mono ?_
  rintro e w4 ⟨rfl, hA4, hs4⟩
  have hA4H := Lib.hid hA4
  have hs4H := Lib.hid (hs4.all hs3H.out)
  clear hA4 hs4
  go_wp2_with fail
  refine (value_at (by omega) hA4H.out (by decide) (by decide)).mono ?_
  rintro e w5 ⟨ds, rfl, hx, hs5⟩
  have hval : valueA 1 ⟨3, .mk 3 3 [] [] [] [], 0⟩ = .mk 3 3 [] [] [] [] := by kernel_rfl
  rw [hval] at hx
  obtain ⟨s2, ba2, bn2, bc2, fa2, fn2, fc2, la2, ln2, lc2, hds, -⟩ := hx.six
  simp only [Val.kind, Val.num] at hds
  subst hds
  have hs5H := Lib.hid (hs4H.out.tail hs5)
  have hA5H := Lib.hid (hA4H.out.step hs5)
  clear hx hs5 hval
  go_wp2_with fail
  refine (hkind.out _).mono ?_
  rintro e w6 ⟨rfl, rfl⟩
  go_wp2_with fail
  refine (size_at htH.out (hs5H.out.tail (Step.alloc _)) (hA5H.out.step (Step.alloc _))).mono ?_
  rintro e w6 ⟨rfl, hs6⟩
  rw [hszH.out]
  have hs6H := Lib.hid ((hs5H.out.tail (Step.alloc _)).tail hs6)
  clear hs6
  go_wp2_with fail
  go_ret
  exact ⟨rfl, hs6H.out⟩
end Go.Proofs.YtembpajlllnncaaDoor
