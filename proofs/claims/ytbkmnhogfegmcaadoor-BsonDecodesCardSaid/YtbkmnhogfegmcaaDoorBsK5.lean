/- The laws' measures: Weight, Shallow, Small: they answer something. The law BsonCuts. -/
import Derived.Test.YtbkmnhogfegmcaaDoorBsK1
set_option linter.unusedVariables false
set_option linter.unusedSimpArgs false
namespace Go.Proofs.YtbkmnhogfegmcaaDoor
open Go.RowKit

mutual
/-- How many values there are, and their bytes. -/
def weightV : Val → Nat
  | .mk _ _ s b f l => 1 + s.length + b.length + weightFs f + weightLs l
def weightFs : List (Bs × Val) → Nat
  | [] => 0
  | (nm, v) :: r => nm.length + weightV v + weightFs r
def weightLs : List Val → Nat
  | [] => 0
  | v :: r => weightV v + weightLs r
end
theorem weightV_eq (x : Val) : weightV x = 1 + x.s.length + x.b.length + weightFs x.f + weightLs x.l := by cases x; rw [weightV]; rfl
theorem weightFs_append : ∀ (a b : List (Bs × Val)), weightFs (a ++ b) = weightFs a + weightFs b
  | [], b => by simp [weightFs]
  | (nm, v) :: r, b => by simp [weightFs, weightFs_append r b]; omega
theorem weightLs_append : ∀ (a b : List Val), weightLs (a ++ b) = weightLs a + weightLs b
  | [], b => by simp [weightLs]
  | v :: r, b => by simp [weightLs, weightLs_append r b]; omega
theorem weightFs_take (f : List (Bs × Val)) (j : Nat) (h : j < f.length) : weightFs (f.take (j + 1)) = weightFs (f.take j) + f[j].1.length + weightV f[j].2 := by
  rw [List.take_succ_eq_append_getElem h, weightFs_append]
  cases f[j] with
  | mk nm v => simp [weightFs]; omega
theorem weightLs_take (l : List Val) (j : Nat) (h : j < l.length) : weightLs (l.take (j + 1)) = weightLs (l.take j) + weightV l[j] := by
  rw [List.take_succ_eq_append_getElem h, weightLs_append]
  simp [weightLs]
/-- What Weight answers: no more than a bound counted. -/
def WOk (most r : Int) (W : Nat) : Prop := 1 ≤ r ∧ r ≤ (most + 2) * 281474976710656 ∧ (r ≤ most → r = W)
def WInt (most : Int) (x : Val) (w : World) (e : Ending) (w' : World) : Prop := ∃ r : Int, e = .returned (.int .i64 r) ∧ WOk most r (weightV x) ∧ Step [] id id w w'
def AnyInt (w : World) (e : Ending) (w' : World) : Prop := ∃ r : Int, e = .returned (.int .i64 r) ∧ Step [] id id w w'
/-- Small: a bound, if it says so. -/
def SBool (x : Val) (w : World) (e : Ending) (w' : World) : Prop := ∃ r : Bool, e = .returned (.bool r) ∧ (r = true → weightV x ≤ 3000) ∧ Step [] id id w w'
def AnyBool (w : World) (e : Ending) (w' : World) : Prop := ∃ r : Bool, e = .returned (.bool r) ∧ Step [] id id w w'

theorem f_size {f : List (Bs × Val)} {j : Nat} (h : j < f.length) {k n : Int} {s b : Bs} {l : List Val} : SizeOf.sizeOf f[j].2 < SizeOf.sizeOf (Val.mk k n s b f l) := by
  have h1 := List.sizeOf_lt_of_mem (List.getElem_mem h)
  have h2 : SizeOf.sizeOf f[j].2 < SizeOf.sizeOf f[j] := by cases f[j]; simp; omega
  simp only [Val.mk.sizeOf_spec]; omega
theorem l_size {l : List Val} {j : Nat} (h : j < l.length) {k n : Int} {s b : Bs} {f : List (Bs × Val)} : SizeOf.sizeOf l[j] < SizeOf.sizeOf (Val.mk k n s b f l) := by
  have h1 := List.sizeOf_lt_of_mem (List.getElem_mem h)
  simp only [Val.mk.sizeOf_spec]; omega

def WeightC (N : Nat) : Prop := ∀ (P : Nat → Prop) (x : Val) (cs : List Value) (most : Int) (w : World), SizeOf.sizeOf x < N → 0 ≤ most → most ≤ 3000 → VIs P w x cs → Calls Tryd.prog 33 #[.agg cs.toArray, .int .i64 most] w (WInt most x w)
def ShallowC (N : Nat) : Prop := ∀ (P : Nat → Prop) (x : Val) (cs : List Value) (most : Int) (w : World), SizeOf.sizeOf x < N → VIs P w x cs → Calls Tryd.prog 34 #[.agg cs.toArray, .int .i64 most] w (AnyBool w)

set_option maxRecDepth 100000 in
set_option maxHeartbeats 4000000 in
theorem weight_step (N : Nat) (ih : WeightC N) : WeightC (N + 1) := by
  intro P x cs most w hN hm0 hm1 hx
  obtain ⟨sl, hsl⟩ : ∃ sl, sl = x.s.length := ⟨_, rfl⟩
  have hsl2 : sl ≤ 140737488351232 := by obtain ⟨_, _, _, _, _, _, _, _, _, h, _⟩ := hx.cells; rw [hsl]; exact h.1
  obtain ⟨bl, hbl⟩ : ∃ bl, bl = x.b.length := ⟨_, rfl⟩
  have hbl2 : bl ≤ 140737488351232 := by obtain ⟨_, _, _, _, _, _, _, _, _, h, _⟩ := hx.cells; rw [hbl]; exact h.2.1
  obtain ⟨BASE, hB⟩ : ∃ B, B = 1 + sl + bl := ⟨_, rfl⟩
  have hBASE := Lib.hid (show BASE = 1 + x.s.length + x.b.length by rw [hB, hsl, hbl])
  obtain ⟨S0, hS0⟩ : ∃ S0, S0 = strOf x.s := ⟨_, rfl⟩
  have hs0z : S0.size = sl := by rw [hS0, strOf_size, hsl]
  have hS0H := Lib.hid hS0
  have hblH := Lib.hid hbl
  clear hsl hbl hS0
  obtain ⟨bv, fa, fc, la, lc, hcs, hb, ⟨hfc, hlc, hfn, hln⟩, -, ⟨hs2, hb2, hf2, hl2⟩, hf, hl⟩ := hx.cells
  obtain ⟨ba, bc, rfl⟩ := hb.shape
  have hfs : ∀ j (h : j < x.f.length), SizeOf.sizeOf x.f[j].2 < N := fun j h => by cases x; exact Nat.lt_of_lt_of_le (f_size h) (Nat.le_of_lt_succ hN)
  have hls : ∀ j (h : j < x.l.length), SizeOf.sizeOf x.l[j] < N := fun j h => by cases x; exact Nat.lt_of_lt_of_le (l_size h) (Nat.le_of_lt_succ hN)
  have hfH := Lib.hid hf
  have hlH := Lib.hid hl
  have hfsH := Lib.hid hfs
  have hlsH := Lib.hid hls
  obtain ⟨n0, hn0⟩ : ∃ k, k = x.num := ⟨_, rfl⟩
  obtain ⟨k0, hk0⟩ : ∃ k, k = x.kind := ⟨_, rfl⟩
  obtain ⟨s0, hs0⟩ : ∃ k, k = strOf x.s := ⟨_, rfl⟩
  obtain ⟨bn, hbn⟩ : ∃ k, k = x.b.length := ⟨_, rfl⟩
  obtain ⟨ln, hlnn⟩ : ∃ k, k = x.l.length := ⟨_, rfl⟩
  obtain ⟨fn, hfnn⟩ : ∃ k, k = x.f.length := ⟨_, rfl⟩
  rw [← hk0, ← hn0, ← hs0, ← hbn, ← hlnn, ← hfnn] at hcs
  rw [← hlnn] at hl2
  rw [← hfnn] at hf2
  subst hcs
  obtain ⟨W1, hW1⟩ : ∃ W1, W1 = w.alloc (.cells #[.int .i64 k0, .int .i64 n0, .string s0, .slice ba bn bc, .slice fa fn fc, .slice la ln lc] 27) := ⟨_, rfl⟩
  have hs1 : Step [] id id w W1 := by rw [hW1]; exact Step.alloc _
  have hV := Lib.hid (show W1.heap[w.heap.size]? = some (.cells #[.int .i64 k0, .int .i64 n0, .string s0, .slice ba bn bc, .slice fa fn fc, .slice la ln lc] 27 (0, 0)) by rw [hW1]; exact heap_alloc_new w _)
  have hs1H := Lib.hid hs1
  have hlnH := Lib.hid hlnn
  have hfnH := Lib.hid hfnn
  have hW1H := Lib.hid hW1
  have hs0e := Lib.hid hs0
  have hbne := Lib.hid hbn
  clear hx hn0 hk0 hs0 hbn hlnn hfnn hs1 hW1 hf hl hfs hls hb hfc hlc hfn hln hs2 hb2
  obtain rfl : s0 = S0 := hs0e.out.trans hS0H.out.symm
  obtain rfl : bn = bl := hbne.out.trans hblH.out.symm
  have hV0 := cell_blk hV.out (i := 2) rfl
  have hV3 := cell_blk hV.out (i := 3) rfl
  have hBH := Lib.hid hB
  have hwi : wrap64 (1 + (sl : Int)) = 1 + (sl : Int) := wrap_id (by omega) (by omega)
  have hwi2 : wrap64 (1 + (sl : Int) + (bn : Int)) = 1 + (sl : Int) + (bn : Int) := wrap_id (by omega) (by omega)
  clear hB
  go_enter Tryd.func33, Tryd.ntmps33
  go_wp2_with fail
  rw [← hW1H.out]
  go_loopw [5, 6] (fun nv i wr => ∃ (r : Int) (j : Nat), nv = .int .i64 r ∧ i = .int .i64 j ∧ j ≤ fn ∧ WOk most r (BASE + weightFs (x.f.take j)) ∧ Step [] id id W1 wr) (fun _ i _ => fn - (intOf i).toNat)
  case atStart => exact ⟨_, 0, rfl, rfl, Nat.zero_le _, ⟨by omega, by omega, fun _ => by have := hBH.out; simp [weightFs]; omega⟩, Step.refl _ _ _⟩
  case round =>
    obtain ⟨r, j, rfl, rfl, hj, hwok, hst⟩ := hrel
    have hVr := hst.at hV.out (by simp)
    have v4 := cell_blk hVr (i := 4) rfl
    have v5 := cell_blk hVr (i := 5) rfl
    clear hVr
    by_cases hjl : j < fn
    · have hjl1 : (j : Int) < (fn : Int) := by omega
      have hj0 : (0 : Int) ≤ (j : Int) := by omega
      by_cases hrm : r ≤ most
      · have hfw := FIs.keep (P2 := P) (fun _ h => h) (fun k hP hk => (((hs1H.out.tail hst).keep k hk (by simp)).2)) x.f fa 0 hfH.out
        obtain ⟨b, o, cs, hae, hPb, hnl, hrng, hxj⟩ := hfw.get (j := j) (by rw [← hfnH.out]; exact hjl)
        subst hae
        obtain ⟨s1, ba2, bn2, bc2, fa2, fn2, fc2, la2, ln2, lc2, hcs, -⟩ := hxj.six
        have hsz := hfsH.out j (by rw [← hfnH.out]; exact hjl)
        have htk := weightFs_take x.f j (by rw [← hfnH.out]; exact hjl)
        obtain ⟨y, hy⟩ : ∃ y, y = (x.f[j]'(by rw [← hfnH.out]; exact hjl)).2 := ⟨_, rfl⟩
        obtain ⟨nm, hnm⟩ : ∃ y, y = (x.f[j]'(by rw [← hfnH.out]; exact hjl)).1 := ⟨_, rfl⟩
        rw [← hy, ← hnm] at htk
        rw [← hy] at hxj hcs hsz
        rw [← hnm] at hrng hnl
        clear hy hnm
        have htk := Lib.hid htk
        obtain ⟨n1, hn1⟩ : ∃ k, k = y.num := ⟨_, rfl⟩
        obtain ⟨k1, hk1⟩ : ∃ k, k = y.kind := ⟨_, rfl⟩
        obtain ⟨nms, hnms⟩ : ∃ k, k = strOf nm := ⟨_, rfl⟩
        have hnsz : nms.size = nm.length := by rw [hnms, strOf_size]
        rw [← hk1, ← hn1] at hcs
        rw [hcs, Nat.zero_add, ← hnms] at hrng
        subst hcs
        have q0 := hrng 0 _ rfl
        have q1 := hrng 1 _ rfl
        have q2 := hrng 2 _ rfl
        have q3 := hrng 3 _ rfl
        have q4 := hrng 4 _ rfl
        have q5 := hrng 5 _ rfl
        have q6 := hrng 6 _ rfl
        rw [Nat.add_zero] at q0
        have hxjH := Lib.hid hxj
        clear hrng hxj hn1 hk1 hnms hfw
        have hstH := Lib.hid hst
        have hwokH := Lib.hid hwok
        have hwrap : IntKind.i64.wrap ((j : Int) + 1) = (j : Int) + 1 := IntWalk.i64_in _ (by omega)
        have hr1 : 1 ≤ r := hwok.1
        have hw1 : IntKind.i64.wrap (r + (nm.length : Int)) = r + (nm.length : Int) := IntWalk.i64_in _ (by omega)
        have hw2 : IntKind.i64.wrap (most - r) = most - r := IntWalk.i64_in _ (by omega)
        clear hst hwok
        go_wp2_with fail
        have hbl := World.block_lt_of_cell? wr _ q0
        have hVl := World.block_lt_of_cell? wr _ v4
        refine wp_region_held_drew (S := fun w' => w'.cell? ⟨w.heap.size, 4, none⟩ = some (.slice (some ⟨b, o, none⟩) fn fc) ∧ w'.cell? ⟨b, o + j * 7, none⟩ = some (.string nms) ∧ w'.cell? ⟨b, o + j * 7 + 1, none⟩ = some (.int .i64 k1) ∧ w'.cell? ⟨b, o + j * 7 + 2, none⟩ = some (.int .i64 n1) ∧ w'.cell? ⟨b, o + j * 7 + 3, none⟩ = some (.string s1) ∧ w'.cell? ⟨b, o + j * 7 + 4, none⟩ = some (.slice ba2 bn2 bc2) ∧ w'.cell? ⟨b, o + j * 7 + 5, none⟩ = some (.slice fa2 fn2 fc2) ∧ w'.cell? ⟨b, o + j * 7 + 6, none⟩ = some (.slice la2 ln2 lc2)) (by kernel_rfl) ⟨v4, q0, q1, q2, q3, q4, q5, q6⟩ (fun hHeld => ?_)
        refine wpAnyH_take (i := 0) (v := ?_) rfl (by kernel_rfl) (by kernel_rfl) (by kernel_rfl) (fun _ _ _ h => h) (Or.inl ⟨by kernel_rfl, ?_⟩) hHeld ?_
        rotate_left
        · intro w' hSw; (try dsimp only at hSw); go_simp
          all_goals (with_reducible rfl)
        simp only [Act.put, List.getElem_toArray, List.getElem_cons_zero, List.getElem_cons_succ, List.setIfInBounds_toArray, List.set_cons_zero, List.set_cons_succ]
        refine wpAnyH_take (i := 1) (v := ?_) rfl (by kernel_rfl) (by kernel_rfl) (by kernel_rfl) (fun _ _ _ h => h) (Or.inl ⟨by kernel_rfl, ?_⟩) hHeld ?_
        rotate_left
        · intro w' hSw; (try dsimp only at hSw); go_simp
          all_goals (with_reducible rfl)
        simp only [Act.put, List.getElem_toArray, List.getElem_cons_zero, List.getElem_cons_succ, List.setIfInBounds_toArray, List.set_cons_zero, List.set_cons_succ]
        refine wpAnyH_take (i := 2) (v := ?_) rfl (by kernel_rfl) (by kernel_rfl) (by kernel_rfl) (fun _ _ _ h => h) (Or.inl ⟨by kernel_rfl, ?_⟩) hHeld ?_
        rotate_left
        · intro w' hSw; (try dsimp only at hSw); go_simp
          all_goals (with_reducible rfl)
        simp only [Act.put, List.getElem_toArray, List.getElem_cons_zero, List.getElem_cons_succ, List.setIfInBounds_toArray, List.set_cons_zero, List.set_cons_succ]
        refine wpAnyH_take (i := 3) (v := ?_) rfl (by kernel_rfl) (by kernel_rfl) (by kernel_rfl) (fun _ _ _ h => h) (Or.inl ⟨by kernel_rfl, ?_⟩) hHeld ?_
        rotate_left
        · intro w' hSw; (try dsimp only at hSw); go_simp
          all_goals (with_reducible rfl)
        simp only [Act.put, List.getElem_toArray, List.getElem_cons_zero, List.getElem_cons_succ, List.setIfInBounds_toArray, List.set_cons_zero, List.set_cons_succ]
        refine wpAnyH_take (i := 4) (v := ?_) rfl (by kernel_rfl) (by kernel_rfl) (by kernel_rfl) (fun _ _ _ h => h) (Or.inl ⟨by kernel_rfl, ?_⟩) hHeld ?_
        rotate_left
        · intro w' hSw; (try dsimp only at hSw); go_simp
          all_goals (with_reducible rfl)
        simp only [Act.put, List.getElem_toArray, List.getElem_cons_zero, List.getElem_cons_succ, List.setIfInBounds_toArray, List.set_cons_zero, List.set_cons_succ]
        refine wpAnyH_take (i := 5) (v := ?_) rfl (by kernel_rfl) (by kernel_rfl) (by kernel_rfl) (fun _ _ _ h => h) (Or.inl ⟨by kernel_rfl, ?_⟩) hHeld ?_
        rotate_left
        · intro w' hSw; (try dsimp only at hSw); go_simp
          all_goals (with_reducible rfl)
        simp only [Act.put, List.getElem_toArray, List.getElem_cons_zero, List.getElem_cons_succ, List.setIfInBounds_toArray, List.set_cons_zero, List.set_cons_succ]
        refine wpAnyH_take (i := 6) (v := ?_) rfl (by kernel_rfl) (by kernel_rfl) (by kernel_rfl) (fun _ _ _ h => h) (Or.inl ⟨by kernel_rfl, ?_⟩) hHeld ?_
        rotate_left
        · intro w' hSw; (try dsimp only at hSw); go_simp
          all_goals (with_reducible rfl)
        simp only [Act.put, List.getElem_toArray, List.getElem_cons_zero, List.getElem_cons_succ, List.setIfInBounds_toArray, List.set_cons_zero, List.set_cons_succ]
        refine wpAnyH_take (i := 7) (v := ?_) rfl (by kernel_rfl) (by kernel_rfl) (by kernel_rfl) (fun _ _ _ h => h) (Or.inl ⟨by kernel_rfl, ?_⟩) hHeld ?_
        rotate_left
        · intro w' hSw; (try dsimp only at hSw); go_simp
          all_goals (with_reducible rfl)
        simp only [Act.put, List.getElem_toArray, List.getElem_cons_zero, List.getElem_cons_succ, List.setIfInBounds_toArray, List.set_cons_zero, List.set_cons_succ]
        refine wpAnyH_take (i := 8) (v := ?_) rfl (by kernel_rfl) (by kernel_rfl) (by kernel_rfl) (fun _ _ _ h => h) (Or.inl ⟨by kernel_rfl, ?_⟩) hHeld ?_
        rotate_left
        · intro w' hSw; (try dsimp only at hSw); go_simp
          all_goals (with_reducible rfl)
        simp only [Act.put, List.getElem_toArray, List.getElem_cons_zero, List.getElem_cons_succ, List.setIfInBounds_toArray, List.set_cons_zero, List.set_cons_succ]
        refine wpAnyH_take (i := 9) (v := ?_) rfl (by kernel_rfl) (by kernel_rfl) (by kernel_rfl) (fun _ _ _ h => h) (Or.inl ⟨by kernel_rfl, ?_⟩) hHeld ?_
        rotate_left
        · intro w' hSw; (try dsimp only at hSw); go_simp
          all_goals (with_reducible rfl)
        simp only [Act.put, List.getElem_toArray, List.getElem_cons_zero, List.getElem_cons_succ, List.setIfInBounds_toArray, List.set_cons_zero, List.set_cons_succ]
        refine wpAnyH_take (i := 10) (v := ?_) rfl (by kernel_rfl) (by kernel_rfl) (by kernel_rfl) (fun _ _ _ h => h) (Or.inl ⟨by kernel_rfl, ?_⟩) hHeld ?_
        rotate_left
        · intro w' hSw; (try dsimp only at hSw); go_simp
          all_goals (with_reducible rfl)
        simp only [Act.put, List.getElem_toArray, List.getElem_cons_zero, List.getElem_cons_succ, List.setIfInBounds_toArray, List.set_cons_zero, List.set_cons_succ]
        refine wpAnyH_take (i := 11) (v := ?_) rfl (by kernel_rfl) (by kernel_rfl) (by kernel_rfl) (fun _ _ _ h => h) (Or.inl ⟨by kernel_rfl, ?_⟩) hHeld ?_
        rotate_left
        · intro w' hSw; (try dsimp only at hSw); go_simp
          all_goals (with_reducible rfl)
        simp only [Act.put, List.getElem_toArray, List.getElem_cons_zero, List.getElem_cons_succ, List.setIfInBounds_toArray, List.set_cons_zero, List.set_cons_succ]
        refine wpAnyH_take (i := 12) (v := ?_) rfl (by kernel_rfl) (by kernel_rfl) (by kernel_rfl) (fun _ _ _ h => h) (Or.inl ⟨by kernel_rfl, ?_⟩) hHeld ?_
        rotate_left
        · intro w' hSw; (try dsimp only at hSw); go_simp
          all_goals (with_reducible rfl)
        simp only [Act.put, List.getElem_toArray, List.getElem_cons_zero, List.getElem_cons_succ, List.setIfInBounds_toArray, List.set_cons_zero, List.set_cons_succ]
        refine wpAnyH_take (i := 13) (v := ?_) rfl (by kernel_rfl) (by kernel_rfl) (by kernel_rfl) (fun _ _ _ h => h) (Or.inl ⟨by kernel_rfl, ?_⟩) hHeld ?_
        rotate_left
        · intro w' hSw; (try dsimp only at hSw); go_simp
          all_goals (with_reducible rfl)
        simp only [Act.put, List.getElem_toArray, List.getElem_cons_zero, List.getElem_cons_succ, List.setIfInBounds_toArray, List.set_cons_zero, List.set_cons_succ]
        refine wpAnyH_take (i := 14) (v := ?_) rfl (by kernel_rfl) (by kernel_rfl) (by kernel_rfl) (fun _ _ _ h => h) (Or.inl ⟨by kernel_rfl, ?_⟩) hHeld ?_
        rotate_left
        · intro w' hSw; (try dsimp only at hSw); go_simp
          all_goals (with_reducible rfl)
        simp only [Act.put, List.getElem_toArray, List.getElem_cons_zero, List.getElem_cons_succ, List.setIfInBounds_toArray, List.set_cons_zero, List.set_cons_succ]
        refine wpAnyH_take (i := 15) (v := ?_) rfl (by kernel_rfl) (by kernel_rfl) (by kernel_rfl) (fun _ _ _ h => h) (Or.inl ⟨by kernel_rfl, ?_⟩) hHeld ?_
        rotate_left
        · intro w' hSw; (try dsimp only at hSw); go_simp
          all_goals (with_reducible rfl)
        simp only [Act.put, List.getElem_toArray, List.getElem_cons_zero, List.getElem_cons_succ, List.setIfInBounds_toArray, List.set_cons_zero, List.set_cons_succ]
        refine wpAnyH_take (i := 16) (v := ?_) rfl (by kernel_rfl) (by kernel_rfl) (by kernel_rfl) (fun _ _ _ h => h) (Or.inl ⟨by kernel_rfl, ?_⟩) hHeld ?_
        rotate_left
        · intro w' hSw; (try dsimp only at hSw); go_simp
          all_goals (with_reducible rfl)
        simp only [Act.put, List.getElem_toArray, List.getElem_cons_zero, List.getElem_cons_succ, List.setIfInBounds_toArray, List.set_cons_zero, List.set_cons_succ]
        refine wpAnyH_take (i := 17) (v := ?_) rfl (by kernel_rfl) (by kernel_rfl) (by kernel_rfl) (fun _ _ _ h => h) (Or.inl ⟨by kernel_rfl, ?_⟩) hHeld ?_
        rotate_left
        · intro w' hSw; (try dsimp only at hSw); go_simp
          all_goals (with_reducible rfl)
        simp only [Act.put, List.getElem_toArray, List.getElem_cons_zero, List.getElem_cons_succ, List.setIfInBounds_toArray, List.set_cons_zero, List.set_cons_succ]
        refine wpAnyH_ready (rs := [18]) (by kernel_rfl) (by simp) ?_
        refine AllReadyH.cons (o := _) rfl (fun K hK => ?_) AllReadyH.nil
        go_simp
        refine (ih P y _ _ wr.drew hsz (by omega) (by omega) (VIs.keep (w := wr) (w' := wr.drew) (fun _ h => h) (fun _ _ _ => rfl) _ _ hxjH.out)).mono ?_
        rintro e w3 ⟨r3, rfl, hw3, hs3⟩
        have hr31 : 1 ≤ r3 := hw3.1
        have hr32 : r3 ≤ (most - r + 2) * 281474976710656 := hw3.2.1
        have hw4 : IntKind.i64.wrap (r + (nm.length : Int) + r3) = r + (nm.length : Int) + r3 := IntWalk.i64_in _ (by omega)
        have hw3H := Lib.hid hw3
        have hk3 : ∀ (p : Addr) v, wr.cell? p = some v → w3.cell? p = some v := fun p v hv => (World.cell?_of_block (a := p) ((hs3.keep p.block (World.block_lt_of_cell? wr p hv) (by simp)).2)).trans hv
        have a0 := hk3 _ _ v4
        have a1 := hk3 _ _ q0
        have a2 := hk3 _ _ q1
        have a3 := hk3 _ _ q2
        have a4 := hk3 _ _ q3
        have a5 := hk3 _ _ q4
        have a6 := hk3 _ _ q5
        have a7 := hk3 _ _ q6
        have hs3H := Lib.hid (show Step [] id id wr w3 from (Step.drew).tail hs3)
        clear hs3 hk3 hw3
        go_wp2_with fail
        refine hK.out _ _ ?_ (fun hHeld => ?_)
        · exact ⟨a0, a1, a2, a3, a4, a5, a6, a7⟩
        clear hK K
        refine wpAnyH_take (i := 19) (v := ?_) rfl (by kernel_rfl) (by kernel_rfl) (by kernel_rfl) (fun _ _ _ h => h) (Or.inl ⟨by kernel_rfl, ?_⟩) hHeld ?_
        rotate_left
        · intro w' hSw; (try dsimp only at hSw); go_simp
          all_goals (with_reducible rfl)
        simp only [Act.put, List.getElem_toArray, List.getElem_cons_zero, List.getElem_cons_succ, List.setIfInBounds_toArray, List.set_cons_zero, List.set_cons_succ]
        refine wpAnyH_take (i := 20) (v := ?_) rfl (by kernel_rfl) (by kernel_rfl) (by kernel_rfl) (fun _ _ _ h => h) (Or.inl ⟨by kernel_rfl, ?_⟩) hHeld ?_
        rotate_left
        · intro w' hSw; (try dsimp only at hSw); go_simp
          all_goals (with_reducible rfl)
        simp only [Act.put, List.getElem_toArray, List.getElem_cons_zero, List.getElem_cons_succ, List.setIfInBounds_toArray, List.set_cons_zero, List.set_cons_succ]
        refine wpAnyH_done (by kernel_rfl) ?_ _
        clear a0 a1 a2 a3 a4 a5 a6 a7 q0 q1 q2 q3 q4 q5 q6 v4 v5 hHeld
        go_wp2_with fail
        go_roundw
        case rel =>
          refine ⟨_, j + 1, rfl, by go_num, by omega, ?_, hstH.out.tail hs3H.out⟩
          have h1 := hwokH.out
          have h2 := hw3H.out
          rw [htk.out]
          exact ⟨by omega, by omega, fun h => by have e1 := h1.2.2 hrm; have e2 := h2.2.2 (by omega); push_cast; omega⟩
        case measure => simp [intOf]; omega
      · have hst0 := Lib.hid hst
        have hWf0 : WOk most r (BASE + weightFs x.f) := ⟨hwok.1, hwok.2.1, fun h => absurd h hrm⟩
        obtain ⟨W3, hW3⟩ : ∃ W3, W3 = wr := ⟨_, rfl⟩
        have hWf0 := Lib.hid hWf0
        go_wp2_with fail
        rw [← hW3] at hst0 ⊢
        clear hst hW3 v4 v5 hwok
        go_loopw [5, 7] (fun nv i wr => ∃ (r : Int) (j : Nat), nv = .int .i64 r ∧ i = .int .i64 j ∧ j ≤ ln ∧ WOk most r (BASE + weightFs x.f + weightLs (x.l.take j)) ∧ Step [] id id W1 wr) (fun _ i _ => ln - (intOf i).toNat)
        case atStart => exact ⟨_, 0, rfl, rfl, Nat.zero_le _, by simpa [weightLs] using hWf0.out, hst0.out⟩
        case round =>
          obtain ⟨r, j, rfl, rfl, hj, hwok, hst⟩ := hrel
          have hVr := hst.at hV.out (by simp)
          have v4 := cell_blk hVr (i := 4) rfl
          have v5 := cell_blk hVr (i := 5) rfl
          clear hVr
          by_cases hjl : j < ln
          · have hjl1 : (j : Int) < (ln : Int) := by omega
            have hj0 : (0 : Int) ≤ (j : Int) := by omega
            by_cases hrm : r ≤ most
            · have htk := Lib.hid (weightLs_take x.l j (by rw [← hlnH.out]; exact hjl))
              obtain ⟨Y, hY⟩ : ∃ Y, Y = weightV (x.l[j]'(by rw [← hlnH.out]; exact hjl)) := ⟨_, rfl⟩
              rw [← hY] at htk
              have hYH := Lib.hid hY
              clear hY
              have hlw := LIs.keep (P2 := P) (fun _ h => h) (fun k hP hk => (((hs1H.out.tail hst).keep k hk (by simp)).2)) x.l la 0 hlH.out
              obtain ⟨b, o, cs, hae, hPb, hrng, hxj⟩ := hlw.get (j := j) (by rw [← hlnH.out]; exact hjl)
              subst hae
              obtain ⟨s1, ba2, bn2, bc2, fa2, fn2, fc2, la2, ln2, lc2, hcs, -⟩ := hxj.six
              have hsz := hlsH.out j (by rw [← hlnH.out]; exact hjl)
              obtain ⟨y, hy⟩ : ∃ y, y = (x.l[j]'(by rw [← hlnH.out]; exact hjl)) := ⟨_, rfl⟩
              have hYy := Lib.hid (show Y = weightV y by rw [hYH.out, hy])
              rw [← hy] at hxj hcs hsz
              clear hy
              obtain ⟨n1, hn1⟩ : ∃ k, k = y.num := ⟨_, rfl⟩
              obtain ⟨k1, hk1⟩ : ∃ k, k = y.kind := ⟨_, rfl⟩
              rw [← hk1, ← hn1] at hcs
              rw [hcs, Nat.zero_add] at hrng
              subst hcs
              have q0 := hrng 0 _ rfl
              have q1 := hrng 1 _ rfl
              have q2 := hrng 2 _ rfl
              have q3 := hrng 3 _ rfl
              have q4 := hrng 4 _ rfl
              have q5 := hrng 5 _ rfl
              rw [Nat.add_zero] at q0
              have hxjH := Lib.hid hxj
              clear hrng hxj hn1 hk1 hlw
              have hstH := Lib.hid hst
              have hwokH := Lib.hid hwok
              have hwrap : IntKind.i64.wrap ((j : Int) + 1) = (j : Int) + 1 := IntWalk.i64_in _ (by omega)
              have hr1 : 1 ≤ r := hwok.1
              have hw2 : wrap64 (most - r) = most - r := wrap_id (by omega) (by omega)
              clear hst hwok
              go_wp2_with (go_at_call 33; refine (ih P y _ _ _ hsz (by omega) (by omega) hxjH.out).mono ?_; rintro e w3 ⟨r3, rfl, hw3, hs3⟩; have hr31 : 1 ≤ r3 := hw3.1; have hr32 : r3 ≤ (most - r + 2) * 281474976710656 := hw3.2.1; have hw4 : wrap64 (r + r3) = r + r3 := wrap_id (by omega) (by omega); have hs3H := Lib.hid hs3; have hw3H := Lib.hid hw3; clear hs3 hw3)
              go_roundw
              case rel =>
                refine ⟨_, j + 1, rfl, by go_num, by omega, ?_, hstH.out.tail hs3H.out⟩
                have h1 := hwokH.out
                have h2 := hw3H.out
                rw [htk.out]
                exact ⟨by omega, by omega, fun h => by have e1 := h1.2.2 hrm; have e2 := h2.2.2 (by omega); have e3 := hYy.out; push_cast; omega⟩
              case measure => simp [intOf]; omega
            · have hstH := Lib.hid hst
              have hrd := Lib.hid (decide_eq_false hrm)
              have hres := Lib.hid (show WOk most r (weightV x) from ⟨hwok.1, hwok.2.1, fun h => absurd h hrm⟩)
              clear hst hwok
              go_wp2_with fail
              go_ret
              exact ⟨_, rfl, hres.out, hs1H.out.tail hstH.out⟩
          · have hjl1 : ¬ (j : Int) < (ln : Int) := by omega
            have hstH := Lib.hid hst
            have hres := Lib.hid (show WOk most r (weightV x) by
              rw [List.take_of_length_le (by rw [← hlnH.out]; omega)] at hwok
              rw [weightV_eq, ← hBASE.out]; exact hwok)
            clear hst hwok
            go_wp2_with fail
            go_ret
            exact ⟨_, rfl, hres.out, hs1H.out.tail hstH.out⟩
    · have hjl1 : ¬ (j : Int) < (fn : Int) := by omega
      have hst0 := Lib.hid hst
      have hWf0 : WOk most r (BASE + weightFs x.f) := by rw [List.take_of_length_le (by rw [← hfnH.out]; omega)] at hwok; exact hwok
      obtain ⟨W3, hW3⟩ : ∃ W3, W3 = wr := ⟨_, rfl⟩
      have hWf0 := Lib.hid hWf0
      go_wp2_with fail
      rw [← hW3] at hst0 ⊢
      clear hst hW3 v4 v5 hwok
      go_loopw [5, 7] (fun nv i wr => ∃ (r : Int) (j : Nat), nv = .int .i64 r ∧ i = .int .i64 j ∧ j ≤ ln ∧ WOk most r (BASE + weightFs x.f + weightLs (x.l.take j)) ∧ Step [] id id W1 wr) (fun _ i _ => ln - (intOf i).toNat)
      case atStart => exact ⟨_, 0, rfl, rfl, Nat.zero_le _, by simpa [weightLs] using hWf0.out, hst0.out⟩
      case round =>
        obtain ⟨r, j, rfl, rfl, hj, hwok, hst⟩ := hrel
        have hVr := hst.at hV.out (by simp)
        have v4 := cell_blk hVr (i := 4) rfl
        have v5 := cell_blk hVr (i := 5) rfl
        clear hVr
        by_cases hjl : j < ln
        · have hjl1 : (j : Int) < (ln : Int) := by omega
          have hj0 : (0 : Int) ≤ (j : Int) := by omega
          by_cases hrm : r ≤ most
          · have htk := Lib.hid (weightLs_take x.l j (by rw [← hlnH.out]; exact hjl))
            obtain ⟨Y, hY⟩ : ∃ Y, Y = weightV (x.l[j]'(by rw [← hlnH.out]; exact hjl)) := ⟨_, rfl⟩
            rw [← hY] at htk
            have hYH := Lib.hid hY
            clear hY
            have hlw := LIs.keep (P2 := P) (fun _ h => h) (fun k hP hk => (((hs1H.out.tail hst).keep k hk (by simp)).2)) x.l la 0 hlH.out
            obtain ⟨b, o, cs, hae, hPb, hrng, hxj⟩ := hlw.get (j := j) (by rw [← hlnH.out]; exact hjl)
            subst hae
            obtain ⟨s1, ba2, bn2, bc2, fa2, fn2, fc2, la2, ln2, lc2, hcs, -⟩ := hxj.six
            have hsz := hlsH.out j (by rw [← hlnH.out]; exact hjl)
            obtain ⟨y, hy⟩ : ∃ y, y = (x.l[j]'(by rw [← hlnH.out]; exact hjl)) := ⟨_, rfl⟩
            have hYy := Lib.hid (show Y = weightV y by rw [hYH.out, hy])
            rw [← hy] at hxj hcs hsz
            clear hy
            obtain ⟨n1, hn1⟩ : ∃ k, k = y.num := ⟨_, rfl⟩
            obtain ⟨k1, hk1⟩ : ∃ k, k = y.kind := ⟨_, rfl⟩
            rw [← hk1, ← hn1] at hcs
            rw [hcs, Nat.zero_add] at hrng
            subst hcs
            have q0 := hrng 0 _ rfl
            have q1 := hrng 1 _ rfl
            have q2 := hrng 2 _ rfl
            have q3 := hrng 3 _ rfl
            have q4 := hrng 4 _ rfl
            have q5 := hrng 5 _ rfl
            rw [Nat.add_zero] at q0
            have hxjH := Lib.hid hxj
            clear hrng hxj hn1 hk1 hlw
            have hstH := Lib.hid hst
            have hwokH := Lib.hid hwok
            have hwrap : IntKind.i64.wrap ((j : Int) + 1) = (j : Int) + 1 := IntWalk.i64_in _ (by omega)
            have hr1 : 1 ≤ r := hwok.1
            have hw2 : wrap64 (most - r) = most - r := wrap_id (by omega) (by omega)
            clear hst hwok
            go_wp2_with (go_at_call 33; refine (ih P y _ _ _ hsz (by omega) (by omega) hxjH.out).mono ?_; rintro e w3 ⟨r3, rfl, hw3, hs3⟩; have hr31 : 1 ≤ r3 := hw3.1; have hr32 : r3 ≤ (most - r + 2) * 281474976710656 := hw3.2.1; have hw4 : wrap64 (r + r3) = r + r3 := wrap_id (by omega) (by omega); have hs3H := Lib.hid hs3; have hw3H := Lib.hid hw3; clear hs3 hw3)
            go_roundw
            case rel =>
              refine ⟨_, j + 1, rfl, by go_num, by omega, ?_, hstH.out.tail hs3H.out⟩
              have h1 := hwokH.out
              have h2 := hw3H.out
              rw [htk.out]
              exact ⟨by omega, by omega, fun h => by have e1 := h1.2.2 hrm; have e2 := h2.2.2 (by omega); have e3 := hYy.out; push_cast; omega⟩
            case measure => simp [intOf]; omega
          · have hstH := Lib.hid hst
            have hrd := Lib.hid (decide_eq_false hrm)
            have hres := Lib.hid (show WOk most r (weightV x) from ⟨hwok.1, hwok.2.1, fun h => absurd h hrm⟩)
            clear hst hwok
            go_wp2_with fail
            go_ret
            exact ⟨_, rfl, hres.out, hs1H.out.tail hstH.out⟩
        · have hjl1 : ¬ (j : Int) < (ln : Int) := by omega
          have hstH := Lib.hid hst
          have hres := Lib.hid (show WOk most r (weightV x) by
            rw [List.take_of_length_le (by rw [← hlnH.out]; omega)] at hwok
            rw [weightV_eq, ← hBASE.out]; exact hwok)
          clear hst hwok
          go_wp2_with fail
          go_ret
          exact ⟨_, rfl, hres.out, hs1H.out.tail hstH.out⟩

set_option maxRecDepth 100000 in
set_option maxHeartbeats 4000000 in
theorem shallow_step (N : Nat) (ih : ShallowC N) : ShallowC (N + 1) := by
  intro P x cs most w hN hx
  obtain ⟨bv, fa, fc, la, lc, hcs, hb, ⟨hfc, hlc, hfn, hln⟩, -, ⟨hs2, hb2, hf2, hl2⟩, hf, hl⟩ := hx.cells
  obtain ⟨ba, bc, rfl⟩ := hb.shape
  have hfs : ∀ j (h : j < x.f.length), SizeOf.sizeOf x.f[j].2 < N := fun j h => by cases x; exact Nat.lt_of_lt_of_le (f_size h) (Nat.le_of_lt_succ hN)
  have hls : ∀ j (h : j < x.l.length), SizeOf.sizeOf x.l[j] < N := fun j h => by cases x; exact Nat.lt_of_lt_of_le (l_size h) (Nat.le_of_lt_succ hN)
  have hfH := Lib.hid hf
  have hlH := Lib.hid hl
  have hfsH := Lib.hid hfs
  have hlsH := Lib.hid hls
  obtain ⟨n0, hn0⟩ : ∃ k, k = x.num := ⟨_, rfl⟩
  obtain ⟨k0, hk0⟩ : ∃ k, k = x.kind := ⟨_, rfl⟩
  obtain ⟨s0, hs0⟩ : ∃ k, k = strOf x.s := ⟨_, rfl⟩
  obtain ⟨bn, hbn⟩ : ∃ k, k = x.b.length := ⟨_, rfl⟩
  obtain ⟨ln, hlnn⟩ : ∃ k, k = x.l.length := ⟨_, rfl⟩
  obtain ⟨fn, hfnn⟩ : ∃ k, k = x.f.length := ⟨_, rfl⟩
  rw [← hk0, ← hn0, ← hs0, ← hbn, ← hlnn, ← hfnn] at hcs
  rw [← hlnn] at hl2
  rw [← hfnn] at hf2
  subst hcs
  obtain ⟨W1, hW1⟩ : ∃ W1, W1 = w.alloc (.cells #[.int .i64 k0, .int .i64 n0, .string s0, .slice ba bn bc, .slice fa fn fc, .slice la ln lc] 27) := ⟨_, rfl⟩
  have hs1 : Step [] id id w W1 := by rw [hW1]; exact Step.alloc _
  have hV := Lib.hid (show W1.heap[w.heap.size]? = some (.cells #[.int .i64 k0, .int .i64 n0, .string s0, .slice ba bn bc, .slice fa fn fc, .slice la ln lc] 27 (0, 0)) by rw [hW1]; exact heap_alloc_new w _)
  have hs1H := Lib.hid hs1
  have hlnH := Lib.hid hlnn
  have hfnH := Lib.hid hfnn
  have hW1H := Lib.hid hW1
  have hs0e := Lib.hid hs0
  have hbne := Lib.hid hbn
  clear hx hn0 hk0 hs0 hbn hlnn hfnn hs1 hW1 hf hl hfs hls hb hfc hlc hfn hln hs2 hb2
  go_enter Tryd.func34, Tryd.ntmps34
  go_wp2_with fail
  rw [← hW1H.out]
  go_loopw [5] (fun i wr => ∃ (j : Nat), i = .int .i64 j ∧ j ≤ fn ∧ Step [] id id W1 wr) (fun i _ => fn - (intOf i).toNat)
  case atStart => exact ⟨0, rfl, Nat.zero_le _, Step.refl _ _ _⟩
  case round =>
    obtain ⟨j, rfl, hj, hst⟩ := hrel
    have hVr := hst.at hV.out (by simp)
    have v4 := cell_blk hVr (i := 4) rfl
    have v5 := cell_blk hVr (i := 5) rfl
    clear hVr
    by_cases hjl : j < fn
    · have hjl1 : (j : Int) < (fn : Int) := by omega
      have hj0 : (0 : Int) ≤ (j : Int) := by omega
      by_cases hm : most = 0
      · have hstH := Lib.hid hst
        clear hst
        subst hm
        go_wp2_with fail
        go_ret
        exact ⟨_, rfl, hs1H.out.tail hstH.out⟩
      · have hfw := FIs.keep (P2 := P) (fun _ h => h) (fun k hP hk => (((hs1H.out.tail hst).keep k hk (by simp)).2)) x.f fa 0 hfH.out
        obtain ⟨b, o, cs, hae, hPb, hnl, hrng, hxj⟩ := hfw.get (j := j) (by rw [← hfnH.out]; exact hjl)
        subst hae
        obtain ⟨s1, ba2, bn2, bc2, fa2, fn2, fc2, la2, ln2, lc2, hcs, -⟩ := hxj.six
        have hsz := hfsH.out j (by rw [← hfnH.out]; exact hjl)
        generalize (x.f[j]'(by rw [← hfnH.out]; exact hjl)) = y at *
        obtain ⟨nm, y⟩ := y
        simp only at hrng hxj hcs hsz hnl
        obtain ⟨n1, hn1⟩ : ∃ k, k = y.num := ⟨_, rfl⟩
        obtain ⟨k1, hk1⟩ : ∃ k, k = y.kind := ⟨_, rfl⟩
        obtain ⟨nms, hnms⟩ : ∃ k, k = strOf nm := ⟨_, rfl⟩
        rw [← hk1, ← hn1] at hcs
        rw [hcs, Nat.zero_add, ← hnms] at hrng
        subst hcs
        have q0 := hrng 0 _ rfl
        have q1 := hrng 1 _ rfl
        have q2 := hrng 2 _ rfl
        have q3 := hrng 3 _ rfl
        have q4 := hrng 4 _ rfl
        have q5 := hrng 5 _ rfl
        have q6 := hrng 6 _ rfl
        rw [Nat.add_zero] at q0
        have hxjH := Lib.hid hxj
        clear hrng hxj hn1 hk1 hnms hfw
        have hstH := Lib.hid hst
        have hwrap : IntKind.i64.wrap ((j : Int) + 1) = (j : Int) + 1 := IntWalk.i64_in _ (by omega)
        clear hst
        have hcall := ih P y _ (wrap64 (most - 1)) wr hsz hxjH.out
        have hcallH := Lib.hid hcall
        clear hcall
        go_wp2_with fail
        refine hcallH.out.mono ?_
        rintro e w3 ⟨r3, rfl, hs3⟩
        have hs3H := Lib.hid hs3
        clear hs3
        cases r3
        · go_wp2_with fail
          go_ret
          exact ⟨_, rfl, (hs1H.out.tail hstH.out).tail hs3H.out⟩
        · go_wp2_with fail
          go_roundw
          case rel => exact ⟨j + 1, by go_num, by omega, hstH.out.tail hs3H.out⟩
          case measure => simp [intOf]; omega
    · have hjl1 : ¬ (j : Int) < (fn : Int) := by omega
      have hst0 := Lib.hid hst
      obtain ⟨W3, hW3⟩ : ∃ W3, W3 = wr := ⟨_, rfl⟩
      go_wp2_with fail
      rw [← hW3] at hst0 ⊢
      clear hst hW3 v4 v5
      go_loopw [6] (fun i wr => ∃ (j : Nat), i = .int .i64 j ∧ j ≤ ln ∧ Step [] id id W1 wr) (fun i _ => ln - (intOf i).toNat)
      case atStart => exact ⟨0, rfl, Nat.zero_le _, hst0.out⟩
      case round =>
        obtain ⟨j, rfl, hj, hst⟩ := hrel
        have hVr := hst.at hV.out (by simp)
        have v4 := cell_blk hVr (i := 4) rfl
        have v5 := cell_blk hVr (i := 5) rfl
        clear hVr
        by_cases hjl : j < ln
        · have hjl1 : (j : Int) < (ln : Int) := by omega
          have hj0 : (0 : Int) ≤ (j : Int) := by omega
          by_cases hm : most = 0
          · have hstH := Lib.hid hst
            clear hst
            subst hm
            go_wp2_with fail
            go_ret
            exact ⟨_, rfl, hs1H.out.tail hstH.out⟩
          · have hlw := LIs.keep (P2 := P) (fun _ h => h) (fun k hP hk => (((hs1H.out.tail hst).keep k hk (by simp)).2)) x.l la 0 hlH.out
            obtain ⟨b, o, cs, hae, hPb, hrng, hxj⟩ := hlw.get (j := j) (by rw [← hlnH.out]; exact hjl)
            subst hae
            obtain ⟨s1, ba2, bn2, bc2, fa2, fn2, fc2, la2, ln2, lc2, hcs, -⟩ := hxj.six
            have hsz := hlsH.out j (by rw [← hlnH.out]; exact hjl)
            generalize (x.l[j]'(by rw [← hlnH.out]; exact hjl)) = y at *
            obtain ⟨n1, hn1⟩ : ∃ k, k = y.num := ⟨_, rfl⟩
            obtain ⟨k1, hk1⟩ : ∃ k, k = y.kind := ⟨_, rfl⟩
            rw [← hk1, ← hn1] at hcs
            rw [hcs, Nat.zero_add] at hrng
            subst hcs
            have q0 := hrng 0 _ rfl
            have q1 := hrng 1 _ rfl
            have q2 := hrng 2 _ rfl
            have q3 := hrng 3 _ rfl
            have q4 := hrng 4 _ rfl
            have q5 := hrng 5 _ rfl
            rw [Nat.add_zero] at q0
            have hxjH := Lib.hid hxj
            clear hrng hxj hn1 hk1 hlw
            have hstH := Lib.hid hst
            have hwrap : IntKind.i64.wrap ((j : Int) + 1) = (j : Int) + 1 := IntWalk.i64_in _ (by omega)
            clear hst
            have hcall := ih P y _ (wrap64 (most - 1)) wr hsz hxjH.out
            have hcallH := Lib.hid hcall
            clear hcall
            go_wp2_with fail
            refine hcallH.out.mono ?_
            rintro e w3 ⟨r3, rfl, hs3⟩
            have hs3H := Lib.hid hs3
            clear hs3
            cases r3
            · go_wp2_with fail
              go_ret
              exact ⟨_, rfl, (hs1H.out.tail hstH.out).tail hs3H.out⟩
            · go_wp2_with fail
              go_roundw
              case rel => exact ⟨j + 1, by go_num, by omega, hstH.out.tail hs3H.out⟩
              case measure => simp [intOf]; omega
        · have hjl1 : ¬ (j : Int) < (ln : Int) := by omega
          have hstH := Lib.hid hst
          clear hst
          go_wp2_with fail
          go_ret
          exact ⟨_, rfl, hs1H.out.tail hstH.out⟩

theorem weight_all : ∀ N, WeightC N
  | 0 => fun _ x _ _ _ hN => absurd hN (Nat.not_lt_zero _)
  | N + 1 => weight_step N (weight_all N)
theorem shallow_all : ∀ N, ShallowC N
  | 0 => fun _ x _ _ _ hN => absurd hN (Nat.not_lt_zero _)
  | N + 1 => shallow_step N (shallow_all N)

set_option maxRecDepth 100000 in
set_option maxHeartbeats 4000000 in
theorem bs_small {P : Nat → Prop} {x : Val} {cs : List Value} {w : World} (hx : VIs P w x cs) : Calls Tryd.prog 16 #[.agg cs.toArray] w (SBool x w) := by
  obtain ⟨s0, ba, bn, bc, fa, fn, fc, la, ln, lc, hcs, -⟩ := hx.six
  obtain ⟨n0, hn0⟩ : ∃ k, k = x.num := ⟨_, rfl⟩
  obtain ⟨k0, hk0⟩ : ∃ k, k = x.kind := ⟨_, rfl⟩
  rw [← hk0, ← hn0] at hcs
  subst hcs
  obtain ⟨W1, hW1⟩ : ∃ W1, W1 = w.alloc (.cells #[.int .i64 k0, .int .i64 n0, .string s0, .slice ba bn bc, .slice fa fn fc, .slice la ln lc] 27) := ⟨_, rfl⟩
  have hV := Lib.hid (show W1.heap[w.heap.size]? = some (.cells #[.int .i64 k0, .int .i64 n0, .string s0, .slice ba bn bc, .slice fa fn fc, .slice la ln lc] 27 (0, 0)) by rw [hW1]; exact heap_alloc_new w _)
  have hs1 : Step [] id id w W1 := by rw [hW1]; exact Step.alloc _
  have hx1 := Lib.hid (hx.keep (P2 := P) (fun _ h => h) (fun k hP hk => (hs1.keep k hk (by simp)).2))
  have hs1H := Lib.hid hs1
  have hW1H := Lib.hid hW1
  clear hx hn0 hk0 hs1 hW1
  go_enter Tryd.func16, Tryd.ntmps16
  go_wp2_with fail
  rw [← hW1H.out]
  refine (weight_all (SizeOf.sizeOf x + 1) P x _ 3000 W1 (Nat.lt_succ_self _) (by omega) (by omega) hx1.out).mono ?_
  rintro e w2 ⟨r, rfl, hwk, hs2⟩
  have hwkH := Lib.hid hwk
  clear hwk
  have hs2H := Lib.hid hs2
  by_cases hr : r ≤ 3000
  · have hV2 := hs2.at hV.out (by simp)
    have v0 := cell_blk hV2 (i := 0) rfl
    have v1 := cell_blk hV2 (i := 1) rfl
    have v2 := cell_blk hV2 (i := 2) rfl
    have v3 := cell_blk hV2 (i := 3) rfl
    have v4 := cell_blk hV2 (i := 4) rfl
    have v5 := cell_blk hV2 (i := 5) rfl
    clear hs2 hV2
    go_wp2_with (go_at_call 34; refine (shallow_all (SizeOf.sizeOf x + 1) P x _ 60 w2 (Nat.lt_succ_self _) (hx1.out.keep (fun _ h => h) (fun k hP hk => (hs2H.out.keep k hk (by simp)).2))).mono ?_; rintro e w3 ⟨r3, rfl, hs3⟩; have hs3H := Lib.hid hs3; clear hs3)
    go_ret
    exact ⟨_, rfl, fun _ => by have := hwkH.out.2.2 hr; omega, (hs1H.out.tail hs2H.out).tail hs3H.out⟩
  · have hrd := Lib.hid (decide_eq_false hr)
    clear hs2
    go_wp2_with fail
    go_ret
    exact ⟨false, rfl, (fun h => by cases h), hs1H.out.tail hs2H.out⟩
end Go.Proofs.YtbkmnhogfegmcaaDoor
namespace Go.Proofs.YtbkmnhogfegmcaaDoor
open Go.RowKit

/-! how long what is encoded can be -/
theorem weightV_pos (v : Val) : 1 ≤ weightV v := by cases v; rw [weightV]; omega
theorem weightLs_len : ∀ l : List Val, l.length ≤ weightLs l
  | [] => by simp
  | v :: r => by have := weightV_pos v; have := weightLs_len r; simp [weightLs]; omega
mutual
theorem enc_lenV : ∀ v : Val, weightV v ≤ 9000 → (encV v).length + 6 ≤ 14 * weightV v
  | .mk k n s b f l, h => by
    rw [weightV] at h ⊢
    have h1 := enc_lenFs f (by omega)
    have h2 := enc_lenLs l 0 (by omega) (by have := weightLs_len l; omega)
    simp only [encV]
    repeat' split
    all_goals try simp only [layI_length, wrapDoc_length, List.length_append, List.length_cons, List.length_nil]
    all_goals omega
theorem enc_lenFs : ∀ f : List (Bs × Val), weightFs f ≤ 9000 → (encFs f).length ≤ 14 * weightFs f
  | [], _ => by simp [encFs]
  | (nm, v) :: r, h => by
    rw [weightFs] at h ⊢
    have h1 := enc_lenV v (by omega)
    have h2 := enc_lenFs r (by omega)
    rw [encFs]
    simp only [List.length_append, List.length_cons]
    omega
theorem enc_lenLs : ∀ (l : List Val) (i : Nat), weightLs l ≤ 9000 → i + l.length ≤ 9999 → (encLs i l).length ≤ 14 * weightLs l
  | [], _, _, _ => by simp [encLs]
  | v :: r, i, h, hi => by
    rw [weightLs] at h ⊢
    simp only [List.length_cons] at hi
    have h1 := enc_lenV v (by omega)
    have h2 := enc_lenLs r (i + 1) (by omega) (by omega)
    have h3 := itoa_length 3 i (by omega)
    rw [encLs]
    simp only [List.length_append, List.length_cons]
    omega
end
theorem enc_short {v : Val} (hk : okDoc v = true) (h : weightV v ≤ 3000) : (wrapDoc (encFs v.f)).length ≤ 42000 := by
  have h1 := enc_lenV v (by omega)
  cases v with
  | mk k n s b f l =>
    unfold okDoc at hk
    simp only [Val.kind, Bool.and_eq_true] at hk
    obtain ⟨⟨⟨hk6, _⟩, _⟩, _⟩ := hk
    obtain rfl := of_decide_eq_true hk6
    have h2 : encV (.mk 6 n s b f l) = wrapDoc (encFs f) := by simp [encV]
    rw [h2] at h1
    simp only [Val.f]
    omega

/-! cut, or with one behind -/
theorem num_wrap {body x : Bs} (h : body.length ≤ 60000) (hx : ∃ y, wrapDoc body ++ y = x) : signed 4 (numAt x 0 4) = ((body.length + 5 : Nat) : Int) := by
  obtain ⟨y, rfl⟩ := hx
  have h1 : At (wrapDoc body ++ y) 0 (layI 4 ((body.length + 5 : Nat) : Int)) := ⟨[], body ++ [0] ++ y, by simp [wrapDoc], rfl⟩
  rw [h1.num (layI_length _ _), signed_lay4 (by omega) (by omega)]
theorem cut_bad {body : Bs} {k : Nat} (h : body.length ≤ 60000) (hk : k < (wrapDoc body).length) : errOf (decode ((wrapDoc body).take k)) = (if k < 4 then 2 else 4) := by
  have hl := wrapDoc_length body
  have hlen : ((wrapDoc body).take k).length = k := by rw [List.length_take]; omega
  unfold decode
  rw [if_neg (by omega), hlen]
  by_cases h4 : k < 4
  · rw [if_pos h4, if_pos h4]; rfl
  rw [if_neg h4, if_neg h4]
  have hn : signed 4 (numAt ((wrapDoc body).take k) 0 4) = ((body.length + 5 : Nat) : Int) := by
    rw [← num_wrap (x := wrapDoc body) h ⟨[], by simp⟩]
    unfold numAt
    rw [List.drop_zero, List.drop_zero, List.take_take, Nat.min_eq_left (by omega)]
  rw [hn, if_neg (by omega), if_pos (by omega)]; rfl
theorem more_bad {body : Bs} {x : UInt8} (h : body.length ≤ 60000) : errOf (decode (wrapDoc body ++ [x])) = 4 := by
  have hl := wrapDoc_length body
  have hlen : (wrapDoc body ++ [x]).length = body.length + 6 := by rw [List.length_append, hl]; rfl
  unfold decode
  rw [if_neg (by omega), if_neg (by omega), num_wrap h ⟨[x], rfl⟩, if_neg (by omega), hlen, if_pos (by omega)]; rfl

/-- Decode's answer, its error alone. -/
theorem DecodeP.shape {w w' : World} {r : Res Val} {e : Ending} (h : DecodeP w r e w') : ∃ k n s0 ba bn bc fa fn fc la ln lc, e = .returned (.tuple #[.agg #[.int .i64 k, .int .i64 n, .string s0, .slice ba bn bc, .slice fa fn fc, .slice la ln lc], .int .i64 (errOf r)]) ∧ Step [] id id w w' := by
  obtain ⟨h1, cs, rfl, hx⟩ := h
  obtain ⟨s0, ba, bn, bc, fa, fn, fc, la, ln, lc, rfl, -⟩ := hx.six
  exact ⟨_, _, s0, ba, bn, bc, fa, fn, fc, la, ln, lc, rfl, h1⟩

theorem Grew.fresh {w w' : World} {v v' : Value} (h : Grew w v w' v') (hv : ∀ k, v.ownBlock = some k → w.heap.size ≤ k) : Step [] id id w w' :=
  Step.tailNew (T2 := v.ownBlock.toList) (Step.refl _ _ _) (h.step fun k hk => by rw [hk]; simp) (fun r hr => .inr (hv r (by cases hv : v.ownBlock <;> rw [hv] at hr <;> simp at hr; rw [hr])))
theorem row_made0 (w : World) {B : Nat} (hB : B = w.heap.size) : Row (w.alloc (.cells #[] 5)) (.slice (some ⟨B, 0, none⟩) 0 0) [] := by subst hB; exact World.ownsRow_made w #[] 0 (Nat.zero_le _) (Nat.zero_le _) rfl
theorem BIn.onto {w w' : World} {v : Value} {l : Bs} (h : BIn (fun k => k < w.heap.size) w v l) (hs : Step [] id id w w') : BIn (fun k => k < w'.heap.size) w' v l :=
  h.keep (fun k hk => Nat.lt_of_lt_of_le hk hs.size) (fun k hk hl => (hs.keep k hl (by simp)).2)
theorem Row.cut {w : World} {b c : Nat} {l : Bs} {k : Nat} (h : Lie w ⟨b, 0, none⟩ l) (hb : b < w.heap.size) (hk : k ≤ l.length) (hc : l.length ≤ c) : BIn (fun k => k < w.heap.size) w (.slice (Option.some ⟨b, 0, none⟩) k c) (l.take k) := by
  have hlen : (l.take k).length = k := by rw [List.length_take]; omega
  refine .inr ⟨b, 0, c, by rw [hlen], by omega, hb, fun i hi => ?_⟩
  have := h i (by omega)
  rw [addr_add] at this
  rw [this]; simp

set_option maxRecDepth 100000 in
set_option maxHeartbeats 8000000 in
theorem law_cuts {w : World} {x : Val} {cs : List Value} (cn : Nat) (hcn : cn < 65536) (ht : Tw w) (hx : VIs (fun k => k < w.heap.size) w x cs) : Calls Tryd.prog 5 #[.agg cs.toArray, .int .u16 cn] w fun e w' => e = .returned (.bool true) ∧ Step [] id id w w' := by
  obtain ⟨s0, ba, bn, bc, fa, fn, fc, la, ln, lc, hcs, -⟩ := hx.six
  obtain ⟨n0, hn0⟩ : ∃ k, k = x.num := ⟨_, rfl⟩
  obtain ⟨k0, hk0⟩ : ∃ k, k = x.kind := ⟨_, rfl⟩
  rw [← hk0, ← hn0] at hcs
  subst hcs
  obtain ⟨W1, hW1⟩ : ∃ W1, W1 = w.alloc (.cells #[.int .i64 k0, .int .i64 n0, .string s0, .slice ba bn bc, .slice fa fn fc, .slice la ln lc] 27) := ⟨_, rfl⟩
  have hV := Lib.hid (show W1.heap[w.heap.size]? = some (.cells #[.int .i64 k0, .int .i64 n0, .string s0, .slice ba bn bc, .slice fa fn fc, .slice la ln lc] 27 (0, 0)) by rw [hW1]; exact heap_alloc_new w _)
  have hs1 : Step [] id id w W1 := by rw [hW1]; exact Step.alloc _
  have hx1 := Lib.hid (hx.onto hs1)
  have ht1 := Lib.hid (ht.step hs1)
  have hs1H := Lib.hid hs1
  have hW1H := Lib.hid hW1
  clear hx hn0 hk0 hs1 hW1 ht
  go_enter Tryd.func5, Tryd.ntmps5
  go_wp2_with (go_at_call 10; rw [← hW1H.out]; refine (bs_awake W1 ht1.out).mono ?_; rintro e w2 ⟨rfl, hs2⟩; have hVr := (hs2).at hV.out (by simp); have vlt := lt_of_block hVr; have v0 := cell_blk hVr (i := 0) rfl; have v1 := cell_blk hVr (i := 1) rfl; have v2 := cell_blk hVr (i := 2) rfl; have v3 := cell_blk hVr (i := 3) rfl; have v4 := cell_blk hVr (i := 4) rfl; have v5 := cell_blk hVr (i := 5) rfl; clear hVr; have hs2H := Lib.hid hs2; clear hs2)
  refine (bs_small (hx1.out.onto hs2H.out)).mono ?_
  rintro e w3 ⟨r, rfl, hw, hs3⟩
  have hs3H := Lib.hid (hs2H.out.tail hs3)
  have hwH := Lib.hid hw
  clear hs3 hw v0 v1 v2 v3 v4 v5 vlt
  have hVr := (hs3H.out).at hV.out (by simp); have vlt := lt_of_block hVr; have v0 := cell_blk hVr (i := 0) rfl; have v1 := cell_blk hVr (i := 1) rfl; have v2 := cell_blk hVr (i := 2) rfl; have v3 := cell_blk hVr (i := 3) rfl; have v4 := cell_blk hVr (i := 4) rfl; have v5 := cell_blk hVr (i := 5) rfl; clear hVr
  cases r
  · go_wp2_with fail
    go_ret
    exact ⟨rfl, hs1H.out.tail hs3H.out⟩
  have hw := hwH.out rfl
  cases hok : okDoc x
  · have hokH := Lib.hid hok
    clear hok
    go_wp2_with (go_at_call 14; refine (bs_encode (hx1.out.onto hs3H.out) (ht1.out.step hs3H.out)).mono ?_; rintro e w4 h; obtain ⟨rfl, hs4⟩ := h.ill hokH.out; have hs4H := Lib.hid hs4; clear hs4 h)
    go_ret
    exact ⟨rfl, (hs1H.out.tail hs3H.out).tail hs4H.out⟩
  have hshort := enc_short hok hw
  have hokH := Lib.hid hok
  have hwl := wrapDoc_length (encFs x.f)
  obtain ⟨n, hn⟩ : ∃ n, n = (wrapDoc (encFs x.f)).length := ⟨_, rfl⟩
  have hnH := Lib.hid hn
  have hn5 : 5 ≤ n := by omega
  have hn6 : n ≤ 42000 := by omega
  clear hok hw hshort hwl hn
  obtain ⟨k, hk⟩ : ∃ k, k = cn % n := ⟨_, rfl⟩
  have hkn : k < n := by rw [hk]; exact Nat.mod_lt _ (by omega)
  have hki : (cn : Int) % (n : Int) = (k : Int) := by rw [hk]; push_cast; rfl
  have hni : ((n : Int) == 0) = false := by rw [beq_eq_false_iff_ne]; omega
  have hni2 : ¬ (n : Int) = 0 := by omega
  clear hk
  go_wp2_with (go_at_call 14; refine (bs_encode (hx1.out.onto hs3H.out) (ht1.out.step hs3H.out)).mono ?_; rintro e w4 h; obtain ⟨v, rfl, hrow, hs4, hnew⟩ := h.ok hokH.out; obtain ⟨vb, vc, rfl, hlie, hvc, hvb⟩ := hrow.some (by intro e; have h1 := hnH.out; rw [e] at h1; simp at h1; omega); rw [← hnH.out] at hvc ⊢; have hs4H := Lib.hid (hs3H.out.tail hs4); have hrowH := Lib.hid hrow; have hlieH := Lib.hid hlie; clear hs4 hrow hlie hnew h)
  have hcut := Row.cut (k := k) hlieH.out hvb (by rw [← hnH.out]; omega) (by rw [← hnH.out]; omega)
  have hEl := wrapDoc_length (encFs x.f)
  rw [← hnH.out] at hEl
  have hErr1 : errOf (decode ((wrapDoc (encFs x.f)).take k)) = (if k < 4 then 2 else 4) := cut_bad (by omega) (by rw [← hnH.out]; exact hkn)
  refine (bs_decode hcut (by rw [List.length_take]; omega) (ht1.out.step hs4H.out)).mono ?_
  rintro e w5 h
  obtain ⟨k5, n5, s5, ba5, bn5, bc5, fa5, fn5, fc5, la5, ln5, lc5, rfl, hs5⟩ := h.shape
  rw [hErr1]
  obtain ⟨E1, hE1⟩ : ∃ E1 : Int, E1 = (if k < 4 then 2 else 4) := ⟨_, rfl⟩
  have hE1H := Lib.hid hE1
  rw [← hE1]
  have hs5H := Lib.hid hs5
  have hbin5 := BIn.onto hrowH.out.bin hs5
  have hbin5H := Lib.hid hbin5
  have hErr1H := Lib.hid hErr1
  have hElH := Lib.hid hEl
  have hsrcH := Lib.hid (show ∀ o1 o2, Src ((w5.alloc o1).alloc o2) 1 (.slice (some ⟨vb, 0, none⟩) n vc) (wrapDoc (encFs x.f)).length (byteVals (wrapDoc (encFs x.f))) from fun o1 o2 => by have h1 := (hbin5.onto ((Step.alloc o1).tail (Step.alloc o2))).src; rw [← hnH.out] at h1 ⊢; exact h1)
  have hn8 := Lib.hid (show ([] ++ wrapDoc (encFs x.f) : Bs).length + 1 ≤ 1000000000 by rw [List.nil_append, ← hnH.out]; omega)
  have hn7 := Lib.hid (show ([] : Bs).length + n ≤ 1000000000 by simp; omega)
  have hZ2 := Lib.hid (show (cn : Int) % 256 = ((UInt8.ofNat cn).toNat : Int) by simp)
  clear h hs5 hbin5 hcut hE1 hErr1 hEl v0 v1 v2 v3 v4 v5
  go_wp2_with (first
    | (at_builtin; refine wpList_put_byte rfl _ _ rfl (by rfl) hr6H.out (UInt8.ofNat cn) (by rfl) (by rfl) (by exact hZ2.out) (by exact hn8.out) ?_; intro ad7 N7 c7 w7 hr7 hg7; have hs7 : Step [] id id w5 w7 := (hg6H.out.trans hg7).fresh (fun k h => by cases h; exact Nat.le_succ _); have hs7H := Lib.hid hs7; have hr7H := Lib.hid hr7; clear hs7 hr7 hg7)
    | (at_builtin; refine wpList_put_src (v := .slice (some ⟨w5.heap.size + 1, 0, none⟩) 0 0) (l := []) rfl _ _ rfl (by rfl) (by exact row_made0 _ (by exact (Array.size_push _).symm)) (wrapDoc (encFs x.f)) (by rfl) (by exact hsrcH.out _ _) (by rw [← hnH.out]; exact hn7.out) ?_; intro ad6 N6 c6 w6 hr6 hg6; have hg6 := Grew.left ((World.grownBy_alloc w5 _ none).trans (World.grownBy_alloc _ _ none)) hg6; have hg6H := Lib.hid hg6; have hr6H := Lib.hid hr6; clear hr6 hg6))
  have hbin7 := hr7H.out.bin
  have hs47 := hs4H.out.tail (hs5H.out.tail hs7H.out)
  have hs47H := Lib.hid hs47
  refine (bs_decode hbin7 (by rw [List.nil_append, List.length_append, ← hnH.out]; simp; omega) (ht1.out.step hs47)).mono ?_
  rintro e w8 h
  obtain ⟨k8, n8, s8, ba8, bn8, bc8, fa8, fn8, fc8, la8, ln8, lc8, rfl, hs8⟩ := h.shape
  rw [List.nil_append, more_bad (by have := hElH.out; omega)]
  have hs8H := Lib.hid hs8
  clear h hs8 hbin7 hs47
  by_cases hk4 : k < 4
  · have hk5 : (k : Int) < 4 := by omega
    have hE : E1 = 2 := by rw [hE1H.out, if_pos hk4]
    subst hE
    go_wp2_with fail
    go_ret
    exact ⟨rfl, ((hs1H.out.tail hs47H.out).tail hs8H.out).tail (Step.alloc _)⟩
  · have hk5 : ¬ (k : Int) < 4 := by omega
    have hE : E1 = 4 := by rw [hE1H.out, if_neg hk4]
    subst hE
    go_wp2_with fail
    go_ret
    exact ⟨rfl, ((hs1H.out.tail hs47H.out).tail hs8H.out).tail (Step.alloc _)⟩
end Go.Proofs.YtbkmnhogfegmcaaDoor
