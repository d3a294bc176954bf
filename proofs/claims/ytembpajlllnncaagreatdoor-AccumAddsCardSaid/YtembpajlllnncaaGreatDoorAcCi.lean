/- Accumulators: how lists compare. Accumulators: how fields compare. Accumulators: how any values compare. Accumulators: order.Compare: any two values. -/
import Derived.Test.YtembpajlllnncaaGreatDoorAcCd
import Derived.Test.YtembpajlllnncaaGreatDoorAcOp
set_option linter.unusedVariables false
set_option linter.unusedSimpArgs false
namespace Go.Proofs.YtembpajlllnncaaGreatDoor
open Go.RowKit

theorem cmpLs_drop {l m : List Val} {j : Nat} (hl : j < l.length) (hm : j < m.length) : cmpLs (l.drop j) (m.drop j) = orI (cmpV l[j] m[j]) (cmpLs (l.drop (j + 1)) (m.drop (j + 1))) := by
 rw [List.drop_eq_getElem_cons hl, List.drop_eq_getElem_cons hm, cmpLs]
theorem cmpLs_left {l m : List Val} {j : Nat} (hl : j < l.length) (hm : m.length ≤ j) : cmpLs (l.drop j) (m.drop j) = 1 := by
 rw [List.drop_eq_getElem_cons hl, List.drop_of_length_le hm, cmpLs]
theorem cmpLs_right {l m : List Val} {j : Nat} (hl : l.length ≤ j) (hm : j < m.length) : cmpLs (l.drop j) (m.drop j) = -1 := by
 rw [List.drop_of_length_le hl, List.drop_eq_getElem_cons hm, cmpLs]
theorem cmpLs_end {l m : List Val} {j : Nat} (hl : l.length ≤ j) (hm : m.length ≤ j) : cmpLs (l.drop j) (m.drop j) = 0 := by
 rw [List.drop_of_length_le hl, List.drop_of_length_le hm, cmpLs]
set_option maxRecDepth 100000 in
set_option maxHeartbeats 4000000 in
theorem cmpf_vals {P Q : Nat → Prop} {w : World} {l m : List Val} {la lb : Option Addr} {n1 c1 n2 c2 : Nat} (hl : LIs P w l la 0) (hm : LIs Q w m lb 0) (hn1 : n1 = l.length) (hn2 : n2 = m.length) (hb1 : n1 ≤ 140737488351232) (hb2 : n2 ≤ 140737488351232)
  (hc : ∀ (j : Nat) (h1 : j < l.length) (h2 : j < m.length), CmpH l[j] m[j]) :
  Calls Tryz.prog 86 #[.slice la n1 c1, .slice lb n2 c2, .func (.func 42) #[] #[]] w fun e w' => e = .returned (.int .i64 (cmpLs l m)) ∧ Step [] id id w w' := by
 have hcf : ∀ (args : Array Value) (w : World), (callFunc 42 args).run Tryz.prog w = .ok (.enter 42 args) w := fun _ _ => by kernel_rfl
 have hlk := Lib.hid (fun (W : World) (hW : Step [] id id w W) => LIs.keep (P2 := fun _ => True) (w' := W) (fun _ _ => trivial) (fun k hk hl => (hW.keep k hl (by simp)).2) _ _ _ hl)
 have hmk := Lib.hid (fun (W : World) (hW : Step [] id id w W) => LIs.keep (P2 := fun _ => True) (w' := W) (fun _ _ => trivial) (fun k hk hl => (hW.keep k hl (by simp)).2) _ _ _ hm)
 have hn1H := Lib.hid hn1
 have hn2H := Lib.hid hn2
 have hcH := Lib.hid hc
 obtain ⟨C0, hC0⟩ : ∃ C, C = cmpLs l m := ⟨_, rfl⟩
 rw [← hC0]
 have hC0H := Lib.hid (show C0 = cmpLs (l.drop 0) (m.drop 0) from hC0)
 clear hl hm hn1 hn2 hc hC0
 go_enter Tryz.func86, Tryz.ntmps86
 go_wp2_with fail
 go_loopw [13] (fun i wr => ∃ j : Nat, i = .int .i64 j ∧ j ≤ n1 ∧ j ≤ n2 ∧ C0 = cmpLs (l.drop j) (m.drop j) ∧ Step [] id id w wr) (fun i _ => n1 - (intOf i).toNat)
 case atStart => exact ⟨0, rfl, Nat.zero_le _, Nat.zero_le _, hC0H.out, Step.refl _ _ _⟩
 case round =>
  obtain ⟨j, rfl, hj1, hj2, hcj, hst⟩ := hrel
  have hcjH := Lib.hid hcj
  have hstH := Lib.hid hst
  clear hcj
  by_cases hjn : j < n1
  ·have hjn1 : (j : Int) < (n1 : Int) := by omega
   have hjl : j < l.length := by rw [← hn1H.out]; exact hjn
   have hlr := hlk.out wr hst
   obtain ⟨b1, o1, cs1, hla, -, -, -⟩ := hlr.get hjl
   subst hla
   obtain ⟨s, ba, bn, bc, fa, fn, fc, la1, ln1, lc1, hxj, -, q0, q1, q2, q3, q4, q5⟩ := elem_at hlr hjl
   have hgr : b1 < wr.heap.size := World.block_lt_of_cell? _ _ q0
   have hwrap : IntKind.i64.wrap ((j : Int) + 1) = (j : Int) + 1 := IntWalk.i64_in _ (by omega)
   by_cases hjm : j < n2
   ·have hjm1 : ¬ (n2 : Int) ≤ (j : Int) := by omega
    have hjm2 : (j : Int) < (n2 : Int) := by omega
    have hjml : j < m.length := by rw [← hn2H.out]; exact hjm
    have hmr := hmk.out wr hst
    obtain ⟨b2, o2, cs2, hlb, -, -, -⟩ := hmr.get hjml
    subst hlb
    obtain ⟨s2, ba2, bn2, bc2, fa2, fn2, fc2, la2, ln2, lc2, hyj, -, p0, p1, p2, p3, p4, p5⟩ := elem_at hmr hjml
    have hgr2 : b2 < wr.heap.size := World.block_lt_of_cell? _ _ p0
    obtain ⟨k1, hk1⟩ : ∃ k, k = l[j].kind := ⟨_, rfl⟩
    obtain ⟨m1, hm1⟩ : ∃ k, k = l[j].num := ⟨_, rfl⟩
    obtain ⟨k2, hk2⟩ : ∃ k, k = m[j].kind := ⟨_, rfl⟩
    obtain ⟨m2, hm2⟩ : ∃ k, k = m[j].num := ⟨_, rfl⟩
    rw [← hk1] at q0
    rw [← hm1] at q1
    rw [← hk1, ← hm1] at hxj
    rw [← hk2] at p0
    rw [← hm2] at p1
    rw [← hk2, ← hm2] at hyj
    have hcall := Lib.hid (fun (W : World) (hW : Step [] id id wr W) => hcH.out j hjl hjml _ _ W _ _ (hxj.low.onto hW) (hyj.low.onto hW))
    obtain ⟨C, hC⟩ : ∃ C, C = cmpV l[j] m[j] := ⟨_, rfl⟩
    rw [← hC] at hcall
    have hdrop := cmpLs_drop hjl hjml
    rw [← hC, ← hcjH.out] at hdrop
    have hdH := Lib.hid hdrop
    obtain ⟨W2, hW2⟩ : ∃ W2, W2 = (wr.alloc (.cells #[.int .i64 k1, .int .i64 m1, .string s, .slice ba bn bc, .slice fa fn fc, .slice la1 ln1 lc1] 35)).alloc (.cells #[.int .i64 k2, .int .i64 m2, .string s2, .slice ba2 bn2 bc2, .slice fa2 fn2 fc2, .slice la2 ln2 lc2] 35) := ⟨_, rfl⟩
    have hs2 := Lib.hid (show Step [] id id wr W2 by rw [hW2]; exact (Step.alloc _).tail (Step.alloc _))
    have hW2H := Lib.hid hW2
    clear hst hlr hmr hxj hyj hk1 hm1 hk2 hm2 hC hdrop hW2
    go_wp2_with fail
    rw [← hW2H.out]
    refine (hcall.out _ hs2.out).mono ?_
    rintro e w4 ⟨rfl, hs4⟩
    have hs4H := Lib.hid ((hstH.out.tail hs2.out).tail hs4)
    clear hs4
    by_cases hC0 : C = 0
    ·have hCb : (C != 0) = false := by rw [hC0]; rfl
     have hd2 := hdH.out
     rw [hC0, orI, if_neg (by simp)] at hd2
     have hd2H := Lib.hid hd2
     clear hd2
     go_wp2_with fail
     go_roundw
     case rel => exact ⟨j + 1, by go_num, by omega, by omega, hd2H.out, hs4H.out⟩
     case measure => simp [intOf]; omega
    ·have hCb : (C != 0) = true := by rw [bne_iff_ne]; exact hC0
     have hd2 := hdH.out
     rw [orI, if_pos hC0] at hd2
     have hd2H := Lib.hid hd2
     clear hd2
     go_wp2_with fail
     go_ret
     exact ⟨by rw [hd2H.out]; rfl, hs4H.out⟩
   ·have hjm1 : (n2 : Int) ≤ (j : Int) := by omega
    have hres := Lib.hid (hcjH.out.trans (cmpLs_left hjl (by rw [← hn2H.out]; omega)))
    clear hst hlr hxj
    go_wp2_with fail
    go_ret
    exact ⟨by rw [hres.out]; rfl, hstH.out.tail (Step.alloc _)⟩
  ·have hjn1 : ¬ (j : Int) < (n1 : Int) := by omega
   obtain rfl : j = n1 := by omega
   by_cases hlt : j < n2
   ·have hlt1 : (j : Int) < (n2 : Int) := by omega
    have hres := Lib.hid (hcjH.out.trans (cmpLs_right (by rw [← hn1H.out]; exact Nat.le_refl _) (by rw [← hn2H.out]; exact hlt)))
    clear hst
    go_wp2_with fail
    go_ret
    exact ⟨by rw [hres.out]; rfl, hstH.out⟩
   ·have hlt1 : ¬ (j : Int) < (n2 : Int) := by omega
    have hres := Lib.hid (hcjH.out.trans (cmpLs_end (by rw [← hn1H.out]; exact Nat.le_refl _) (by rw [← hn2H.out]; omega)))
    clear hst
    go_wp2_with fail
    go_ret
    exact ⟨by rw [hres.out]; rfl, hstH.out⟩
end Go.Proofs.YtembpajlllnncaaGreatDoor
namespace Go.Proofs.YtembpajlllnncaaGreatDoor
open Go.RowKit

theorem orL_three (a b c : Int) : orL [a, b, c] = orI a (orI b c) := by
 by_cases h : a ≠ 0
 ·rw [orL, if_pos h, orI, if_pos h]
 ·rw [orL, if_neg h, orI, if_neg h, orL_two]
/-- How two fields compare. -/
def cmpF (p q : Bs × Val) : Int := orI (sgnI (clsOf p.2.kind) (clsOf q.2.kind)) (orI (cmpB p.1 q.1) (cmpV p.2 q.2))
theorem cells7 {w : World} {V : Nat} {v0 v1 v2 v3 v4 v5 v6 : Value} {t : TypeId} (h : w.heap[V]? = some (.cells #[v0, v1, v2, v3, v4, v5, v6] t (0, 0))) :
  w.cell? ⟨V, 0, none⟩ = some v0 ∧ w.cell? ⟨V, 1, none⟩ = some v1 ∧ w.cell? ⟨V, 2, none⟩ = some v2 ∧ w.cell? ⟨V, 3, none⟩ = some v3 ∧ w.cell? ⟨V, 4, none⟩ = some v4 ∧ w.cell? ⟨V, 5, none⟩ = some v5 ∧ w.cell? ⟨V, 6, none⟩ = some v6 :=
 ⟨cell_blk h (i := 0) rfl, cell_blk h (i := 1) rfl, cell_blk h (i := 2) rfl, cell_blk h (i := 3) rfl, cell_blk h (i := 4) rfl, cell_blk h (i := 5) rfl, cell_blk h (i := 6) rfl⟩
set_option maxRecDepth 100000 in
set_option maxHeartbeats 4000000 in
theorem or_fields {P Q : Nat → Prop} {w : World} {nm nm2 : Bs} {y z : Val} {cs ds : List Value} (hy : VIs P w y cs) (hz : VIs Q w z ds) (hc : CmpH y z) :
  Calls Tryz.prog 84 #[.agg (.string (strOf nm) :: cs).toArray, .agg (.string (strOf nm2) :: ds).toArray] w fun e w' => e = .returned (.int .i64 (orI (sgnI (clsOf y.kind) (clsOf z.kind)) (orI (cmpB nm nm2) (cmpV y z)))) ∧ Step [] id id w w' := by
 rw [← orL_three]
 have hcA := fun (W : World) (hW : Step [] id id w W) => hc _ _ W _ _ (hy.low.onto hW) (hz.low.onto hW)
 obtain ⟨s1, ba, bn, bc, fa, fn, fc, la, ln, lc, hcs, -⟩ := hy.six
 obtain ⟨s2, ba2, bn2, bc2, fa2, fn2, fc2, la2, ln2, lc2, hds, -⟩ := hz.six
 have hst := cmp_str nm nm2
 obtain ⟨A, hA⟩ : ∃ A, A = strOf nm := ⟨_, rfl⟩
 obtain ⟨B, hB⟩ : ∃ B, B = strOf nm2 := ⟨_, rfl⟩
 obtain ⟨X2, hX2⟩ : ∃ X, X = cmpB nm nm2 := ⟨_, rfl⟩
 obtain ⟨X3, hX3⟩ : ∃ X, X = cmpV y z := ⟨_, rfl⟩
 rw [← hA, ← hB, ← hX2] at hst
 rw [← hX3] at hcA
 obtain ⟨k1, hk1⟩ : ∃ k, k = y.kind := ⟨_, rfl⟩
 obtain ⟨k2, hk2⟩ : ∃ k, k = z.kind := ⟨_, rfl⟩
 obtain ⟨n1, hn1⟩ : ∃ k, k = y.num := ⟨_, rfl⟩
 obtain ⟨n2, hn2⟩ : ∃ k, k = z.num := ⟨_, rfl⟩
 rw [← hk1, ← hn1] at hcs
 rw [← hk2, ← hn2] at hds
 rw [← hA, ← hB, ← hX2, ← hX3, ← hk1, ← hk2]
 subst hcs hds
 obtain ⟨c1, hc1⟩ : ∃ c, c = clsOf k1 := ⟨_, rfl⟩
 obtain ⟨c2, hc2⟩ : ∃ c, c = clsOf k2 := ⟨_, rfl⟩
 obtain ⟨X1, hX1⟩ : ∃ X, X = sgnI c1 c2 := ⟨_, rfl⟩
 rw [← hc1, ← hc2, ← hX1]
 have hcl1 := Lib.hid (fun W => or_class k1 W)
 have hcl2 := Lib.hid (fun W => or_class k2 W)
 have hci := Lib.hid (fun W => cmp_int c1 c2 W)
 rw [← hc1] at hcl1
 rw [← hc2] at hcl2
 rw [← hX1] at hci
 have hstH := Lib.hid hst
 have hcAH := Lib.hid hcA
 obtain ⟨W1, hW1⟩ : ∃ W1, W1 = (w.alloc (.cells #[.string A, .int .i64 k1, .int .i64 n1, .string s1, .slice ba bn bc, .slice fa fn fc, .slice la ln lc] 38)).alloc (.cells #[.string B, .int .i64 k2, .int .i64 n2, .string s2, .slice ba2 bn2 bc2, .slice fa2 fn2 fc2, .slice la2 ln2 lc2] 38) := ⟨_, rfl⟩
 have hs1 : Step [] id id w W1 := by rw [hW1]; exact (Step.alloc _).tail (Step.alloc _)
 have hV1 : W1.heap[w.heap.size]? = some (.cells #[.string A, .int .i64 k1, .int .i64 n1, .string s1, .slice ba bn bc, .slice fa fn fc, .slice la ln lc] 38 (0, 0)) := by rw [hW1]; exact alloc_old (heap_alloc_new w _)
 have hV2 : W1.heap[w.heap.size + 1]? = some (.cells #[.string B, .int .i64 k2, .int .i64 n2, .string s2, .slice ba2 bn2 bc2, .slice fa2 fn2 fc2, .slice la2 ln2 lc2] 38 (0, 0)) := by
  rw [hW1]
  have := heap_alloc_new (w.alloc (.cells #[.string A, .int .i64 k1, .int .i64 n1, .string s1, .slice ba bn bc, .slice fa fn fc, .slice la ln lc] 38)) (.cells #[.string B, .int .i64 k2, .int .i64 n2, .string s2, .slice ba2 bn2 bc2, .slice fa2 fn2 fc2, .slice la2 ln2 lc2] 38)
  rwa [show (w.alloc (.cells #[.string A, .int .i64 k1, .int .i64 n1, .string s1, .slice ba bn bc, .slice fa fn fc, .slice la ln lc] 38)).heap.size = w.heap.size + 1 by simp] at this
 obtain ⟨a0, a1, a2, a3, a4, a5, a6⟩ := cells7 hV1
 obtain ⟨b0, b1, b2, b3, b4, b5, b6⟩ := cells7 hV2
 have hall := Lib.hid (fun (W : World) (hs : Step [] id id W1 W) => And.intro (cells7 (hs.at hV1 (by simp))) (cells7 (hs.at hV2 (by simp))))
 have hs1H := Lib.hid hs1
 have hW1H := Lib.hid hW1
 clear hy hz hc hcA hst hA hB hX1 hX2 hX3 hk1 hk2 hn1 hn2 hc1 hc2 hs1 hV1 hV2 hW1
 go_enter Tryz.func84, Tryz.ntmps84
 go_wp2_with fail
 rw [← hW1H.out]
 refine wp_region_held_drew (S := fun w' => (w'.cell? ⟨w.heap.size, 0, none⟩ = some (.string A) ∧ w'.cell? ⟨w.heap.size, 1, none⟩ = some (.int .i64 k1) ∧ w'.cell? ⟨w.heap.size, 2, none⟩ = some (.int .i64 n1) ∧ w'.cell? ⟨w.heap.size, 3, none⟩ = some (.string s1) ∧ w'.cell? ⟨w.heap.size, 4, none⟩ = some (.slice ba bn bc) ∧ w'.cell? ⟨w.heap.size, 5, none⟩ = some (.slice fa fn fc) ∧ w'.cell? ⟨w.heap.size, 6, none⟩ = some (.slice la ln lc)) ∧ w'.cell? ⟨w.heap.size + 1, 0, none⟩ = some (.string B) ∧ w'.cell? ⟨w.heap.size + 1, 1, none⟩ = some (.int .i64 k2) ∧ w'.cell? ⟨w.heap.size + 1, 2, none⟩ = some (.int .i64 n2) ∧ w'.cell? ⟨w.heap.size + 1, 3, none⟩ = some (.string s2) ∧ w'.cell? ⟨w.heap.size + 1, 4, none⟩ = some (.slice ba2 bn2 bc2) ∧ w'.cell? ⟨w.heap.size + 1, 5, none⟩ = some (.slice fa2 fn2 fc2) ∧ w'.cell? ⟨w.heap.size + 1, 6, none⟩ = some (.slice la2 ln2 lc2)) (by kernel_rfl) ⟨⟨a0, a1, a2, a3, a4, a5, a6⟩, b0, b1, b2, b3, b4, b5, b6⟩ (fun hHeld => ?_)
 refine tkH 0 ?_ rfl (by kernel_rfl) (fun _ _ _ h => h) ?_ hHeld ?_
 rotate_left
 ·intro w' hSw; (try dsimp only at hSw); go_simp
  all_goals (with_reducible rfl)
 simp only [zP, zO, zA, zB, zC, zD, zE, zF]
 refine tkH 1 ?_ rfl (by kernel_rfl) (fun _ _ _ h => h) ?_ hHeld ?_
 rotate_left
 ·intro w' hSw; (try dsimp only at hSw); go_simp
  all_goals (with_reducible rfl)
 simp only [zP, zO, zA, zB, zC, zD, zE, zF]
 refine tkH 2 ?_ rfl (by kernel_rfl) (fun _ _ _ h => h) ?_ hHeld ?_
 rotate_left
 ·intro w' hSw; (try dsimp only at hSw); go_simp
  all_goals (with_reducible rfl)
 simp only [zP, zO, zA, zB, zC, zD, zE, zF]
 refine tkH 4 ?_ rfl (by kernel_rfl) (fun _ _ _ h => h) ?_ hHeld ?_
 rotate_left
 ·intro w' hSw; (try dsimp only at hSw); go_simp
  all_goals (with_reducible rfl)
 simp only [zP, zO, zA, zB, zC, zD, zE, zF]
 refine tkH 5 ?_ rfl (by kernel_rfl) (fun _ _ _ h => h) ?_ hHeld ?_
 rotate_left
 ·intro w' hSw; (try dsimp only at hSw); go_simp
  all_goals (with_reducible rfl)
 simp only [zP, zO, zA, zB, zC, zD, zE, zF]
 refine tkH 6 ?_ rfl (by kernel_rfl) (fun _ _ _ h => h) ?_ hHeld ?_
 rotate_left
 ·intro w' hSw; (try dsimp only at hSw); go_simp
  all_goals (with_reducible rfl)
 simp only [zP, zO, zA, zB, zC, zD, zE, zF]
 refine tkH 9 ?_ rfl (by kernel_rfl) (fun _ _ _ h => h) ?_ hHeld ?_
 rotate_left
 ·intro w' hSw; (try dsimp only at hSw); go_simp
  all_goals (with_reducible rfl)
 simp only [zP, zO, zA, zB, zC, zD, zE, zF]
 refine tkH 10 ?_ rfl (by kernel_rfl) (fun _ _ _ h => h) ?_ hHeld ?_
 rotate_left
 ·intro w' hSw; (try dsimp only at hSw); go_simp
  all_goals (with_reducible rfl)
 simp only [zP, zO, zA, zB, zC, zD, zE, zF]
 refine tkH 11 ?_ rfl (by kernel_rfl) (fun _ _ _ h => h) ?_ hHeld ?_
 rotate_left
 ·intro w' hSw; (try dsimp only at hSw); go_simp
  all_goals (with_reducible rfl)
 simp only [zP, zO, zA, zB, zC, zD, zE, zF]
 refine tkH 12 ?_ rfl (by kernel_rfl) (fun _ _ _ h => h) ?_ hHeld ?_
 rotate_left
 ·intro w' hSw; (try dsimp only at hSw); go_simp
  all_goals (with_reducible rfl)
 simp only [zP, zO, zA, zB, zC, zD, zE, zF]
 refine tkH 14 ?_ rfl (by kernel_rfl) (fun _ _ _ h => h) ?_ hHeld ?_
 rotate_left
 ·intro w' hSw; (try dsimp only at hSw); go_simp
  all_goals (with_reducible rfl)
 simp only [zP, zO, zA, zB, zC, zD, zE, zF]
 refine tkH 15 ?_ rfl (by kernel_rfl) (fun _ _ _ h => h) ?_ hHeld ?_
 rotate_left
 ·intro w' hSw; (try dsimp only at hSw); go_simp
  all_goals (with_reducible rfl)
 simp only [zP, zO, zA, zB, zC, zD, zE, zF]
 refine tkH 16 ?_ rfl (by kernel_rfl) (fun _ _ _ h => h) ?_ hHeld ?_
 rotate_left
 ·intro w' hSw; (try dsimp only at hSw); go_simp
  all_goals (with_reducible rfl)
 simp only [zP, zO, zA, zB, zC, zD, zE, zF]
 refine tkH 17 ?_ rfl (by kernel_rfl) (fun _ _ _ h => h) ?_ hHeld ?_
 rotate_left
 ·intro w' hSw; (try dsimp only at hSw); go_simp
  all_goals (with_reducible rfl)
 simp only [zP, zO, zA, zB, zC, zD, zE, zF]
 refine wpAnyH_ready (rs := [3]) (by kernel_rfl) (by simp) ?_
 refine AllReadyH.cons (o := _) rfl (fun K hK => ?_) AllReadyH.nil
 go_simp
 refine (hcl1.out _).mono ?_
 rintro e w' ⟨rfl, rfl⟩
 go_wp2_with fail
 refine hK.out _ _ ?_ (fun hHeld => ?_)
 ·exact hall.out _ Step.drew
 clear hK K
 refine wpAnyH_ready (rs := [7]) (by kernel_rfl) (by simp) ?_
 refine AllReadyH.cons (o := _) rfl (fun K hK => ?_) AllReadyH.nil
 go_simp
 refine (hcl2.out _).mono ?_
 rintro e w' ⟨rfl, rfl⟩
 go_wp2_with fail
 refine hK.out _ _ ?_ (fun hHeld => ?_)
 ·exact hall.out _ Step.drew
 clear hK K
 refine wpAnyH_ready (rs := [8]) (by kernel_rfl) (by simp) ?_
 refine AllReadyH.cons (o := _) rfl (fun K hK => ?_) AllReadyH.nil
 go_simp
 refine (hci.out _).mono ?_
 rintro e w' ⟨rfl, rfl⟩
 go_wp2_with fail
 refine hK.out _ _ ?_ (fun hHeld => ?_)
 ·exact hall.out _ Step.drew
 clear hK K
 refine wpAnyH_ready (rs := [13]) (by kernel_rfl) (by simp) ?_
 refine AllReadyH.cons (o := _) rfl (fun K hK => ?_) AllReadyH.nil
 go_simp
 refine (hstH.out _).mono ?_
 rintro e w' ⟨rfl, rfl⟩
 go_wp2_with fail
 refine hK.out _ _ ?_ (fun hHeld => ?_)
 ·exact hall.out _ Step.drew
 clear hK K
 refine wpAnyH_ready (rs := [18]) (by kernel_rfl) (by simp) ?_
 refine AllReadyH.cons (o := _) rfl (fun K hK => ?_) AllReadyH.nil
 go_simp
 refine (hcAH.out _ (hs1H.out.tail Step.drew)).mono ?_
 rintro e w5 ⟨rfl, hs5⟩
 have hs15 := Lib.hid (Step.drew.tail hs5)
 clear hs5
 go_wp2_with fail
 refine hK.out _ _ ?_ (fun hHeld => ?_)
 ·exact hall.out _ hs15.out
 clear hK K
 refine wpAnyH_ready (rs := [19]) (by kernel_rfl) (by simp) ?_
 refine AllReadyH.cons (o := _) rfl (fun K hK => ?_) AllReadyH.nil
 go_simp
 obtain ⟨W6, hW6⟩ : ∃ W6, W6 = w5.alloc (.cells #[.int .i64 X1, .int .i64 X2, .int .i64 X3] 3) := ⟨_, rfl⟩
 rw [← hW6]
 have hs16 : Step [] id id W1 W6 := by rw [hW6]; exact hs15.out.tail (Step.alloc _)
 have hD : W6.heap[w5.heap.size]? = some (.cells #[.int .i64 X1, .int .i64 X2, .int .i64 X3] 3 (0, 0)) := by rw [hW6]; exact heap_alloc_new w5 _
 have hor := Lib.hid (cmp_or (w := W6) (B := w5.heap.size) (n := 3) (l := [X1, X2, X3]) rfl (by omega) (fun j hj => by
  match j, hj with
  | 0, _ => exact cell_blk hD rfl
  | 1, _ => exact cell_blk hD rfl
  | 2, _ => exact cell_blk hD rfl))
 have hs16H := Lib.hid hs16
 clear hW6 hs16 hD
 refine hK.out _ _ ?_ (fun hHeld => ?_)
 ·exact hall.out _ hs16H.out
 clear hK K
 refine wpAnyH_ready (rs := [20]) (by kernel_rfl) (by simp) ?_
 refine AllReadyH.cons (o := _) rfl (fun K hK => ?_) AllReadyH.nil
 go_simp
 refine hor.out.mono ?_
 rintro e w' ⟨rfl, rfl⟩
 go_wp2_with fail
 refine hK.out _ _ ?_ (fun hHeld => ?_)
 ·exact hall.out _ hs16H.out
 clear hK K
 refine tkH 21 ?_ rfl (by kernel_rfl) (fun _ _ _ h => h) ?_ hHeld ?_
 rotate_left
 ·intro w' hSw; (try dsimp only at hSw); go_simp
  all_goals (with_reducible rfl)
 simp only [zP, zO, zA, zB, zC, zD, zE, zF]
 refine wpAnyH_done (by kernel_rfl) ?_ _
 go_wp2_with fail
 go_ret
 exact ⟨rfl, hs1H.out.tail hs16H.out⟩
end Go.Proofs.YtembpajlllnncaaGreatDoor
namespace Go.Proofs.YtembpajlllnncaaGreatDoor
open Go.RowKit

/-- A field in a slice, cell by cell. -/
theorem felem_at {P : Nat → Prop} {w : World} {l : List (Bs × Val)} {b o j : Nat} (h : FIs P w l (some ⟨b, o, none⟩) 0) (hj : j < l.length) : ∃ s ba bn bc fa fn fc la ln lc,
  VIs P w l[j].2 [.int .i64 l[j].2.kind, .int .i64 l[j].2.num, .string s, .slice ba bn bc, .slice fa fn fc, .slice la ln lc] ∧ P b ∧
  w.cell? ⟨b, o + j * 7, none⟩ = some (.string (strOf l[j].1)) ∧ w.cell? ⟨b, o + j * 7 + 1, none⟩ = some (.int .i64 l[j].2.kind) ∧ w.cell? ⟨b, o + j * 7 + 2, none⟩ = some (.int .i64 l[j].2.num) ∧ w.cell? ⟨b, o + j * 7 + 3, none⟩ = some (.string s) ∧ w.cell? ⟨b, o + j * 7 + 4, none⟩ = some (.slice ba bn bc) ∧ w.cell? ⟨b, o + j * 7 + 5, none⟩ = some (.slice fa fn fc) ∧ w.cell? ⟨b, o + j * 7 + 6, none⟩ = some (.slice la ln lc) := by
 obtain ⟨b', o', cs, e, hP, -, hr, hx⟩ := h.get hj
 injection e with e
 injection e with e1 e2
 subst e1 e2
 obtain ⟨s, ba, bn, bc, fa, fn, fc, la, ln, lc, hcs, -⟩ := hx.six
 rw [hcs] at hr hx
 rw [Nat.zero_add] at hr
 exact ⟨s, ba, bn, bc, fa, fn, fc, la, ln, lc, hx, hP, by have := hr 0 _ rfl; simpa using this, hr 1 _ rfl, hr 2 _ rfl, hr 3 _ rfl, hr 4 _ rfl, hr 5 _ rfl, hr 6 _ rfl⟩
theorem cmpFs_drop {l m : List (Bs × Val)} {j : Nat} (hl : j < l.length) (hm : j < m.length) : cmpFs (l.drop j) (m.drop j) = orI (cmpF l[j] m[j]) (cmpFs (l.drop (j + 1)) (m.drop (j + 1))) := by
 rw [List.drop_eq_getElem_cons hl, List.drop_eq_getElem_cons hm]
 generalize l[j] = p
 generalize m[j] = q
 cases p; cases q
 rw [cmpFs]; rfl
theorem cmpFs_left {l m : List (Bs × Val)} {j : Nat} (hl : j < l.length) (hm : m.length ≤ j) : cmpFs (l.drop j) (m.drop j) = 1 := by
 rw [List.drop_eq_getElem_cons hl, List.drop_of_length_le hm]
 generalize l[j] = p
 cases p
 rw [cmpFs]
theorem cmpFs_right {l m : List (Bs × Val)} {j : Nat} (hl : l.length ≤ j) (hm : j < m.length) : cmpFs (l.drop j) (m.drop j) = -1 := by
 rw [List.drop_of_length_le hl, List.drop_eq_getElem_cons hm]
 generalize m[j] = q
 cases q
 rw [cmpFs]
theorem cmpFs_end {l m : List (Bs × Val)} {j : Nat} (hl : l.length ≤ j) (hm : m.length ≤ j) : cmpFs (l.drop j) (m.drop j) = 0 := by
 rw [List.drop_of_length_le hl, List.drop_of_length_le hm, cmpFs]
set_option maxRecDepth 100000 in
set_option maxHeartbeats 4000000 in
theorem cmpf_flds {P Q : Nat → Prop} {w : World} {l m : List (Bs × Val)} {la lb : Option Addr} {n1 c1 n2 c2 : Nat} (hl : FIs P w l la 0) (hm : FIs Q w m lb 0) (hn1 : n1 = l.length) (hn2 : n2 = m.length) (hb1 : n1 ≤ 140737488351232) (hb2 : n2 ≤ 140737488351232)
  (hc : ∀ (j : Nat) (h1 : j < l.length) (h2 : j < m.length), CmpH l[j].2 m[j].2) :
  Calls Tryz.prog 83 #[.slice la n1 c1, .slice lb n2 c2, .func (.func 84) #[] #[]] w fun e w' => e = .returned (.int .i64 (cmpFs l m)) ∧ Step [] id id w w' := by
 have hcf : ∀ (args : Array Value) (w : World), (callFunc 84 args).run Tryz.prog w = .ok (.enter 84 args) w := fun _ _ => by kernel_rfl
 have hlk := Lib.hid (fun (W : World) (hW : Step [] id id w W) => FIs.keep (P2 := fun _ => True) (w' := W) (fun _ _ => trivial) (fun k hk hl => (hW.keep k hl (by simp)).2) _ _ _ hl)
 have hmk := Lib.hid (fun (W : World) (hW : Step [] id id w W) => FIs.keep (P2 := fun _ => True) (w' := W) (fun _ _ => trivial) (fun k hk hl => (hW.keep k hl (by simp)).2) _ _ _ hm)
 have hn1H := Lib.hid hn1
 have hn2H := Lib.hid hn2
 have hcH := Lib.hid hc
 obtain ⟨C0, hC0⟩ : ∃ C, C = cmpFs l m := ⟨_, rfl⟩
 rw [← hC0]
 have hC0H := Lib.hid (show C0 = cmpFs (l.drop 0) (m.drop 0) from hC0)
 clear hl hm hn1 hn2 hc hC0
 go_enter Tryz.func83, Tryz.ntmps83
 go_wp2_with fail
 go_loopw [13] (fun i wr => ∃ j : Nat, i = .int .i64 j ∧ j ≤ n1 ∧ j ≤ n2 ∧ C0 = cmpFs (l.drop j) (m.drop j) ∧ Step [] id id w wr) (fun i _ => n1 - (intOf i).toNat)
 case atStart => exact ⟨0, rfl, Nat.zero_le _, Nat.zero_le _, hC0H.out, Step.refl _ _ _⟩
 case round =>
  obtain ⟨j, rfl, hj1, hj2, hcj, hst⟩ := hrel
  have hcjH := Lib.hid hcj
  have hstH := Lib.hid hst
  clear hcj
  by_cases hjn : j < n1
  ·have hjn1 : (j : Int) < (n1 : Int) := by omega
   have hjl : j < l.length := by rw [← hn1H.out]; exact hjn
   have hlr := hlk.out wr hst
   obtain ⟨b1, o1, cs1, hla, -, -, -, -⟩ := hlr.get hjl
   subst hla
   obtain ⟨s, ba, bn, bc, fa, fn, fc, la1, ln1, lc1, hxj, -, qn, q0, q1, q2, q3, q4, q5⟩ := felem_at hlr hjl
   have hgr : b1 < wr.heap.size := World.block_lt_of_cell? _ _ qn
   have hwrap : IntKind.i64.wrap ((j : Int) + 1) = (j : Int) + 1 := IntWalk.i64_in _ (by omega)
   by_cases hjm : j < n2
   ·have hjm1 : ¬ (n2 : Int) ≤ (j : Int) := by omega
    have hjm2 : (j : Int) < (n2 : Int) := by omega
    have hjml : j < m.length := by rw [← hn2H.out]; exact hjm
    have hmr := hmk.out wr hst
    obtain ⟨b2, o2, cs2, hlb, -, -, -, -⟩ := hmr.get hjml
    subst hlb
    obtain ⟨s2, ba2, bn2, bc2, fa2, fn2, fc2, la2, ln2, lc2, hyj, -, pn, p0, p1, p2, p3, p4, p5⟩ := felem_at hmr hjml
    have hgr2 : b2 < wr.heap.size := World.block_lt_of_cell? _ _ pn
    obtain ⟨k1, hk1⟩ : ∃ k, k = l[j].2.kind := ⟨_, rfl⟩
    obtain ⟨m1, hm1⟩ : ∃ k, k = l[j].2.num := ⟨_, rfl⟩
    obtain ⟨k2, hk2⟩ : ∃ k, k = m[j].2.kind := ⟨_, rfl⟩
    obtain ⟨m2, hm2⟩ : ∃ k, k = m[j].2.num := ⟨_, rfl⟩
    rw [← hk1] at q0
    rw [← hm1] at q1
    rw [← hk1, ← hm1] at hxj
    rw [← hk2] at p0
    rw [← hm2] at p1
    rw [← hk2, ← hm2] at hyj
    have hcall := fun (W : World) (hW : Step [] id id wr W) => or_fields (nm := l[j].1) (nm2 := m[j].1) (hxj.low.onto hW) (hyj.low.onto hW) (hcH.out j hjl hjml)
    obtain ⟨C, hC⟩ : ∃ C, C = cmpF l[j] m[j] := ⟨_, rfl⟩
    have hCe : orI (sgnI (clsOf l[j].2.kind) (clsOf m[j].2.kind)) (orI (cmpB l[j].1 m[j].1) (cmpV l[j].2 m[j].2)) = C := by rw [hC]; rfl
    rw [hCe] at hcall
    obtain ⟨A, hA⟩ : ∃ A, A = strOf l[j].1 := ⟨_, rfl⟩
    obtain ⟨B, hB⟩ : ∃ B, B = strOf m[j].1 := ⟨_, rfl⟩
    rw [← hA] at qn
    rw [← hB] at pn
    rw [← hA, ← hB] at hcall
    have hcall := Lib.hid hcall
    clear hA hB hCe
    have hdrop := cmpFs_drop hjl hjml
    rw [← hC, ← hcjH.out] at hdrop
    have hdH := Lib.hid hdrop
    obtain ⟨W2, hW2⟩ : ∃ W2, W2 = (wr.alloc (.cells #[.string A, .int .i64 k1, .int .i64 m1, .string s, .slice ba bn bc, .slice fa fn fc, .slice la1 ln1 lc1] 38)).alloc (.cells #[.string B, .int .i64 k2, .int .i64 m2, .string s2, .slice ba2 bn2 bc2, .slice fa2 fn2 fc2, .slice la2 ln2 lc2] 38) := ⟨_, rfl⟩
    have hs2 := Lib.hid (show Step [] id id wr W2 by rw [hW2]; exact (Step.alloc _).tail (Step.alloc _))
    have hW2H := Lib.hid hW2
    clear hst hlr hmr hxj hyj hk1 hm1 hk2 hm2 hC hdrop hW2
    go_wp2_with fail
    rw [← hW2H.out]
    refine (hcall.out _ hs2.out).mono ?_
    rintro e w4 ⟨rfl, hs4⟩
    have hs4H := Lib.hid ((hstH.out.tail hs2.out).tail hs4)
    clear hs4
    by_cases hC0 : C = 0
    ·have hCb : (C != 0) = false := by rw [hC0]; rfl
     have hd2 := hdH.out
     rw [hC0, orI, if_neg (by simp)] at hd2
     have hd2H := Lib.hid hd2
     clear hd2
     go_wp2_with fail
     go_roundw
     case rel => exact ⟨j + 1, by go_num, by omega, by omega, hd2H.out, hs4H.out⟩
     case measure => simp [intOf]; omega
    ·have hCb : (C != 0) = true := by rw [bne_iff_ne]; exact hC0
     have hd2 := hdH.out
     rw [orI, if_pos hC0] at hd2
     have hd2H := Lib.hid hd2
     clear hd2
     go_wp2_with fail
     go_ret
     exact ⟨by rw [hd2H.out]; rfl, hs4H.out⟩
   ·have hjm1 : (n2 : Int) ≤ (j : Int) := by omega
    have hres := Lib.hid (hcjH.out.trans (cmpFs_left hjl (by rw [← hn2H.out]; omega)))
    clear hst hlr hxj
    go_wp2_with fail
    go_ret
    exact ⟨by rw [hres.out]; rfl, hstH.out.tail (Step.alloc _)⟩
  ·have hjn1 : ¬ (j : Int) < (n1 : Int) := by omega
   obtain rfl : j = n1 := by omega
   by_cases hlt : j < n2
   ·have hlt1 : (j : Int) < (n2 : Int) := by omega
    have hres := Lib.hid (hcjH.out.trans (cmpFs_right (by rw [← hn1H.out]; exact Nat.le_refl _) (by rw [← hn2H.out]; exact hlt)))
    clear hst
    go_wp2_with fail
    go_ret
    exact ⟨by rw [hres.out]; rfl, hstH.out⟩
   ·have hlt1 : ¬ (j : Int) < (n2 : Int) := by omega
    have hres := Lib.hid (hcjH.out.trans (cmpFs_end (by rw [← hn1H.out]; exact Nat.le_refl _) (by rw [← hn2H.out]; omega)))
    clear hst
    go_wp2_with fail
    go_ret
    exact ⟨by rw [hres.out]; rfl, hstH.out⟩
end Go.Proofs.YtembpajlllnncaaGreatDoor
namespace Go.Proofs.YtembpajlllnncaaGreatDoor
open Go.RowKit

set_option maxRecDepth 100000 in
set_option maxHeartbeats 4000000 in
/-- Documents. -/
theorem or_doc {P Q : Nat → Prop} {w : World} {y z : Val} {cs ds : List Value} (hy : VIs P w y cs) (hz : VIs Q w z ds) (hc : ∀ (j : Nat) (h1 : j < y.f.length) (h2 : j < z.f.length), CmpH y.f[j].2 z.f[j].2) :
  Calls Tryz.prog 82 #[.agg cs.toArray, .agg ds.toArray] w fun e w' => e = .returned (.int .i64 (cmpFs y.f z.f)) ∧ Step [] id id w w' := by
 obtain ⟨bv, fa, fc, la, lc, hcs, hb, hfn, -, hsz, hff, hll⟩ := hy.cells
 obtain ⟨ba, bc, rfl⟩ := hb.shape
 obtain ⟨bv2, fa2, fc2, la2, lc2, hds, hb2, hfn2, -, hsz2, hff2, hll2⟩ := hz.cells
 obtain ⟨ba2, bc2, rfl⟩ := hb2.shape
 obtain ⟨n1, hn1⟩ : ∃ n, n = y.f.length := ⟨_, rfl⟩
 obtain ⟨n2, hn2⟩ : ∃ n, n = z.f.length := ⟨_, rfl⟩
 rw [← hn1] at hcs
 rw [← hn2] at hds
 have hstA := Lib.hid (fun (W : World) (hW : Step [] id id w W) => cmpf_flds (w := W) (c1 := fc) (c2 := fc2) (FIs.keep (P2 := fun _ => True) (w' := W) (fun _ _ => trivial) (fun k hk hl => (hW.keep k hl (by simp)).2) _ _ _ hff) (FIs.keep (P2 := fun _ => True) (w' := W) (fun _ _ => trivial) (fun k hk hl => (hW.keep k hl (by simp)).2) _ _ _ hff2) hn1 hn2 (by omega) (by omega) hc)
 obtain ⟨C, hC⟩ : ∃ C, C = cmpFs y.f z.f := ⟨_, rfl⟩
 rw [← hC] at hstA ⊢
 subst hcs hds
 clear hy hz hb hb2 hff hll hff2 hll2 hfn hfn2 hsz hsz2 hC hn1 hn2 hc
 go_enter Tryz.func82, Tryz.ntmps82
 go_wp2_with fail
 refine (hstA.out _ ((Step.alloc _).tail (Step.alloc _))).mono ?_
 rintro e w4 ⟨rfl, hs4⟩
 have hs4H := Lib.hid (((Step.alloc _).tail (Step.alloc _)).tail hs4)
 clear hs4
 go_wp2_with fail
 go_ret
 exact ⟨rfl, hs4H.out⟩
set_option maxRecDepth 100000 in
set_option maxHeartbeats 4000000 in
/-- Lists. -/
theorem or_list {P Q : Nat → Prop} {w : World} {y z : Val} {cs ds : List Value} (hy : VIs P w y cs) (hz : VIs Q w z ds) (hc : ∀ (j : Nat) (h1 : j < y.l.length) (h2 : j < z.l.length), CmpH y.l[j] z.l[j]) :
  Calls Tryz.prog 85 #[.agg cs.toArray, .agg ds.toArray] w fun e w' => e = .returned (.int .i64 (cmpLs y.l z.l)) ∧ Step [] id id w w' := by
 obtain ⟨bv, fa, fc, la, lc, hcs, hb, hfn, -, hsz, hff, hll⟩ := hy.cells
 obtain ⟨ba, bc, rfl⟩ := hb.shape
 obtain ⟨bv2, fa2, fc2, la2, lc2, hds, hb2, hfn2, -, hsz2, hff2, hll2⟩ := hz.cells
 obtain ⟨ba2, bc2, rfl⟩ := hb2.shape
 obtain ⟨n1, hn1⟩ : ∃ n, n = y.l.length := ⟨_, rfl⟩
 obtain ⟨n2, hn2⟩ : ∃ n, n = z.l.length := ⟨_, rfl⟩
 rw [← hn1] at hcs
 rw [← hn2] at hds
 have hstA := Lib.hid (fun (W : World) (hW : Step [] id id w W) => cmpf_vals (w := W) (c1 := lc) (c2 := lc2) (LIs.keep (P2 := fun _ => True) (w' := W) (fun _ _ => trivial) (fun k hk hl => (hW.keep k hl (by simp)).2) _ _ _ hll) (LIs.keep (P2 := fun _ => True) (w' := W) (fun _ _ => trivial) (fun k hk hl => (hW.keep k hl (by simp)).2) _ _ _ hll2) hn1 hn2 (by omega) (by omega) hc)
 obtain ⟨C, hC⟩ : ∃ C, C = cmpLs y.l z.l := ⟨_, rfl⟩
 rw [← hC] at hstA ⊢
 subst hcs hds
 clear hy hz hb hb2 hff hll hff2 hll2 hfn hfn2 hsz hsz2 hC hn1 hn2 hc
 go_enter Tryz.func85, Tryz.ntmps85
 go_wp2_with fail
 refine (hstA.out _ ((Step.alloc _).tail (Step.alloc _))).mono ?_
 rintro e w4 ⟨rfl, hs4⟩
 have hs4H := Lib.hid (((Step.alloc _).tail (Step.alloc _)).tail hs4)
 clear hs4
 go_wp2_with fail
 go_ret
 exact ⟨rfl, hs4H.out⟩
/-- The functions of kinds. -/
abbrev wayWAYW2F : FuncId := 80
abbrev wayWAYW3F : FuncId := 82
abbrev wayWAYW4F : FuncId := 85
abbrev wayWAYW5F : FuncId := 87
abbrev wayWAYW6F : FuncId := 90
/-- Of one rank, of a kind that has parts: it is that kind. -/
theorem cls_kind {a b : Int} (h : clsOf a = clsOf b) (ha : 5 ≤ a ∧ a ≤ 9) : b = a := by
 unfold clsOf at h
 rw [if_neg (by omega), if_neg (by omega), if_pos (by omega)] at h
 split at h
 ·omega
 ·split at h
  ·omega
  ·split at h <;> omega
theorem cmpV_same {y z : Val} (hk : z.kind = y.kind) : cmpV y z = (if y.kind = 3 ∨ y.kind = 4 ∨ y.kind = 10 ∨ y.kind = 11 then sgnI y.num z.num else if y.kind = 5 then cmpB y.s z.s else if y.kind = 6 then cmpFs y.f z.f else if y.kind = 7 then cmpLs y.l z.l
    else if y.kind = 8 then orI (sgnI y.b.length z.b.length) (cmpB y.b z.b) else if y.kind = 9 then cmpB y.b z.b else 0) := by
 cases y with
 | mk k n s b f l =>
  cases z with
  | mk k2 n2 s2 b2 f2 l2 =>
   simp only [Val.kind] at hk
   subst hk
   rw [cmpV]
   simp only [Val.kind, Val.num, Val.s, Val.b, Val.f, Val.l, sgnI_self]
   rfl
theorem cmpH_all : ∀ (N : Nat) (y z : Val), SizeOf.sizeOf y < N → CmpH y z
 | 0, _, _, h => absurd h (Nat.not_lt_zero _)
 | N + 1, y, z, hN => by
  by_cases hcls : clsOf y.kind = clsOf z.kind
  rotate_left
  ·exact cmpH_flat (.inl hcls)
  by_cases hp : 5 ≤ y.kind ∧ y.kind ≤ 9
  rotate_left
  ·exact cmpH_flat (.inr hp)
  have hk := cls_kind hcls hp
  intro Q Q' W cs ds hy hz
  rw [cmpV_same hk, if_neg (by omega)]
  have hy' := hy
  have hz' := hz
  obtain ⟨s0, ba, bn, bc, fa, fn, fc, la, ln, lc, hcs, -⟩ := hy.six
  obtain ⟨s1, ba1, bn1, bc1, fa1, fn1, fc1, la1, ln1, lc1, hds, -⟩ := hz.six
  have hsub : ∀ (v : Val), SizeOf.sizeOf v < SizeOf.sizeOf y → ∀ u, CmpH v u := fun v hv u => cmpH_all N v u (by omega)
  by_cases h5 : y.kind = 5
  ·rw [if_pos h5, hcs, hds]
   refine or_same (F := wayWAYW2F) (by rw [hk]) (by rw [h5]; rfl) (fun _ _ => by kernel_rfl) (fun W' hs => ?_)
   rw [← hcs, ← hds]
   exact or_text (hy'.low.onto hs) (hz'.low.onto hs)
  rw [if_neg h5]
  by_cases h6 : y.kind = 6
  ·rw [if_pos h6, hcs, hds]
   refine or_same (F := wayWAYW3F) (by rw [hk]) (by rw [h6]; rfl) (fun _ _ => by kernel_rfl) (fun W' hs => ?_)
   rw [← hcs, ← hds]
   exact or_doc (hy'.low.onto hs) (hz'.low.onto hs) (fun j h1 h2 => hsub _ (by cases y; exact f_size h1) _)
  rw [if_neg h6]
  by_cases h7 : y.kind = 7
  ·rw [if_pos h7, hcs, hds]
   refine or_same (F := wayWAYW4F) (by rw [hk]) (by rw [h7]; rfl) (fun _ _ => by kernel_rfl) (fun W' hs => ?_)
   rw [← hcs, ← hds]
   exact or_list (hy'.low.onto hs) (hz'.low.onto hs) (fun j h1 h2 => hsub _ (by cases y; exact l_size h1) _)
  rw [if_neg h7]
  by_cases h8 : y.kind = 8
  ·rw [if_pos h8, hcs, hds]
   refine or_same (F := wayWAYW5F) (by rw [hk]) (by rw [h8]; rfl) (fun _ _ => by kernel_rfl) (fun W' hs => ?_)
   rw [← hcs, ← hds]
   exact or_bytes (hy'.low.onto hs) (hz'.low.onto hs)
  rw [if_neg h8]
  have h9 : y.kind = 9 := by omega
  rw [if_pos h9, hcs, hds]
  refine or_same (F := wayWAYW6F) (by rw [hk]) (by rw [h9]; rfl) (fun _ _ => by kernel_rfl) (fun W' hs => ?_)
  rw [← hcs, ← hds]
  exact or_id (hy'.low.onto hs) (hz'.low.onto hs)
/-- order.Compare orders any two values. -/
theorem or_compare (y z : Val) : CmpH y z := cmpH_all (SizeOf.sizeOf y + 1) y z (Nat.lt_succ_self _)
end Go.Proofs.YtembpajlllnncaaGreatDoor
