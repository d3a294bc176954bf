/- Accumulators: how bytes compare. Accumulators: how values that are bytes compare. Accumulators: how texts, ids compare. -/
import Derived.Test.YtembpajlllnncaaGreatDoorAcJ
import Derived.Lib.BytesEntry
import Derived.Lib.Bytealg
set_option linter.unusedVariables false
set_option linter.unusedSimpArgs false
namespace Go.Proofs.YtembpajlllnncaaGreatDoor
open Go.RowKit

theorem cmpB_eq : ∀ a b : Bs, cmpB a b = Lib.compareBytes a b
 | [], [] => rfl
 | [], _ :: _ => rfl
 | _ :: _, [] => rfl
 | a :: r, b :: s => by rw [cmpB, Lib.compareBytes, cmpB_eq r s]
theorem run_bytesOf {P : Nat → Prop} {w : World} {v : Value} {l : Bs} (h : BIn P w v l) : (Extern.Bytes.bytesOf v).run Tryz.prog w = .ok ⟨l.toArray⟩ w := by
 rcases h with ⟨a, c, rfl, rfl, _⟩ | ⟨b, o, c, rfl, _, _, h⟩
 ·cases a with
  | none => rfl
  | some a => simp [Extern.Bytes.bytesOf, Extern.Bytes.loadBytes]; rfl
 ·have hl := Lib.run_loadBytesX (P := Tryz.prog) w (nums l) ⟨b, o, none⟩ .empty (fun j x hj => by
   have hjl : j < l.length := by have := (List.getElem?_eq_some_iff.1 hj).1; simpa using this
   rw [addr_add, h j hjl]
   simp only [nums, List.getElem?_map, List.getElem?_eq_getElem hjl, Option.map_some, Option.some.injEq] at hj
   rw [hj])
  rw [nums_length, bytesOf_nums] at hl
  simp only [Extern.Bytes.bytesOf]
  rw [hl]
  congr 1
  apply ByteArray.ext
  simp
theorem run_compare {P Q : Nat → Prop} {w : World} {v u : Value} {a b : Bs} (ha : BIn P w v a) (hb : BIn Q w u b) : (Extern.BytealgCompare.compare #[v, u]).run Tryz.prog w = .ok (.int .i64 (cmpB a b)) w := by
 change Sem.run _ (do pure (goInt (Extern.BytealgCompare.cmp (← Extern.Bytes.bytesOf v) (← Extern.Bytes.bytesOf u)))) w = _
 simp only [Sem.run_bind, run_bytesOf ha, run_bytesOf hb, Result.andThen, Sem.run_pure]
 rw [Lib.cmp_eq, cmpB_eq]
 simp [goInt]
set_option maxRecDepth 100000 in
theorem bytes_cmp {P Q : Nat → Prop} {w : World} {v u : Value} {a b : Bs} (ha : BIn P w v a) (hb : BIn Q w u b) : Calls Tryz.prog 89 #[v, u] w fun e w' => e = .returned (.int .i64 (cmpB a b)) ∧ w = w' := by
 have hcf : (callFunc 104 #[v, u]).run Tryz.prog w = .ok (.value (.int .i64 (cmpB a b))) w := by
  rw [run_callFunc_extern Tryz.func104 (by kernel_rfl) (by kernel_rfl) (by kernel_rfl) (e := Extern.BytealgCompare.compare) (by kernel_rfl), run_compare ha hb]
  rfl
 obtain ⟨C, hC⟩ : ∃ C, C = cmpB a b := ⟨_, rfl⟩
 rw [← hC] at hcf ⊢
 clear ha hb hC
 go_enter Tryz.func89, Tryz.ntmps89
 go_wp2_with fail
 go_ret
 exact ⟨rfl, rfl⟩
/-- The first that is not 0. -/
def orL : List Int → Int
 | [] => 0
 | a :: r => if a ≠ 0 then a else orL r
theorem orL_two (a b : Int) : orL [a, b] = orI a b := by
 unfold orI
 simp only [orL]
 by_cases h : a ≠ 0
 ·rw [if_pos h, if_pos h]
 ·rw [if_neg h, if_neg h]
  by_cases hb : b = 0
  ·simp [hb]
  ·simp [hb]
theorem orL_zero : ∀ (l : List Int), (∀ (q : Nat) (hq : q < l.length), l[q] = 0) → orL l = 0
 | [], _ => rfl
 | a :: r, h => by
  have h0 : a = 0 := h 0 (by simp)
  rw [orL, if_neg (by simp [h0])]
  exact orL_zero r (fun q hq => h (q + 1) (by simpa using hq))
theorem orL_at : ∀ (l : List Int) (j : Nat) (hj : j < l.length), (∀ (q : Nat) (hq : q < l.length), q < j → l[q] = 0) → l[j] ≠ 0 → orL l = l[j]
 | a :: r, 0, _, _, h => by rw [orL]; exact if_pos h
 | a :: r, j + 1, hj, hz, h => by
  have h0 : a = 0 := hz 0 (by simp) (by omega)
  rw [orL, if_neg (by simp [h0])]
  exact orL_at r j (by simpa using hj) (fun q hq hqj => hz (q + 1) (by simpa using hq) (by omega)) h
set_option maxRecDepth 100000 in
set_option maxHeartbeats 2000000 in
theorem cmp_or {w : World} {B n : Nat} {l : List Int} (hn : n = l.length) (hl : n ≤ 100) (hB : ∀ (j : Nat) (hj : j < l.length), w.cell? ⟨B, j, none⟩ = some (.int .i64 l[j])) : Calls Tryz.prog 88 #[.slice (some ⟨B, 0, none⟩) n n] w fun e w' => e = .returned (.int .i64 (orL l)) ∧ w = w' := by
 have hBH := Lib.hid hB
 have hnH := Lib.hid hn
 clear hB hn
 go_enter Tryz.func88, Tryz.ntmps88
 go_wp2_with fail
 go_loopw [8] (fun i wr => ∃ j : Nat, i = .int .i64 j ∧ j ≤ n ∧ w = wr ∧ (∀ (q : Nat) (hq : q < l.length), q < j → l[q] = 0)) (fun i _ => n - (intOf i).toNat)
 case atStart => exact ⟨0, rfl, Nat.zero_le _, rfl, fun q _ h => absurd h (Nat.not_lt_zero _)⟩
 case round =>
  obtain ⟨j, rfl, hj, rfl, hz⟩ := hrel
  have hzH := Lib.hid hz
  clear hz
  by_cases hjn : j < n
  ·have hjn1 : (j : Int) < (n : Int) := by omega
   have hjl : j < l.length := by rw [← hnH.out]; exact hjn
   have q0 := hBH.out j hjl
   have hwrap : IntKind.i64.wrap ((j : Int) + 1) = (j : Int) + 1 := IntWalk.i64_in _ (by omega)
   obtain ⟨C, hC⟩ : ∃ C, C = l[j] := ⟨_, rfl⟩
   rw [← hC] at q0
   have hCH := Lib.hid hC
   clear hC
   by_cases hC0 : C = 0
   ·have hCb : (C != 0) = false := by rw [hC0]; rfl
    go_wp2_with fail
    go_roundw
    case rel =>
     refine ⟨j + 1, by go_num, by omega, trivial, fun q hq hqj => ?_⟩
     by_cases hqe : q = j
     ·subst hqe; rw [← hCH.out]; exact hC0
     ·exact hzH.out q hq (by omega)
    case measure => simp [intOf]; omega
   ·have hCb : (C != 0) = true := by rw [bne_iff_ne]; exact hC0
    go_wp2_with fail
    go_ret
    refine ⟨?_, rfl⟩
    rw [orL_at l j hjl hzH.out (by rw [← hCH.out]; exact hC0), ← hCH.out]
    rfl
  ·have hjn1 : ¬ (j : Int) < (n : Int) := by omega
   obtain rfl : j = n := by omega
   go_wp2_with fail
   go_ret
   refine ⟨?_, rfl⟩
   rw [orL_zero l (fun q hq => hzH.out q hq (by rw [hnH.out]; exact hq))]
   rfl
end Go.Proofs.YtembpajlllnncaaGreatDoor
namespace Go.Proofs.YtembpajlllnncaaGreatDoor
open Go.RowKit

set_option maxRecDepth 100000 in
set_option maxHeartbeats 4000000 in
theorem or_bytes {P Q : Nat → Prop} {w : World} {y z : Val} {cs ds : List Value} (hy : VIs P w y cs) (hz : VIs Q w z ds) :
  Calls Tryz.prog 87 #[.agg cs.toArray, .agg ds.toArray] w fun e w' => e = .returned (.int .i64 (orI (sgnI y.b.length z.b.length) (cmpB y.b z.b))) ∧ Step [] id id w w' := by
 obtain ⟨bv, fa, fc, la, lc, hcs, hb, -⟩ := hy.cells
 obtain ⟨ba, bc, rfl⟩ := hb.shape
 obtain ⟨bv2, fa2, fc2, la2, lc2, hds, hb2, -⟩ := hz.cells
 obtain ⟨ba2, bc2, rfl⟩ := hb2.shape
 have hcmpA := Lib.hid (fun (W : World) (hs : Step [] id id w W) => bytes_cmp (hb.below.keep (P2 := fun _ => True) (w' := W) (fun _ _ => trivial) (fun k hk hl => (hs.keep k hl (by simp)).2)) (hb2.below.keep (P2 := fun _ => True) (w' := W) (fun _ _ => trivial) (fun k hk hl => (hs.keep k hl (by simp)).2)))
 obtain ⟨C, hC⟩ : ∃ C, C = cmpB y.b z.b := ⟨_, rfl⟩
 obtain ⟨n1, hn1⟩ : ∃ n, n = y.b.length := ⟨_, rfl⟩
 obtain ⟨n2, hn2⟩ : ∃ n, n = z.b.length := ⟨_, rfl⟩
 obtain ⟨T, hT⟩ : ∃ T, T = sgnI (n1 : Int) (n2 : Int) := ⟨_, rfl⟩
 rw [← hC, ← hn1, ← hn2] at hcmpA
 rw [← hC, ← hn1, ← hn2, ← hT, ← orL_two]
 rw [← hn1] at hcs
 rw [← hn2] at hds
 obtain ⟨k1, hk1⟩ : ∃ k, k = y.kind := ⟨_, rfl⟩
 obtain ⟨m1, hm1⟩ : ∃ k, k = y.num := ⟨_, rfl⟩
 obtain ⟨s1, hs1⟩ : ∃ k, k = strOf y.s := ⟨_, rfl⟩
 obtain ⟨f1, hf1⟩ : ∃ k, k = y.f.length := ⟨_, rfl⟩
 obtain ⟨l1, hl1⟩ : ∃ k, k = y.l.length := ⟨_, rfl⟩
 obtain ⟨k2, hk2⟩ : ∃ k, k = z.kind := ⟨_, rfl⟩
 obtain ⟨m2, hm2⟩ : ∃ k, k = z.num := ⟨_, rfl⟩
 obtain ⟨s2, hs2⟩ : ∃ k, k = strOf z.s := ⟨_, rfl⟩
 obtain ⟨f2, hf2⟩ : ∃ k, k = z.f.length := ⟨_, rfl⟩
 obtain ⟨l2, hl2⟩ : ∃ k, k = z.l.length := ⟨_, rfl⟩
 rw [← hk1, ← hm1, ← hs1, ← hf1, ← hl1] at hcs
 rw [← hk2, ← hm2, ← hs2, ← hf2, ← hl2] at hds
 subst hcs hds
 have hci := Lib.hid (fun W => cmp_int (n1 : Int) (n2 : Int) W)
 rw [← hT] at hci
 obtain ⟨W1, hW1⟩ : ∃ W1, W1 = (w.alloc (.cells #[.int .i64 k1, .int .i64 m1, .string s1, .slice ba n1 bc, .slice fa f1 fc, .slice la l1 lc] 35)).alloc (.cells #[.int .i64 k2, .int .i64 m2, .string s2, .slice ba2 n2 bc2, .slice fa2 f2 fc2, .slice la2 l2 lc2] 35) := ⟨_, rfl⟩
 have hst1 : Step [] id id w W1 := by rw [hW1]; exact (Step.alloc _).tail (Step.alloc _)
 have hA : W1.heap[w.heap.size]? = some (.cells #[.int .i64 k1, .int .i64 m1, .string s1, .slice ba n1 bc, .slice fa f1 fc, .slice la l1 lc] 35 (0, 0)) := by rw [hW1]; exact alloc_old (heap_alloc_new w _)
 have hB : W1.heap[w.heap.size + 1]? = some (.cells #[.int .i64 k2, .int .i64 m2, .string s2, .slice ba2 n2 bc2, .slice fa2 f2 fc2, .slice la2 l2 lc2] 35 (0, 0)) := by
  rw [hW1]
  have := heap_alloc_new (w.alloc (.cells #[.int .i64 k1, .int .i64 m1, .string s1, .slice ba n1 bc, .slice fa f1 fc, .slice la l1 lc] 35)) (.cells #[.int .i64 k2, .int .i64 m2, .string s2, .slice ba2 n2 bc2, .slice fa2 f2 fc2, .slice la2 l2 lc2] 35)
  rwa [show (w.alloc (.cells #[.int .i64 k1, .int .i64 m1, .string s1, .slice ba n1 bc, .slice fa f1 fc, .slice la l1 lc] 35)).heap.size = w.heap.size + 1 by simp] at this
 have hall := Lib.hid (fun (W : World) (hs : Step [] id id W1 W) => And.intro (cell_blk (hs.at hA (by simp)) (i := 3) rfl) (cell_blk (hs.at hB (by simp)) (i := 3) rfl))
 have hst1H := Lib.hid hst1
 have hW1H := Lib.hid hW1
 have a3 := cell_blk hA (i := 3) rfl
 have b3 := cell_blk hB (i := 3) rfl
 clear hy hz hb hb2 hC hn1 hn2 hT hk1 hm1 hs1 hf1 hl1 hk2 hm2 hs2 hf2 hl2 hW1 hst1 hA hB
 go_enter Tryz.func87, Tryz.ntmps87
 go_wp2_with fail
 rw [← hW1H.out]
 refine wp_region_held_drew (S := fun w' => w'.cell? ⟨w.heap.size, 3, none⟩ = some (.slice ba n1 bc) ∧ w'.cell? ⟨w.heap.size + 1, 3, none⟩ = some (.slice ba2 n2 bc2)) (by kernel_rfl) ⟨a3, b3⟩ (fun hHeld => ?_)
 refine tkH 0 ?_ rfl (by kernel_rfl) (fun _ _ _ h => h) ?_ hHeld ?_
 rotate_left
 ·intro w' hSw; (try dsimp only at hSw); go_simp
  all_goals (with_reducible rfl)
 simp only [zP, zO, zA, zB, zC, zD, zE, zF]
 refine tkH 1 ?_ rfl (by kernel_rfl) (fun _ _ _ h => h) ?_ hHeld ?_
 rotate_left
 ·intro w' hSw; (try dsimp only at hSw); go_simp
  all_goals (with_reducible rfl)
 simp only [zP, zO, zA, zB, zC, zD, zE, zF]
 refine tkH 2 ?_ rfl (by kernel_rfl) (fun _ _ _ h => h) ?_ hHeld ?_
 rotate_left
 ·intro w' hSw; (try dsimp only at hSw); go_simp
  all_goals (with_reducible rfl)
 simp only [zP, zO, zA, zB, zC, zD, zE, zF]
 refine tkH 3 ?_ rfl (by kernel_rfl) (fun _ _ _ h => h) ?_ hHeld ?_
 rotate_left
 ·intro w' hSw; (try dsimp only at hSw); go_simp
  all_goals (with_reducible rfl)
 simp only [zP, zO, zA, zB, zC, zD, zE, zF]
 refine tkH 4 ?_ rfl (by kernel_rfl) (fun _ _ _ h => h) ?_ hHeld ?_
 rotate_left
 ·intro w' hSw; (try dsimp only at hSw); go_simp
  all_goals (with_reducible rfl)
 simp only [zP, zO, zA, zB, zC, zD, zE, zF]
 refine tkH 5 ?_ rfl (by kernel_rfl) (fun _ _ _ h => h) ?_ hHeld ?_
 rotate_left
 ·intro w' hSw; (try dsimp only at hSw); go_simp
  all_goals (with_reducible rfl)
 simp only [zP, zO, zA, zB, zC, zD, zE, zF]
 refine tkH 7 ?_ rfl (by kernel_rfl) (fun _ _ _ h => h) ?_ hHeld ?_
 rotate_left
 ·intro w' hSw; (try dsimp only at hSw); go_simp
  all_goals (with_reducible rfl)
 simp only [zP, zO, zA, zB, zC, zD, zE, zF]
 refine tkH 8 ?_ rfl (by kernel_rfl) (fun _ _ _ h => h) ?_ hHeld ?_
 rotate_left
 ·intro w' hSw; (try dsimp only at hSw); go_simp
  all_goals (with_reducible rfl)
 simp only [zP, zO, zA, zB, zC, zD, zE, zF]
 refine tkH 9 ?_ rfl (by kernel_rfl) (fun _ _ _ h => h) ?_ hHeld ?_
 rotate_left
 ·intro w' hSw; (try dsimp only at hSw); go_simp
  all_goals (with_reducible rfl)
 simp only [zP, zO, zA, zB, zC, zD, zE, zF]
 refine tkH 10 ?_ rfl (by kernel_rfl) (fun _ _ _ h => h) ?_ hHeld ?_
 rotate_left
 ·intro w' hSw; (try dsimp only at hSw); go_simp
  all_goals (with_reducible rfl)
 simp only [zP, zO, zA, zB, zC, zD, zE, zF]
 refine wpAnyH_ready (rs := [6]) (by kernel_rfl) (by simp) ?_
 refine AllReadyH.cons (o := _) rfl (fun K hK => ?_) AllReadyH.nil
 go_simp
 refine (hci.out _).mono ?_
 rintro e w' ⟨rfl, rfl⟩
 go_wp2_with fail
 refine hK.out _ _ ?_ (fun hHeld => ?_)
 ·exact hall.out _ Step.drew
 clear hK K
 refine wpAnyH_ready (rs := [11]) (by kernel_rfl) (by simp) ?_
 refine AllReadyH.cons (o := _) rfl (fun K hK => ?_) AllReadyH.nil
 go_simp
 refine (hcmpA.out _ (hst1H.out.tail Step.drew)).mono ?_
 rintro e w' ⟨rfl, rfl⟩
 go_wp2_with fail
 refine hK.out _ _ ?_ (fun hHeld => ?_)
 ·exact hall.out _ Step.drew
 clear hK K
 refine wpAnyH_ready (rs := [12]) (by kernel_rfl) (by simp) ?_
 refine AllReadyH.cons (o := _) rfl (fun K hK => ?_) AllReadyH.nil
 go_simp
 obtain ⟨W2, hW2⟩ : ∃ W2, W2 = (W1.alloc (.cells #[.int .i64 T, .int .i64 C] 3)).drew := ⟨_, rfl⟩
 rw [← hW2]
 have hs12 : Step [] id id W1 W2 := by rw [hW2]; exact (Step.alloc _).tail Step.drew
 have hD : W2.heap[W1.heap.size]? = some (.cells #[.int .i64 T, .int .i64 C] 3 (0, 0)) := by rw [hW2]; exact heap_alloc_new W1 _
 have hor := Lib.hid (cmp_or (w := W2) (B := W1.heap.size) (n := 2) (l := [T, C]) rfl (by omega) (fun j hj => by
  match j, hj with
  | 0, _ => exact cell_blk hD rfl
  | 1, _ => exact cell_blk hD rfl))
 have hs12H := Lib.hid hs12
 clear hW2 hs12 hD
 refine hK.out _ _ ?_ (fun hHeld => ?_)
 ·exact hall.out _ hs12H.out
 clear hK K
 refine wpAnyH_ready (rs := [13]) (by kernel_rfl) (by simp) ?_
 refine AllReadyH.cons (o := _) rfl (fun K hK => ?_) AllReadyH.nil
 go_simp
 refine hor.out.mono ?_
 rintro e w' ⟨rfl, rfl⟩
 go_wp2_with fail
 refine hK.out _ _ ?_ (fun hHeld => ?_)
 ·exact hall.out _ hs12H.out
 clear hK K
 refine tkH 14 ?_ rfl (by kernel_rfl) (fun _ _ _ h => h) ?_ hHeld ?_
 rotate_left
 ·intro w' hSw; (try dsimp only at hSw); go_simp
  all_goals (with_reducible rfl)
 simp only [zP, zO, zA, zB, zC, zD, zE, zF]
 refine wpAnyH_done (by kernel_rfl) ?_ _
 go_wp2_with fail
 go_ret
 exact ⟨rfl, hst1H.out.tail hs12H.out⟩
set_option maxRecDepth 100000 in
set_option maxHeartbeats 4000000 in
/-- Two of one rank: what their kind's function says. -/
theorem or_same {w : World} {k1 n1 k2 n2 C : Int} {s1 b1 f1 l1 s2 b2 f2 l2 : Value} {F : FuncId} (hcls : clsOf k1 = clsOf k2) (hw : wayOf k1 = F) (hcf : ∀ (args : Array Value) (w : World), (callFunc F args).run Tryz.prog w = .ok (.enter F args) w)
  (hf : ∀ W, Step [] id id w W → Calls Tryz.prog F #[.agg #[.int .i64 k1, .int .i64 n1, s1, b1, f1, l1], .agg #[.int .i64 k2, .int .i64 n2, s2, b2, f2, l2]] W fun e w' => e = .returned (.int .i64 C) ∧ Step [] id id W w') :
  Calls Tryz.prog 42 #[.agg #[.int .i64 k1, .int .i64 n1, s1, b1, f1, l1], .agg #[.int .i64 k2, .int .i64 n2, s2, b2, f2, l2]] w fun e w' => e = .returned (.int .i64 C) ∧ Step [] id id w w' := by
 have hcl := Lib.hid (fun k W => or_class k W)
 have hci := Lib.hid (fun a b W => cmp_int a b W)
 obtain ⟨c1, hc1⟩ : ∃ c, c = clsOf k1 := ⟨_, rfl⟩
 have hc2 : c1 = clsOf k2 := by rw [hc1, hcls]
 have hc1H := Lib.hid hc1
 have hc2H := Lib.hid hc2
 have hfH := Lib.hid hf
 have hwy := Lib.hid (fun W => or_way k1 W)
 rw [hw] at hwy
 clear hc1 hc2 hf hcls hw
 go_enter Tryz.func42, Tryz.ntmps42
 go_wp2_with fail
 go_quiet ((first | (go_at_call 60; exact quietL (hcl.out _ _)) | (go_at_call 59; exact quietL (hci.out _ _ _))))
 rw [← hc1H.out, ← hc2H.out, sgnI_self]
 obtain ⟨W3, hW3⟩ : ∃ W3, W3 = (((w.alloc (.cells #[.int .i64 k1, .int .i64 n1, s1, b1, f1, l1] 35)).alloc (.cells #[.int .i64 k2, .int .i64 n2, s2, b2, f2, l2] 35)).drewN nq) := ⟨_, rfl⟩
 rw [← hW3]
 have hA : Step [] id id w W3 := by rw [hW3]; exact ((Step.alloc _).tail (Step.alloc _)).tail (Step.drewN _ _)
 have hb0 : W3.heap[w.heap.size]? = some (.cells #[.int .i64 k1, .int .i64 n1, s1, b1, f1, l1] 35 (0, 0)) := by rw [hW3]; exact drewN_blk (alloc_old (heap_alloc_new w _))
 have hb1 : W3.heap[w.heap.size + 1]? = some (.cells #[.int .i64 k2, .int .i64 n2, s2, b2, f2, l2] 35 (0, 0)) := by
  rw [hW3]; refine drewN_blk ?_
  have := heap_alloc_new (w.alloc (.cells #[.int .i64 k1, .int .i64 n1, s1, b1, f1, l1] 35)) (.cells #[.int .i64 k2, .int .i64 n2, s2, b2, f2, l2] 35)
  rwa [show (w.alloc (.cells #[.int .i64 k1, .int .i64 n1, s1, b1, f1, l1] 35)).heap.size = w.heap.size + 1 by simp] at this
 obtain ⟨a0, a1, a2, a3, a4, a5⟩ := cells6A hb0
 obtain ⟨d0, d1, d2, d3, d4, d5⟩ := cells6A hb1
 have lt0 := lt_of_block hb0
 have lt1 := lt_of_block hb1
 have hAH := Lib.hid hA
 clear hW3 hA hb0 hb1
 go_wp2_with fail
 refine (hwy.out _).mono ?_
 rintro e w' ⟨rfl, rfl⟩
 go_wp2_with fail
 refine (hfH.out _ hAH.out).mono ?_
 rintro e w5 ⟨rfl, hs5⟩
 have hs5H := Lib.hid (hAH.out.tail hs5)
 clear hs5
 go_wp2_with fail
 go_ret
 exact ⟨rfl, hs5H.out⟩
theorem cmpH_bytes {y z : Val} (hy : y.kind = 8) (hz : z.kind = 8) : CmpH y z := by
 intro Q Q' W cs ds hvy hvz
 have hv : cmpV y z = orI (sgnI y.b.length z.b.length) (cmpB y.b z.b) := by
  cases y with
  | mk k n s b f l =>
   cases z with
   | mk k2 n2 s2 b2 f2 l2 =>
    simp only [Val.kind] at hy hz
    subst hy hz
    simp [cmpV, sgnI_self, orI, Val.kind, Val.b]
    by_cases h : sgnI (b.length : Int) (b2.length : Int) = 0 <;> simp [h]
 rw [hv]
 have hvy' := hvy
 have hvz' := hvz
 obtain ⟨s0, ba, bn, bc, fa, fn, fc, la, ln, lc, hcs, -⟩ := hvy.six
 obtain ⟨s1, ba1, bn1, bc1, fa1, fn1, fc1, la1, ln1, lc1, hds, -⟩ := hvz.six
 rw [hcs, hds]
 refine or_same (F := 87) (by rw [hy, hz]) (by rw [hy]; rfl) (fun _ _ => by kernel_rfl) (fun W' hs => ?_)
 rw [← hcs, ← hds]
 exact or_bytes (hvy'.low.onto hs) (hvz'.low.onto hs)
end Go.Proofs.YtembpajlllnncaaGreatDoor
namespace Go.Proofs.YtembpajlllnncaaGreatDoor
open Go.RowKit

set_option maxRecDepth 100000 in
theorem nan_str (s : ByteArray) (w : World) : Calls Tryz.prog 103 #[.string s] w fun e w' => e = .returned (.bool false) ∧ w = w' := by
 go_enter Tryz.func103, Tryz.ntmps103
 go_wp2
 go_ret
 simp
theorem less_cmp : ∀ a b : Bs, cmpB a b = if Op.bytesLess a b then -1 else if a == b then 0 else 1
 | [], [] => rfl
 | [], _ :: _ => rfl
 | _ :: _, [] => rfl
 | a :: r, b :: s => by
  rw [cmpB, less_cmp r s]
  by_cases h1 : a < b
  ·simp [Op.bytesLess, h1]
  ·by_cases h2 : b < a
   ·have hne : a ≠ b := fun e => by subst e; exact h1 h2
    simp [Op.bytesLess, h1, h2, hne]
   ·have he : a = b := by
     rcases Nat.lt_trichotomy a.toNat b.toNat with h3 | h3 | h3
     ·exact absurd (UInt8.lt_iff_toNat_lt.2 h3) h1
     ·exact UInt8.toNat_inj.1 h3
     ·exact absurd (UInt8.lt_iff_toNat_lt.2 h3) h2
    subst he
    simp [Op.bytesLess, h1]
set_option maxRecDepth 100000 in
set_option maxHeartbeats 2000000 in
theorem cmp_str (a b : Bs) (w : World) : Calls Tryz.prog 81 #[.string (strOf a), .string (strOf b)] w fun e w' => e = .returned (.int .i64 (cmpB a b)) ∧ w = w' := by
 have hn1 := Lib.hid (fun (n : ByteArray) (w : World) => nan_str n w)
 have hc := less_cmp a b
 have ha := strOf_toList a
 have hb := strOf_toList b
 obtain ⟨A, hA⟩ : ∃ A, A = strOf a := ⟨_, rfl⟩
 obtain ⟨B, hB⟩ : ∃ B, B = strOf b := ⟨_, rfl⟩
 obtain ⟨C, hC⟩ : ∃ C, C = cmpB a b := ⟨_, rfl⟩
 rw [← hA] at ha ⊢
 rw [← hB] at hb ⊢
 rw [← hC] at hc ⊢
 rw [← ha, ← hb] at hc
 clear ha hb hA hB hC
 cases hL : Op.bytesLess A.toList B.toList with
 | true =>
  rw [hL] at hc
  obtain rfl : C = -1 := hc
  go_enter Tryz.func81, Tryz.ntmps81
  go_wp2_with (go_at_call 103; refine (hn1.out _ _).mono ?_; rintro e w' ⟨rfl, rfl⟩)
  go_ret
  exact ⟨rfl, rfl⟩
 | false =>
  rw [hL] at hc
  cases hE : (A.toList == B.toList) with
  | true =>
   rw [hE] at hc
   obtain rfl : C = 0 := hc
   go_enter Tryz.func81, Tryz.ntmps81
   go_wp2_with (go_at_call 103; refine (hn1.out _ _).mono ?_; rintro e w' ⟨rfl, rfl⟩)
   go_ret
   exact ⟨rfl, rfl⟩
  | false =>
   rw [hE] at hc
   obtain rfl : C = 1 := hc
   go_enter Tryz.func81, Tryz.ntmps81
   go_wp2_with (go_at_call 103; refine (hn1.out _ _).mono ?_; rintro e w' ⟨rfl, rfl⟩)
   go_ret
   exact ⟨rfl, rfl⟩
set_option maxRecDepth 100000 in
set_option maxHeartbeats 4000000 in
/-- Texts. -/
theorem or_text {P Q : Nat → Prop} {w : World} {y z : Val} {cs ds : List Value} (hy : VIs P w y cs) (hz : VIs Q w z ds) :
  Calls Tryz.prog 80 #[.agg cs.toArray, .agg ds.toArray] w fun e w' => e = .returned (.int .i64 (cmpB y.s z.s)) ∧ Step [] id id w w' := by
 obtain ⟨bv, fa, fc, la, lc, hcs, hb, hfn, -, hsz, hff, hll⟩ := hy.cells
 obtain ⟨ba, bc, rfl⟩ := hb.shape
 obtain ⟨bv2, fa2, fc2, la2, lc2, hds, hb2, hfn2, -, hsz2, hff2, hll2⟩ := hz.cells
 obtain ⟨ba2, bc2, rfl⟩ := hb2.shape
 have hc := Lib.hid (fun W => cmp_str y.s z.s W)
 obtain ⟨C, hC⟩ : ∃ C, C = cmpB y.s z.s := ⟨_, rfl⟩
 obtain ⟨A, hA⟩ : ∃ A, A = strOf y.s := ⟨_, rfl⟩
 obtain ⟨B, hB⟩ : ∃ B, B = strOf z.s := ⟨_, rfl⟩
 rw [← hC, ← hA, ← hB] at hc
 rw [← hC]
 rw [← hA] at hcs
 rw [← hB] at hds
 subst hcs hds
 clear hy hz hb hb2 hff hll hff2 hll2 hfn hfn2 hsz hsz2 hC hA hB
 go_enter Tryz.func80, Tryz.ntmps80
 go_wp2_with fail
 refine (hc.out _).mono ?_
 rintro e w' ⟨rfl, rfl⟩
 go_wp2_with fail
 go_ret
 exact ⟨rfl, (Step.alloc _).tail (Step.alloc _)⟩
set_option maxRecDepth 100000 in
set_option maxHeartbeats 4000000 in
/-- Ids. -/
theorem or_id {P Q : Nat → Prop} {w : World} {y z : Val} {cs ds : List Value} (hy : VIs P w y cs) (hz : VIs Q w z ds) :
  Calls Tryz.prog 90 #[.agg cs.toArray, .agg ds.toArray] w fun e w' => e = .returned (.int .i64 (cmpB y.b z.b)) ∧ Step [] id id w w' := by
 obtain ⟨bv, fa, fc, la, lc, hcs, hb, hfn, -, hsz, hff, hll⟩ := hy.cells
 obtain ⟨ba, bc, rfl⟩ := hb.shape
 obtain ⟨bv2, fa2, fc2, la2, lc2, hds, hb2, hfn2, -, hsz2, hff2, hll2⟩ := hz.cells
 obtain ⟨ba2, bc2, rfl⟩ := hb2.shape
 have hcmpA := Lib.hid (fun (W : World) (hs : Step [] id id w W) => bytes_cmp (hb.below.keep (P2 := fun _ => True) (w' := W) (fun _ _ => trivial) (fun k hk hl => (hs.keep k hl (by simp)).2)) (hb2.below.keep (P2 := fun _ => True) (w' := W) (fun _ _ => trivial) (fun k hk hl => (hs.keep k hl (by simp)).2)))
 obtain ⟨C, hC⟩ : ∃ C, C = cmpB y.b z.b := ⟨_, rfl⟩
 rw [← hC] at hcmpA ⊢
 subst hcs hds
 clear hy hz hb hb2 hff hll hff2 hll2 hfn hfn2 hsz hsz2 hC
 go_enter Tryz.func90, Tryz.ntmps90
 go_wp2_with fail
 refine (hcmpA.out _ ((Step.alloc _).tail (Step.alloc _))).mono ?_
 rintro e w' ⟨rfl, rfl⟩
 go_wp2_with fail
 go_ret
 exact ⟨rfl, (Step.alloc _).tail (Step.alloc _)⟩
end Go.Proofs.YtembpajlllnncaaGreatDoor
