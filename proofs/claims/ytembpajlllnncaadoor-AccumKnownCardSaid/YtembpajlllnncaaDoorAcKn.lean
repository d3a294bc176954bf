/- The law AccumKnown, walked. -/
import Derived.Test.YtembpajlllnncaaDoorAcKp
set_option linter.unusedVariables false
set_option linter.unusedSimpArgs false
namespace Go.Proofs.YtembpajlllnncaaDoor
open Go.RowKit

set_option maxRecDepth 100000 in
theorem known_n (n : Int) (w : World) : Calls Tryd.prog 13 #[.int .i64 n] w fun e w' => e = .returned (.agg #[.int .i64 4, .int .i64 n, (.string ⟨#[]⟩), (.slice none 0 0), (.slice none 0 0), (.slice none 0 0)]) ∧ Step [] id id w w' := by
  go_enter Tryd.func13, Tryd.ntmps13
  go_wp2_with fail
  have hvb := heap_alloc_new w (.cells #[.int .i64 4, .int .i64 n, (.string ⟨#[]⟩), (.slice none 0 0), (.slice none 0 0), (.slice none 0 0)] 32)
  exact bodyPost_ret (results_v rfl rfl hvb) rfl ⟨rfl, Step.alloc _⟩
theorem in_cells {W : World} {B : Nat} (h : W.heap[B]? = some (.cells #[.int .i64 0, .int .i64 0, (.string ⟨#[]⟩), (.slice none 0 0), (.slice none 0 0), (.slice none 0 0), .int .i64 2, .int .i64 0, (.string ⟨#[]⟩), (.slice none 0 0), (.slice none 0 0), (.slice none 0 0), .int .i64 4, .int .i64 3, (.string ⟨#[]⟩), (.slice none 0 0), (.slice none 0 0), (.slice none 0 0), .int .i64 3, .int .i64 3, (.string ⟨#[]⟩), (.slice none 0 0), (.slice none 0 0), (.slice none 0 0), .int .i64 0, .int .i64 0, (.string ⟨#[]⟩), (.slice none 0 0), (.slice none 0 0), (.slice none 0 0)] 32 (0, 0))) {k : Nat} (hk : k < 5) : W.cell? ⟨B, k * 6, none⟩ = some (.int .i64 (inK k)) ∧ W.cell? ⟨B, k * 6 + 1, none⟩ = some (.int .i64 (inN k)) ∧ W.cell? ⟨B, k * 6 + 2, none⟩ = some (.string ⟨#[]⟩) ∧ W.cell? ⟨B, k * 6 + 3, none⟩ = some (.slice none 0 0) ∧ W.cell? ⟨B, k * 6 + 4, none⟩ = some (.slice none 0 0) ∧ W.cell? ⟨B, k * 6 + 5, none⟩ = some (.slice none 0 0) := by
  obtain rfl | rfl | rfl | rfl | rfl : k = 0 ∨ k = 1 ∨ k = 2 ∨ k = 3 ∨ k = 4 := by omega
  all_goals exact ⟨cell_blk h rfl, cell_blk h rfl, cell_blk h rfl, cell_blk h rfl, cell_blk h rfl, cell_blk h rfl⟩
theorem name_cell {W : World} {B : Nat} (h : W.heap[B]? = some (.cells #[.string ⟨#[36, 115, 117, 109]⟩, .string ⟨#[36, 109, 105, 110]⟩, .string ⟨#[36, 109, 97, 120]⟩, .string ⟨#[36, 102, 105, 114, 115, 116]⟩, .string ⟨#[36, 108, 97, 115, 116]⟩, .string ⟨#[36, 112, 117, 115, 104]⟩, .string ⟨#[36, 97, 100, 100, 84, 111, 83, 101, 116]⟩, .string ⟨#[36, 99, 111, 117, 110, 116]⟩] 9 (0, 0))) {i : Nat} (hi : i < 8) : W.cell? ⟨B, i, none⟩ = some (.string (strOf (nmI i))) := by
  obtain rfl | rfl | rfl | rfl | rfl | rfl | rfl | rfl : i = 0 ∨ i = 1 ∨ i = 2 ∨ i = 3 ∨ i = 4 ∨ i = 5 ∨ i = 6 ∨ i = 7 := by omega
  all_goals exact cell_blk h rfl
set_option maxRecDepth 100000 in
set_option maxHeartbeats 4000000 in
theorem law_known (w : World) (ht : Tw w) : Calls Tryd.prog 5 #[] w fun e w' => e = .returned (.bool true) ∧ Step [] id id w w' := by
  have htH := Lib.hid ht
  have hcf : ∀ (args : Array Value) (w : World), (callFunc 13 args).run Tryd.prog w = .ok (.enter 13 args) w := fun _ _ => by kernel_rfl
  have hn := Lib.hid (fun n W => known_n n W)
  clear ht
  go_enter Tryd.func5, Tryd.ntmps5
  go_wp2_with (first | (go_at_call 6; refine (ac_awake w htH.out).mono ?_; rintro e w1 ⟨rfl, hs1⟩; have hs1H := Lib.hid hs1; clear hs1) | (go_at_call 13; refine (hn.out _ _).mono ?_; rintro e w2 ⟨rfl, hs2⟩; have hs2H := Lib.hid hs2; clear hs2))
  obtain ⟨W3, hW3⟩ : ∃ W3, W3 = (w2.alloc (.cells #[.int .i64 0, .int .i64 0, (.string ⟨#[]⟩), (.slice none 0 0), (.slice none 0 0), (.slice none 0 0), .int .i64 2, .int .i64 0, (.string ⟨#[]⟩), (.slice none 0 0), (.slice none 0 0), (.slice none 0 0), .int .i64 4, .int .i64 3, (.string ⟨#[]⟩), (.slice none 0 0), (.slice none 0 0), (.slice none 0 0), .int .i64 3, .int .i64 3, (.string ⟨#[]⟩), (.slice none 0 0), (.slice none 0 0), (.slice none 0 0), .int .i64 0, .int .i64 0, (.string ⟨#[]⟩), (.slice none 0 0), (.slice none 0 0), (.slice none 0 0)] 32)).alloc (.cells #[.string ⟨#[36, 115, 117, 109]⟩, .string ⟨#[36, 109, 105, 110]⟩, .string ⟨#[36, 109, 97, 120]⟩, .string ⟨#[36, 102, 105, 114, 115, 116]⟩, .string ⟨#[36, 108, 97, 115, 116]⟩, .string ⟨#[36, 112, 117, 115, 104]⟩, .string ⟨#[36, 97, 100, 100, 84, 111, 83, 101, 116]⟩, .string ⟨#[36, 99, 111, 117, 110, 116]⟩] 9) := ⟨_, rfl⟩
  rw [← hW3]
  have hIB := Lib.hid (show W3.heap[w2.heap.size]? = some (.cells #[.int .i64 0, .int .i64 0, (.string ⟨#[]⟩), (.slice none 0 0), (.slice none 0 0), (.slice none 0 0), .int .i64 2, .int .i64 0, (.string ⟨#[]⟩), (.slice none 0 0), (.slice none 0 0), (.slice none 0 0), .int .i64 4, .int .i64 3, (.string ⟨#[]⟩), (.slice none 0 0), (.slice none 0 0), (.slice none 0 0), .int .i64 3, .int .i64 3, (.string ⟨#[]⟩), (.slice none 0 0), (.slice none 0 0), (.slice none 0 0), .int .i64 0, .int .i64 0, (.string ⟨#[]⟩), (.slice none 0 0), (.slice none 0 0), (.slice none 0 0)] 32 (0, 0)) by rw [hW3]; exact alloc_old (heap_alloc_new w2 _))
  have hNB := Lib.hid (show W3.heap[w2.heap.size + 1]? = some (.cells #[.string ⟨#[36, 115, 117, 109]⟩, .string ⟨#[36, 109, 105, 110]⟩, .string ⟨#[36, 109, 97, 120]⟩, .string ⟨#[36, 102, 105, 114, 115, 116]⟩, .string ⟨#[36, 108, 97, 115, 116]⟩, .string ⟨#[36, 112, 117, 115, 104]⟩, .string ⟨#[36, 97, 100, 100, 84, 111, 83, 101, 116]⟩, .string ⟨#[36, 99, 111, 117, 110, 116]⟩] 9 (0, 0)) by
    rw [hW3]
    have := heap_alloc_new (w2.alloc (.cells #[.int .i64 0, .int .i64 0, (.string ⟨#[]⟩), (.slice none 0 0), (.slice none 0 0), (.slice none 0 0), .int .i64 2, .int .i64 0, (.string ⟨#[]⟩), (.slice none 0 0), (.slice none 0 0), (.slice none 0 0), .int .i64 4, .int .i64 3, (.string ⟨#[]⟩), (.slice none 0 0), (.slice none 0 0), (.slice none 0 0), .int .i64 3, .int .i64 3, (.string ⟨#[]⟩), (.slice none 0 0), (.slice none 0 0), (.slice none 0 0), .int .i64 0, .int .i64 0, (.string ⟨#[]⟩), (.slice none 0 0), (.slice none 0 0), (.slice none 0 0)] 32)) (.cells #[.string ⟨#[36, 115, 117, 109]⟩, .string ⟨#[36, 109, 105, 110]⟩, .string ⟨#[36, 109, 97, 120]⟩, .string ⟨#[36, 102, 105, 114, 115, 116]⟩, .string ⟨#[36, 108, 97, 115, 116]⟩, .string ⟨#[36, 112, 117, 115, 104]⟩, .string ⟨#[36, 97, 100, 100, 84, 111, 83, 101, 116]⟩, .string ⟨#[36, 99, 111, 117, 110, 116]⟩] 9)
    rwa [show (w2.alloc (.cells #[.int .i64 0, .int .i64 0, (.string ⟨#[]⟩), (.slice none 0 0), (.slice none 0 0), (.slice none 0 0), .int .i64 2, .int .i64 0, (.string ⟨#[]⟩), (.slice none 0 0), (.slice none 0 0), (.slice none 0 0), .int .i64 4, .int .i64 3, (.string ⟨#[]⟩), (.slice none 0 0), (.slice none 0 0), (.slice none 0 0), .int .i64 3, .int .i64 3, (.string ⟨#[]⟩), (.slice none 0 0), (.slice none 0 0), (.slice none 0 0), .int .i64 0, .int .i64 0, (.string ⟨#[]⟩), (.slice none 0 0), (.slice none 0 0), (.slice none 0 0)] 32)).heap.size = w2.heap.size + 1 by simp] at this)
  have hs03 : Step [] id id w W3 := by rw [hW3]; exact ((hs1H.out.tail hs2H.out).tail (Step.alloc _)).tail (Step.alloc _)
  have htW := Lib.hid (htH.out.step hs03)
  have hs03H := Lib.hid hs03
  have zI : w2.heap.size < W3.heap.size := lt_of_block hIB.out
  have zN : w2.heap.size + 1 < W3.heap.size := lt_of_block hNB.out
  clear hW3 hs03 hs1H hs2H htH
  go_loopw [4] (fun v wr => ∃ i : Nat, v = .int .i64 i ∧ i ≤ 8 ∧ Step [] id id W3 wr) (fun v _ => 8 - (intOf v).toNat)
  case atStart => exact ⟨0, rfl, by omega, Step.refl _ _ _⟩
  case round =>
    obtain ⟨i, rfl, hi, hst⟩ := hrel
    have zr := hst.size
    by_cases hi8 : i < 8
    · have hi1 : (i : Int) < 8 := by omega
      have q0 := name_cell (hst.at hNB.out (by simp)) hi8
      have hkind := Lib.hid (acc_kind (nmI i) wr)
      rw [names_at hi8] at hkind
      have hnew := Lib.hid (new_at (K := (i : Int) + 1) (N := []) (by omega) htW.out hst (by simp))
      have hwrap : IntKind.i64.wrap ((i : Int) + 1) = (i : Int) + 1 := IntWalk.i64_in _ (by omega)
      have hstH := Lib.hid hst
      clear hst
      go_wp2_with fail
      refine hkind.out.mono ?_
      rintro e w' ⟨rfl, rfl⟩
      go_wp2_with fail
      refine hnew.out.mono ?_
      rintro e w4 ⟨S, rfl, hSr, hA4, hs4⟩
      have hA4H := Lib.hid hA4
      have hs4H := Lib.hid (hstH.out.tail hs4)
      clear hA4 hs4 q0
      go_wp2_with fail
      refine (value_at (st := startA ((i : Int) + 1)) (by omega) hA4H.out (Nat.le_trans (known_at hi8 (k := 0) (by omega)).2.1 (by omega)) (Nat.le_trans (known_at hi8 (k := 0) (by omega)).2.2.1 (by omega))).mono ?_
      rintro e w5 ⟨ds, rfl, hx5, hs5⟩
      obtain ⟨bv, fa, fc, la, lc, hds, hb, -⟩ := hx5.cells
      obtain ⟨ba, bc, rfl⟩ := hb.shape
      obtain ⟨U0, hU0⟩ : ∃ U, U = valueA ((i : Int) + 1) (startA ((i : Int) + 1)) := ⟨_, rfl⟩
      rw [← hU0] at hds
      obtain ⟨k0, hk0⟩ : ∃ k, k = U0.kind := ⟨_, rfl⟩
      obtain ⟨n0, hn0⟩ : ∃ k, k = U0.num := ⟨_, rfl⟩
      obtain ⟨l0, hl0⟩ : ∃ k, k = U0.l.length := ⟨_, rfl⟩
      obtain ⟨f0, hf0⟩ : ∃ k, k = U0.f.length := ⟨_, rfl⟩
      obtain ⟨bl0, hbl0⟩ : ∃ k, k = U0.b.length := ⟨_, rfl⟩
      obtain ⟨s0, hs0⟩ : ∃ k, k = strOf U0.s := ⟨_, rfl⟩
      rw [← hk0, ← hn0, ← hl0, ← hf0, ← hs0, ← hbl0] at hds
      subst hds
      obtain ⟨W6, hW6⟩ : ∃ W6, W6 = w5.alloc (.cells #[.int .i64 k0, .int .i64 n0, .string s0, .slice ba bl0 bc, .slice fa f0 fc, .slice la l0 lc] 32) := ⟨_, rfl⟩
      have hs56 : Step [] id id w5 W6 := by rw [hW6]; exact Step.alloc _
      have hB0 := Lib.hid (show W6.heap[w5.heap.size]? = some (.cells #[.int .i64 k0, .int .i64 n0, .string s0, .slice ba bl0 bc, .slice fa f0 fc, .slice la l0 lc] 32 (0, 0)) by rw [hW6]; exact heap_alloc_new w5 _)
      have hA6 := Lib.hid ((hA4H.out.step hs5).other hs56 (Nat.le_refl _) (lt_of_block hB0.out))
      have hs36 := Lib.hid ((hs4H.out.tail hs5).tail hs56)
      have hW6H := Lib.hid hW6
      have hk0H := Lib.hid hk0
      have hn0H := Lib.hid hn0
      have hl0H := Lib.hid hl0
      have hU0H := Lib.hid hU0
      clear hx5 hs5 hs56 hb hW6 hk0 hn0 hl0 hf0 hbl0 hs0 hU0
      go_wp2_with fail
      rw [← hW6H.out]
      go_loopw [7] (fun v wq => ∃ k : Nat, v = .int .i64 k ∧ k ≤ 5 ∧ AccAt W3 wq [w5.heap.size] S ((i : Int) + 1) (stK i k) ∧ StepN W3 [w5.heap.size] W6 wq) (fun v _ => 5 - (intOf v).toNat)
      case atStart => exact ⟨0, rfl, by omega, hA6.out, StepN.of (Step.refl _ _ _)⟩
      case round =>
        obtain ⟨k, rfl, hk, hAk, hsk⟩ := hrel
        have hs3q := hsk.all hs36.out
        by_cases hk5 : k < 5
        · have hk1 : (k : Int) < 5 := by omega
          obtain ⟨p0, p1, p2, p3, p4, p5⟩ := in_cells (hs3q.at hIB.out (by simp)) hk5
          have hlI := Nat.lt_of_lt_of_le zI hs3q.size
          have hwr2 : IntKind.i64.wrap ((k : Int) + 1) = (k : Int) + 1 := IntWalk.i64_in _ (by omega)
          obtain ⟨hin1, hin2, hin3, hin4⟩ := inV_at hk5
          obtain ⟨g1, g2, g3, g4⟩ := known_at hi8 (k := k) (by omega)
          have hadd := add_at (K := (i : Int) + 1) (Q := fun _ => False) (x := inV k) (by omega) htW.out hs3q hAk (Nat.le_trans g2 (by omega)) (by rw [hin1]; exact flat0 (inK k) (inN k) (by omega) hin4) (fun _ h => h.elim) (by rw [hin1]; simp [weightV, weightFs, weightLs]) (fun _ => cmpH_flat (.inr (fun h => by have : (inV k).kind = inK k := rfl; omega))) (fun _ _ y hy => cmpH_flat (.inr (fun h => by have := g4 y hy; omega)))
          rw [g1] at hadd
          have haddH := Lib.hid hadd
          have hskH := Lib.hid hsk
          clear hadd hsk hs3q hAk hin1 hin4 g1 g2 g3 g4
          go_wp2_with fail
          refine haddH.out.mono ?_
          rintro e w7 ⟨rfl, hA7, hs7⟩
          have hA7H := Lib.hid hA7
          have hs7H := Lib.hid (hskH.out.tail hs7)
          clear hA7 hs7 p0 p1 p2 p3 p4 p5
          go_wp2_with fail
          go_roundw
          case rel => exact ⟨k + 1, by go_num, by omega, hA7H.out, hs7H.out⟩
          case measure => simp [intOf]; omega
        · have hk1 : ¬ (k : Int) < 5 := by omega
          obtain rfl : k = 5 := by omega
          have hskH := Lib.hid hsk
          have hs3qH := Lib.hid hs3q
          have hAkH := Lib.hid hAk
          clear hsk hs3q hAk
          go_wp2_with fail
          refine (value_at (st := stK i 5) (by omega) hAkH.out (Nat.le_trans (known_at hi8 (k := 5) (by omega)).2.1 (by omega)) (Nat.le_trans (known_at hi8 (k := 5) (by omega)).2.2.1 (by omega))).mono ?_
          rintro e w8 ⟨ds, rfl, hx8, hs8⟩
          obtain ⟨U1, hU1⟩ : ∃ U, U = valueA ((i : Int) + 1) (stK i 5) := ⟨_, rfl⟩
          rw [← hU1] at hx8
          obtain ⟨bv, fa1, fc1, la1, lc1, hds, hb, -, -, -, -, hL⟩ := hx8.cells
          obtain ⟨ba1, bc1, rfl⟩ := hb.shape
          obtain ⟨k1, hk1⟩ : ∃ k, k = U1.kind := ⟨_, rfl⟩
          obtain ⟨n1, hn1⟩ : ∃ k, k = U1.num := ⟨_, rfl⟩
          obtain ⟨l1, hl1⟩ : ∃ k, k = U1.l.length := ⟨_, rfl⟩
          obtain ⟨f1, hf1⟩ : ∃ k, k = U1.f.length := ⟨_, rfl⟩
          obtain ⟨bl1, hbl1⟩ : ∃ k, k = U1.b.length := ⟨_, rfl⟩
          obtain ⟨s1, hs1⟩ : ∃ k, k = strOf U1.s := ⟨_, rfl⟩
          rw [← hk1, ← hn1, ← hl1, ← hf1, ← hs1, ← hbl1] at hds
          subst hds
          have hB08 := hs8.at (hskH.out.at hB0.out (.inr (by simp))) (by simp)
          have hs38 := Lib.hid (hs3qH.out.tail hs8)
          obtain ⟨a0, a1, -, -, -, a5⟩ := cells6A hB08
          have lB0 := lt_of_block hB08
          have hfk := Lib.hid hk1
          have hfn := Lib.hid hn1
          have hfl := Lib.hid hl1
          have hfU := Lib.hid hU1
          have hLH := Lib.hid hL
          have hwr8 := hwrap
          clear hx8 hs8 hb hL hk1 hn1 hl1 hf1 hbl1 hs1 hU1 hB08 hkind hnew hA6 hB0 hstH hskH hs3qH hAkH
          obtain rfl | rfl | rfl | rfl | rfl | rfl | rfl | rfl : i = 0 ∨ i = 1 ∨ i = 2 ∨ i = 3 ∨ i = 4 ∨ i = 5 ∨ i = 6 ∨ i = 7 := by omega
          · obtain rfl : k0 = 3 := by rw [hk0H.out, hU0H.out]; kernel_rfl
            obtain rfl : n0 = 0 := by rw [hn0H.out, hU0H.out]; kernel_rfl
            obtain rfl : l0 = 0 := by rw [hl0H.out, hU0H.out]; kernel_rfl
            obtain rfl : k1 = 4 := by rw [hfk.out, hfU.out]; kernel_rfl
            obtain rfl : n1 = 6 := by rw [hfn.out, hfU.out]; kernel_rfl
            clear hwrap
            go_wp2_with fail
            go_roundw
            case rel => exact ⟨0 + 1, by go_num, by omega, hs38.out.tail (Step.alloc _)⟩
            case measure => simp [intOf]
          · obtain rfl : k0 = 2 := by rw [hk0H.out, hU0H.out]; kernel_rfl
            obtain rfl : n0 = 0 := by rw [hn0H.out, hU0H.out]; kernel_rfl
            obtain rfl : l0 = 0 := by rw [hl0H.out, hU0H.out]; kernel_rfl
            obtain rfl : k1 = 4 := by rw [hfk.out, hfU.out]; kernel_rfl
            obtain rfl : n1 = 3 := by rw [hfn.out, hfU.out]; kernel_rfl
            clear hwrap
            go_wp2_with fail
            go_roundw
            case rel => exact ⟨1 + 1, by go_num, by omega, hs38.out.tail (Step.alloc _)⟩
            case measure => simp [intOf]
          · obtain rfl : k0 = 2 := by rw [hk0H.out, hU0H.out]; kernel_rfl
            obtain rfl : n0 = 0 := by rw [hn0H.out, hU0H.out]; kernel_rfl
            obtain rfl : l0 = 0 := by rw [hl0H.out, hU0H.out]; kernel_rfl
            obtain rfl : k1 = 4 := by rw [hfk.out, hfU.out]; kernel_rfl
            obtain rfl : n1 = 3 := by rw [hfn.out, hfU.out]; kernel_rfl
            clear hwrap
            go_wp2_with fail
            go_roundw
            case rel => exact ⟨2 + 1, by go_num, by omega, hs38.out.tail (Step.alloc _)⟩
            case measure => simp [intOf]
          · obtain rfl : k0 = 2 := by rw [hk0H.out, hU0H.out]; kernel_rfl
            obtain rfl : n0 = 0 := by rw [hn0H.out, hU0H.out]; kernel_rfl
            obtain rfl : l0 = 0 := by rw [hl0H.out, hU0H.out]; kernel_rfl
            obtain rfl : k1 = 2 := by rw [hfk.out, hfU.out]; kernel_rfl
            obtain rfl : n1 = 0 := by rw [hfn.out, hfU.out]; kernel_rfl
            clear hwrap
            go_wp2_with fail
            go_roundw
            case rel => exact ⟨3 + 1, by go_num, by omega, hs38.out.tail (Step.alloc _)⟩
            case measure => simp [intOf]
          · obtain rfl : k0 = 2 := by rw [hk0H.out, hU0H.out]; kernel_rfl
            obtain rfl : n0 = 0 := by rw [hn0H.out, hU0H.out]; kernel_rfl
            obtain rfl : l0 = 0 := by rw [hl0H.out, hU0H.out]; kernel_rfl
            obtain rfl : k1 = 2 := by rw [hfk.out, hfU.out]; kernel_rfl
            obtain rfl : n1 = 0 := by rw [hfn.out, hfU.out]; kernel_rfl
            clear hwrap
            go_wp2_with fail
            go_roundw
            case rel => exact ⟨4 + 1, by go_num, by omega, hs38.out.tail (Step.alloc _)⟩
            case measure => simp [intOf]
          · obtain rfl : l1 = 3 := by rw [hfl.out, hfU.out]; kernel_rfl
            have hUe : U1 = listV [nullV, .mk 4 3 [] [] [] [], .mk 3 3 [] [] [] []] := by rw [hfU.out]; kernel_rfl
            have hL2 := hLH.out
            rw [hUe] at hL2
            obtain ⟨lb, lo, lcs, hla, -, hrng, hlx⟩ := LIs.get hL2 (j := 0) (by simp [listV, Val.l])
            obtain ⟨bv, fa2, fc2, la2, lc2, hlcs, -⟩ := hlx.cells
            subst hla
            have q0 : w8.cell? ⟨lb, lo, none⟩ = some (.int .i64 2) := by have := hrng 0 (.int .i64 2) (by rw [hlcs]; rfl); simpa using this
            have hlb := World.block_lt_of_cell? w8 _ q0
            clear hL2 hrng hlx hlcs hUe
            obtain rfl : k0 = 7 := by rw [hk0H.out, hU0H.out]; kernel_rfl
            obtain rfl : n0 = 0 := by rw [hn0H.out, hU0H.out]; kernel_rfl
            obtain rfl : l0 = 0 := by rw [hl0H.out, hU0H.out]; kernel_rfl
            obtain rfl : k1 = 7 := by rw [hfk.out, hfU.out]; kernel_rfl
            obtain rfl : n1 = 0 := by rw [hfn.out, hfU.out]; kernel_rfl
            clear hwrap
            go_wp2_with fail
            go_roundw
            case rel => exact ⟨5 + 1, by go_num, by omega, hs38.out.tail (Step.alloc _)⟩
            case measure => simp [intOf]
          · obtain rfl : l1 = 2 := by rw [hfl.out, hfU.out]; kernel_rfl
            have hUe : U1 = listV [nullV, .mk 4 3 [] [] [] []] := by rw [hfU.out]; kernel_rfl
            have hL2 := hLH.out
            rw [hUe] at hL2
            obtain ⟨lb, lo, lcs, hla, -, hrng, hlx⟩ := LIs.get hL2 (j := 1) (by simp [listV, Val.l])
            obtain ⟨bv, fa2, fc2, la2, lc2, hlcs, -⟩ := hlx.cells
            subst hla
            have q0 : w8.cell? ⟨lb, lo + 6, none⟩ = some (.int .i64 4) := by have := hrng 0 (.int .i64 4) (by rw [hlcs]; rfl); simpa using this
            have hlb : lb < w8.heap.size := World.block_lt_of_cell? w8 _ q0
            clear hL2 hrng hlx hlcs hUe
            obtain rfl : k0 = 7 := by rw [hk0H.out, hU0H.out]; kernel_rfl
            obtain rfl : n0 = 0 := by rw [hn0H.out, hU0H.out]; kernel_rfl
            obtain rfl : l0 = 0 := by rw [hl0H.out, hU0H.out]; kernel_rfl
            obtain rfl : k1 = 7 := by rw [hfk.out, hfU.out]; kernel_rfl
            obtain rfl : n1 = 0 := by rw [hfn.out, hfU.out]; kernel_rfl
            clear hwrap
            go_wp2_with fail
            go_roundw
            case rel => exact ⟨6 + 1, by go_num, by omega, hs38.out.tail (Step.alloc _)⟩
            case measure => simp [intOf]
          · obtain rfl : k0 = 3 := by rw [hk0H.out, hU0H.out]; kernel_rfl
            obtain rfl : n0 = 0 := by rw [hn0H.out, hU0H.out]; kernel_rfl
            obtain rfl : l0 = 0 := by rw [hl0H.out, hU0H.out]; kernel_rfl
            obtain rfl : k1 = 3 := by rw [hfk.out, hfU.out]; kernel_rfl
            obtain rfl : n1 = 5 := by rw [hfn.out, hfU.out]; kernel_rfl
            clear hwrap
            go_wp2_with fail
            go_roundw
            case rel => exact ⟨7 + 1, by go_num, by omega, hs38.out.tail (Step.alloc _)⟩
            case measure => simp [intOf]
    · obtain rfl : i = 8 := by omega
      have hnew := Lib.hid (new_at (K := 1) (N := []) (by omega) htW.out hst (by simp))
      have hadd1 := Lib.hid (add_sum (st := startA 1) (st' := ⟨1, .mk 4 9223372036854775807 [] [] [] [], 0⟩) (er := 0) 4 9223372036854775807 [] htW.out (by omega) (by decide) (by simp) (by decide) (by kernel_rfl))
      have hadd2 := Lib.hid (add_sum (st := ⟨1, .mk 4 9223372036854775807 [] [] [] [], 0⟩) (st' := ⟨1, .mk 4 9223372036854775807 [] [] [] [], 0⟩) (er := 10) 4 1 [] htW.out (by omega) (by decide) (by simp) (by decide) (by kernel_rfl))
      have hadd3 := Lib.hid (add_sum (st := ⟨1, .mk 4 9223372036854775807 [] [] [] [], 0⟩) (st' := ⟨2, .mk 4 9223372036854775806 [] [] [] [], 0⟩) (er := 0) 4 (-1) [] htW.out (by omega) (by decide) (by simp) (by decide) (by kernel_rfl))
      have hkind := Lib.hid (fun W => acc_kind [115, 117, 109] W)
      rw [show kindOf [115, 117, 109] = 0 from by decide] at hkind
      have hstH := Lib.hid hst
      clear hst
      go_wp2_with fail
      refine hnew.out.mono ?_
      rintro e w1 ⟨S, rfl, -, hA1, hs1⟩
      have hA1H := Lib.hid hA1
      have hs1H := Lib.hid (hstH.out.tail hs1)
      clear hA1 hs1
      go_wp2_with fail
      refine (hn.out _ _).mono ?_
      rintro e v2 ⟨rfl, hv2⟩
      have hv2H := Lib.hid hv2
      clear hv2
      go_wp2_with fail
      refine (hadd1.out _ _ _ (hs1H.out.tail hv2H.out) (hA1H.out.step hv2H.out)).mono ?_
      rintro e w2 ⟨rfl, hA2, hs2⟩
      have hA2H := Lib.hid hA2
      have hs2H := Lib.hid (hs2.all (hs1H.out.tail hv2H.out))
      clear hA2 hs2
      go_wp2_with fail
      refine (hn.out _ _).mono ?_
      rintro e v3 ⟨rfl, hv3⟩
      have hv3H := Lib.hid hv3
      clear hv3
      go_wp2_with fail
      refine (hadd2.out _ _ _ (hs2H.out.tail hv3H.out) (hA2H.out.step hv3H.out)).mono ?_
      rintro e w3 ⟨rfl, hA3, hs3⟩
      have hA3H := Lib.hid hA3
      have hs3H := Lib.hid (hs3.all (hs2H.out.tail hv3H.out))
      clear hA3 hs3
      go_wp2_with fail
      refine (hn.out _ _).mono ?_
      rintro e v4 ⟨rfl, hv4⟩
      have hv4H := Lib.hid hv4
      clear hv4
      go_wp2_with fail
      refine (hadd3.out _ _ _ (hs3H.out.tail hv4H.out) (hA3H.out.step hv4H.out)).mono ?_
      rintro e w4 ⟨rfl, hA4, hs4⟩
      have hA4H := Lib.hid hA4
      have hs4H := Lib.hid (hs4.all (hs3H.out.tail hv4H.out))
      clear hA4 hs4
      go_wp2_with fail
      refine (value_at (by omega) hA4H.out (by decide) (by decide)).mono ?_
      rintro e w5 ⟨ds, rfl, hx, hs5⟩
      have hval : valueA 1 ⟨2, .mk 4 9223372036854775806 [] [] [] [], 0⟩ = .mk 4 9223372036854775806 [] [] [] [] := by kernel_rfl
      rw [hval] at hx
      obtain ⟨s2, ba2, bn2, bc2, fa2, fn2, fc2, la2, ln2, lc2, hds, -⟩ := hx.six
      simp only [Val.kind, Val.num] at hds
      subst hds
      have hs5H := Lib.hid (hs4H.out.tail hs5)
      clear hx hs5 hval
      have hfld : ∀ w' : World, (Instr.field 32 (.agg #[.int .i64 4, .int .i64 9223372036854775806, .string s2, .slice ba2 bn2 bc2, .slice fa2 fn2 fc2, .slice la2 ln2 lc2]) 1).run Tryd.prog w' = .ok (.int .i64 9223372036854775806) w' := fun _ => by kernel_rfl
      go_wp2_with fail
      refine (hkind.out _).mono ?_
      rintro e w6 ⟨rfl, rfl⟩
      go_wp2_with fail
      go_ret
      exact ⟨rfl, hs03H.out.tail hs5H.out⟩
end Go.Proofs.YtembpajlllnncaaDoor
