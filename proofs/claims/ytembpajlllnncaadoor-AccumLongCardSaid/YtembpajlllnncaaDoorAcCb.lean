/- Accumulators: how bytes compare. -/
import Derived.Test.YtembpajlllnncaaDoorAcH
import Derived.Lib.BytesEntry
import Derived.Lib.Bytealg
set_option linter.unusedVariables false
set_option linter.unusedSimpArgs false
namespace Go.Proofs.YtembpajlllnncaaDoor
open Go.RowKit

theorem cmpB_eq : ∀ a b : Bs, cmpB a b = Lib.compareBytes a b
  | [], [] => rfl
  | [], _ :: _ => rfl
  | _ :: _, [] => rfl
  | a :: r, b :: s => by rw [cmpB, Lib.compareBytes, cmpB_eq r s]
theorem run_bytesOf {P : Nat → Prop} {w : World} {v : Value} {l : Bs} (h : BIn P w v l) : (Extern.Bytes.bytesOf v).run Tryd.prog w = .ok ⟨l.toArray⟩ w := by
  rcases h with ⟨a, c, rfl, rfl, _⟩ | ⟨b, o, c, rfl, _, _, h⟩
  · cases a with
    | none => rfl
    | some a => simp [Extern.Bytes.bytesOf, Extern.Bytes.loadBytes]; rfl
  · have hl := Lib.run_loadBytesX (P := Tryd.prog) w (nums l) ⟨b, o, none⟩ .empty (fun j x hj => by
      have hjl : j < l.length := by have := (List.getElem?_eq_some_iff.1 hj).1; simpa using this
      rw [addr_add, h j hjl]
      simp only [nums, List.getElem?_map, List.getElem?_eq_getElem hjl, Option.map_some, Option.some.injEq] at hj
      rw [hj])
    rw [nums_length, bytesOf_nums] at hl
    simp only [Extern.Bytes.bytesOf]
    rw [hl]
    congr 1
    apply ByteArray.ext
    simp
theorem run_compare {P Q : Nat → Prop} {w : World} {v u : Value} {a b : Bs} (ha : BIn P w v a) (hb : BIn Q w u b) : (Extern.BytealgCompare.compare #[v, u]).run Tryd.prog w = .ok (.int .i64 (cmpB a b)) w := by
  change Sem.run _ (do pure (goInt (Extern.BytealgCompare.cmp (← Extern.Bytes.bytesOf v) (← Extern.Bytes.bytesOf u)))) w = _
  simp only [Sem.run_bind, run_bytesOf ha, run_bytesOf hb, Result.andThen, Sem.run_pure]
  rw [Lib.cmp_eq, cmpB_eq]
  simp [goInt]
set_option maxRecDepth 100000 in
theorem bytes_cmp {P Q : Nat → Prop} {w : World} {v u : Value} {a b : Bs} (ha : BIn P w v a) (hb : BIn Q w u b) : Calls Tryd.prog 76 #[v, u] w fun e w' => e = .returned (.int .i64 (cmpB a b)) ∧ w = w' := by
  have hcf : (callFunc 91 #[v, u]).run Tryd.prog w = .ok (.value (.int .i64 (cmpB a b))) w := by
    rw [run_callFunc_extern Tryd.func91 (by kernel_rfl) (by kernel_rfl) (by kernel_rfl) (e := Extern.BytealgCompare.compare) (by kernel_rfl), run_compare ha hb]
    rfl
  obtain ⟨C, hC⟩ : ∃ C, C = cmpB a b := ⟨_, rfl⟩
  rw [← hC] at hcf ⊢
  clear ha hb hC
  go_enter Tryd.func76, Tryd.ntmps76
  go_wp2_with fail
  go_ret
  exact ⟨rfl, rfl⟩
/-- The first that is not 0. -/
def orL : List Int → Int
  | [] => 0
  | a :: r => if a ≠ 0 then a else orL r
theorem orL_two (a b : Int) : orL [a, b] = orI a b := by
  unfold orI
  simp only [orL]
  by_cases h : a ≠ 0
  · rw [if_pos h, if_pos h]
  · rw [if_neg h, if_neg h]
    by_cases hb : b = 0
    · simp [hb]
    · simp [hb]
theorem orL_zero : ∀ (l : List Int), (∀ (q : Nat) (hq : q < l.length), l[q] = 0) → orL l = 0
  | [], _ => rfl
  | a :: r, h => by
    have h0 : a = 0 := h 0 (by simp)
    rw [orL, if_neg (by simp [h0])]
    exact orL_zero r (fun q hq => h (q + 1) (by simpa using hq))
theorem orL_at : ∀ (l : List Int) (j : Nat) (hj : j < l.length), (∀ (q : Nat) (hq : q < l.length), q < j → l[q] = 0) → l[j] ≠ 0 → orL l = l[j]
  | a :: r, 0, _, _, h => by rw [orL]; exact if_pos h
  | a :: r, j + 1, hj, hz, h => by
    have h0 : a = 0 := hz 0 (by simp) (by omega)
    rw [orL, if_neg (by simp [h0])]
    exact orL_at r j (by simpa using hj) (fun q hq hqj => hz (q + 1) (by simpa using hq) (by omega)) h
set_option maxRecDepth 100000 in
set_option maxHeartbeats 2000000 in
theorem cmp_or {w : World} {B n : Nat} {l : List Int} (hn : n = l.length) (hl : n ≤ 100) (hB : ∀ (j : Nat) (hj : j < l.length), w.cell? ⟨B, j, none⟩ = some (.int .i64 l[j])) : Calls Tryd.prog 75 #[.slice (some ⟨B, 0, none⟩) n n] w fun e w' => e = .returned (.int .i64 (orL l)) ∧ w = w' := by
  have hBH := Lib.hid hB
  have hnH := Lib.hid hn
  clear hB hn
  go_enter Tryd.func75, Tryd.ntmps75
  go_wp2_with fail
  go_loopw [8] (fun i wr => ∃ j : Nat, i = .int .i64 j ∧ j ≤ n ∧ w = wr ∧ (∀ (q : Nat) (hq : q < l.length), q < j → l[q] = 0)) (fun i _ => n - (intOf i).toNat)
  case atStart => exact ⟨0, rfl, Nat.zero_le _, rfl, fun q _ h => absurd h (Nat.not_lt_zero _)⟩
  case round =>
    obtain ⟨j, rfl, hj, rfl, hz⟩ := hrel
    have hzH := Lib.hid hz
    clear hz
    by_cases hjn : j < n
    · have hjn1 : (j : Int) < (n : Int) := by omega
      have hjl : j < l.length := by rw [← hnH.out]; exact hjn
      have q0 := hBH.out j hjl
      have hwrap : IntKind.i64.wrap ((j : Int) + 1) = (j : Int) + 1 := IntWalk.i64_in _ (by omega)
      obtain ⟨C, hC⟩ : ∃ C, C = l[j] := ⟨_, rfl⟩
      rw [← hC] at q0
      have hCH := Lib.hid hC
      clear hC
      by_cases hC0 : C = 0
      · have hCb : (C != 0) = false := by rw [hC0]; rfl
        go_wp2_with fail
        go_roundw
        case rel =>
          refine ⟨j + 1, by go_num, by omega, trivial, fun q hq hqj => ?_⟩
          by_cases hqe : q = j
          · subst hqe; rw [← hCH.out]; exact hC0
          · exact hzH.out q hq (by omega)
        case measure => simp [intOf]; omega
      · have hCb : (C != 0) = true := by rw [bne_iff_ne]; exact hC0
        go_wp2_with fail
        go_ret
        refine ⟨?_, rfl⟩
        rw [orL_at l j hjl hzH.out (by rw [← hCH.out]; exact hC0), ← hCH.out]
        rfl
    · have hjn1 : ¬ (j : Int) < (n : Int) := by omega
      obtain rfl : j = n := by omega
      go_wp2_with fail
      go_ret
      refine ⟨?_, rfl⟩
      rw [orL_zero l (fun q hq => hzH.out q hq (by rw [hnH.out]; exact hq))]
      rfl
end Go.Proofs.YtembpajlllnncaaDoor
