/- Documents, plain: numbers' bytes, digits, texts. -/
import Derived.Test.YtbkmnhogfegmcaaDoorBsV
set_option linter.unusedVariables false
set_option linter.unusedSimpArgs false
namespace Go.Proofs.YtbkmnhogfegmcaaDoor

theorem layI_length (w : Nat) (n : Int) : (layI w n).length = w := leBytes_length _ _
theorem leVal_layI (w : Nat) (n : Int) : leVal (layI w n) = (n % 18446744073709551616).toNat % 256 ^ w := leVal_leBytes _ _
theorem numAt_at {pre x post : Bs} {a w : Nat} (ha : a = pre.length) (hw : x.length = w) : numAt (pre ++ (x ++ post)) a w = leVal x := by
  unfold numAt
  subst ha hw
  rw [List.drop_append, List.drop_of_length_le (Nat.le_refl _), List.nil_append, Nat.sub_self, List.drop_zero, List.take_append_of_le_length (Nat.le_refl _), List.take_of_length_le (Nat.le_refl _)]
/-- A number within 32 bits comes back. -/
theorem signed_lay4 {n : Int} (h0 : -2147483648 ≤ n) (h1 : n ≤ 2147483647) : signed 4 (leVal (layI 4 n)) = n := by
  rw [leVal_layI]
  unfold signed
  have e : (256 : Nat) ^ 4 = 4294967296 := rfl
  rw [e]
  simp only [show 8 * 4 - 1 = 31 from rfl, show 8 * 4 = 32 from rfl, show (2 : Nat) ^ 31 = 2147483648 from rfl, show (2 : Int) ^ 32 = 4294967296 from rfl]
  split <;> omega
theorem signed_lay8 {n : Int} (h0 : -9223372036854775808 ≤ n) (h1 : n ≤ 9223372036854775807) : signed 8 (leVal (layI 8 n)) = n := by
  rw [leVal_layI]
  unfold signed
  have e : (256 : Nat) ^ 8 = 18446744073709551616 := rfl
  rw [e]
  simp only [show 8 * 8 - 1 = 63 from rfl, show 8 * 8 = 64 from rfl, show (2 : Nat) ^ 63 = 9223372036854775808 from rfl, show (2 : Int) ^ 64 = 18446744073709551616 from rfl]
  split <;> omega
theorem leVal_lay1 {n : Int} (h0 : 0 ≤ n) (h1 : n ≤ 255) : leVal (layI 1 n) = n.toNat := by
  rw [leVal_layI]
  have e : (256 : Nat) ^ 1 = 256 := rfl
  rw [e]; omega

/-! digits -/
theorem itoa_small {n : Nat} (h : n < 10) : itoa n = [UInt8.ofNat (48 + n)] := by rw [itoa, dif_pos h]
theorem itoa_big {n : Nat} (h : ¬ n < 10) : itoa n = itoa (n / 10) ++ [UInt8.ofNat (48 + n % 10)] := by rw [itoa, dif_neg h]
def digitOk (c : UInt8) : Prop := 48 ≤ c.toNat ∧ c.toNat ≤ 57
theorem itoa_digits (n : Nat) : ∀ c ∈ itoa n, digitOk c := by
  induction n using Nat.strongRecOn with
  | _ n ih =>
    by_cases h : n < 10
    · rw [itoa_small h]
      intro c hc
      rw [List.mem_singleton] at hc
      subst hc
      unfold digitOk
      rw [UInt8.toNat_ofNat']; omega
    · rw [itoa_big h]
      intro c hc
      rw [List.mem_append, List.mem_singleton] at hc
      rcases hc with hc | rfl
      · exact ih _ (by omega) c hc
      · unfold digitOk
        rw [UInt8.toNat_ofNat']; omega
/-- The number that digits say. -/
def digitVal (l : Bs) : Nat := l.foldl (fun n c => n * 10 + (c.toNat - 48)) 0
theorem digitVal_itoa (n : Nat) : digitVal (itoa n) = n := by
  induction n using Nat.strongRecOn with
  | _ n ih =>
    by_cases h : n < 10
    · rw [itoa_small h]
      simp only [digitVal, List.foldl_cons, List.foldl_nil, UInt8.toNat_ofNat']
      omega
    · rw [itoa_big h]
      have h1 := ih (n / 10) (by omega)
      unfold digitVal at h1 ⊢
      rw [List.foldl_append, h1]
      simp only [List.foldl_cons, List.foldl_nil, UInt8.toNat_ofNat']
      omega
theorem itoa_inj {m n : Nat} (h : itoa m = itoa n) : m = n := by
  have := congrArg digitVal h
  rwa [digitVal_itoa, digitVal_itoa] at this
theorem itoa_length : ∀ (k n : Nat), n < 10 ^ (k + 1) → (itoa n).length ≤ k + 1
  | 0, n, h => by rw [itoa_small (by omega)]; simp
  | k + 1, n, h => by
    by_cases h1 : n < 10
    · rw [itoa_small h1]; simp
    · rw [itoa_big h1, List.length_append, List.length_singleton]
      have := itoa_length k (n / 10) (by rw [Nat.pow_succ] at h; omega)
      omega
theorem itoa_pos (n : Nat) : itoa n ≠ [] := by
  by_cases h : n < 10
  · rw [itoa_small h]; simp
  · rw [itoa_big h]; simp

/-- Bytes below 128 are a text. -/
theorem utf8_ascii : ∀ l : Bs, (∀ c ∈ l, c.toNat < 128) → utf8 l = true
  | [], _ => by rw [utf8]
  | c :: r, h => by
    have h1 : c < 128 := by
      have := h c (List.mem_cons_self ..)
      exact UInt8.lt_iff_toNat_lt.2 (by simpa using this)
    unfold utf8
    rw [if_pos h1]
    exact utf8_ascii r fun x hx => h x (List.mem_cons_of_mem _ hx)
theorem itoa_nameOk {n : Nat} (h : n < 10 ^ 20) : nameOk (itoa n) = true := by
  have hd := itoa_digits n
  unfold nameOk
  rw [utf8_ascii _ (fun c hc => by have := hd c hc; unfold digitOk at this; omega)]
  have h1 := itoa_length 19 n h
  have h2 : (0 : UInt8) ∉ itoa n := fun hc => by
    have := hd 0 hc
    unfold digitOk at this
    simp at this
  simp [h2]; omega

/-! the first 0 -/
theorem zeroFrom_at {pre nm post : Bs} {a : Nat} (ha : a = pre.length) (h0 : (0 : UInt8) ∉ nm) : zeroFrom (pre ++ (nm ++ (0 :: post))) a = some nm.length := by
  unfold zeroFrom
  subst ha
  rw [List.drop_append, List.drop_of_length_le (Nat.le_refl _), List.nil_append, Nat.sub_self, List.drop_zero]
  induction nm with
  | nil => rfl
  | cons c r ih =>
    have hc : ¬ (c == 0) = true := by
      simp only [beq_iff_eq]
      intro e
      exact h0 (by rw [e]; exact List.mem_cons_self ..)
    rw [List.cons_append, List.findIdx?_cons, if_neg hc, ih (fun h => h0 (List.mem_cons_of_mem _ h))]
    rfl
theorem zeroFrom_some {b : Bs} {a n : Nat} (h : zeroFrom b a = some n) : a + n < b.length ∧ (b.drop a).getD n 1 = 0 ∧ (0 : UInt8) ∉ (b.drop a).take n := by
  unfold zeroFrom at h
  rw [List.findIdx?_eq_some_iff_getElem] at h
  obtain ⟨h1, h2, h3⟩ := h
  rw [List.length_drop] at h1
  refine ⟨by omega, ?_, ?_⟩
  · rw [List.getD_eq_getElem?_getD, List.getElem?_eq_getElem (by rw [List.length_drop]; omega)]
    simpa using h2
  · intro hm
    rw [List.mem_take_iff_getElem] at hm
    obtain ⟨j, hj, e⟩ := hm
    have := h3 j (by omega)
    rw [e] at this
    simp at this
end Go.Proofs.YtbkmnhogfegmcaaDoor
