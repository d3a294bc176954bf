/- A value in a value in a value, plain: what it is, its bytes, that it is too deep. -/
import Derived.Test.YtbkmnhogfegmcaaDoorBsD
set_option linter.unusedVariables false
set_option linter.unusedSimpArgs false
namespace Go.Proofs.YtbkmnhogfegmcaaDoor

def chain (t : Nat → Bool) : Nat → Val
  | 0 => .mk 3 7 [] [] [] []
  | i + 1 => if t i then .list [chain t i] else .doc [([97], chain t i)]
theorem chain_list {t : Nat → Bool} {i : Nat} (h : t i = true) : chain t (i + 1) = .list [chain t i] := by rw [chain, if_pos h]
theorem chain_doc {t : Nat → Bool} {i : Nat} (h : t i = false) : chain t (i + 1) = .doc [([97], chain t i)] := by rw [chain, if_neg (by rw [h]; simp)]
theorem itoa_zero : itoa 0 = [48] := by rw [itoa]; rfl
theorem nameOk_a : nameOk [97] = true := by decide
theorem nameOk_0 : nameOk [48] = true := by decide

theorem chain_okV (t : Nat → Bool) : ∀ (i deep : Nat), deep ≤ 32 → (okV deep (chain t i) = true ↔ deep + i ≤ 32)
  | 0, deep, h => by simp [chain, okV, Val.plain, codeOf, h]
  | i + 1, deep, h => by
    cases ht : t i
    · rw [chain_doc ht]
      by_cases hd : deep + 1 ≤ 32
      · have ih := chain_okV t i (deep + 1) hd
        simp [Val.doc, okV, okFs, Val.plain, codeOf, nameOk_a, hd, ih]; omega
      · simp [Val.doc, okV, okFs, Val.plain, codeOf, hd]; omega
    · rw [chain_list ht]
      by_cases hd : deep + 1 ≤ 32
      · have ih := chain_okV t i (deep + 1) hd
        simp [Val.list, okV, okLs, Val.plain, codeOf, hd, ih]; omega
      · simp [Val.list, okV, okLs, Val.plain, codeOf, hd]; omega

def chainName (t : Nat → Bool) (i : Nat) : Bs := if t i then [48] else [97]
def chainCode (t : Nat → Bool) : Nat → UInt8
  | 0 => 16
  | i + 1 => if t i then 4 else 3
theorem chainName_len (t : Nat → Bool) (i : Nat) : (chainName t i).length = 1 := by unfold chainName; split <;> rfl
theorem chain_code (t : Nat → Bool) (i : Nat) : codeOf (chain t i).kind = chainCode t i := by
  cases i with
  | zero => rfl
  | succ i =>
    cases ht : t i
    · rw [chain_doc ht, chainCode, ht]; rfl
    · rw [chain_list ht, chainCode, ht]; rfl
/-- What stands between a link's length and its end. -/
def chainBody (t : Nat → Bool) (i : Nat) : Bs := chainCode t i :: (chainName t i ++ (0 :: encV (chain t i)))
theorem chain_enc (t : Nat → Bool) (i : Nat) : encV (chain t (i + 1)) = wrapDoc (chainBody t i) := by
  unfold chainBody
  cases ht : t i
  · rw [chain_doc ht, ← chain_code]; simp [Val.doc, encV, encFs, chainName, ht]
  · rw [chain_list ht, ← chain_code]; simp [Val.list, encV, encLs, chainName, ht, itoa_zero]
theorem chain_len (t : Nat → Bool) : ∀ i, (encV (chain t i)).length = 4 + 8 * i
  | 0 => by simp [chain, encV, layI_length]
  | i + 1 => by
    rw [chain_enc, wrapDoc_length, chainBody]
    simp only [List.length_cons, List.length_append, chainName_len, chain_len t i]; omega
theorem body_len (t : Nat → Bool) (i : Nat) : (chainBody t i).length = 7 + 8 * i := by
  rw [chainBody]
  simp only [List.length_cons, List.length_append, chainName_len, chain_len t i]; omega
theorem lay4_small {n : Nat} (h : n < 65536) : layI 4 (n : Int) = [UInt8.ofNat n, UInt8.ofNat (n / 256), 0, 0] := by
  have e : ((n : Int) % 18446744073709551616).toNat = n := by omega
  have e2 : n / 256 / 256 = 0 := by omega
  rw [layI, e]
  simp [leBytes, e2]
/-- The next link, as one lays it by hand. -/
theorem chain_raw (t : Nat → Bool) (i : Nat) (hi : i ≤ 40) : encV (chain t (i + 1)) =
    [UInt8.ofNat (12 + 8 * i), UInt8.ofNat ((12 + 8 * i) / 256), 0, 0, chainCode t i] ++ chainName t i ++ [0] ++ encV (chain t i) ++ [0] := by
  have e : (7 + 8 * i) + 5 = 12 + 8 * i := by omega
  rw [chain_enc, wrapDoc, body_len, e, lay4_small (by omega), chainBody]
  simp
theorem chain_okDoc {t : Nat → Bool} {i : Nat} (ht : t i = false) (hi : i ≤ 40) : okDoc (chain t (i + 1)) = decide (i + 1 ≤ 32) := by
  have h1 := chain_okV t i 1 (by omega)
  have h2 := chain_len t (i + 1)
  rw [chain_doc ht] at h2 ⊢
  have h3 : encV (.doc [([97], chain t i)]) = wrapDoc (encFs [([97], chain t i)]) := by simp [Val.doc, encV]
  rw [h3] at h2
  rw [Bool.eq_iff_iff, decide_eq_true_eq]
  unfold okDoc
  simp only [Val.doc, Val.kind, Val.f, Val.plain, okFs, Bool.and_eq_true, decide_eq_true_eq]
  rw [h1]
  constructor
  · rintro ⟨⟨_, ⟨_, h⟩, _⟩, _⟩; omega
  · intro h
    refine ⟨⟨⟨trivial, by simp⟩, ⟨⟨nameOk_a, by simp⟩, by omega⟩, trivial⟩, ?_⟩
    have : (wrapDoc (encFs [([97], chain t i)])).length = 4 + 8 * (i + 1) := h2
    exact decide_eq_true (by omega)

/-- A field that is bad: so are the fields. -/
theorem decFs_one_bad {b : Bs} {rec_ : Bool → Nat → Res (List (Bs × Val))} {items : Bool} {fuel : Nat} {acc : List (Bs × Val)} {a : Nat} {nm rest : Bs} {kind : UInt8} {e : Int}
    (hk : known kind = true) (hk0 : kind ≠ 0) (h : At b a (kind :: (nm ++ (0 :: rest)))) (hnm : nameOk nm = true) (hit : items = true → nm = itoa acc.length) (hno : nm ∉ acc.map (·.1))
    (hv : decV b rec_ kind (a + 1 + nm.length + 1) = .bad e) : decFs b rec_ items (fuel + 1) acc a = .bad e := by
  obtain ⟨h1, h2, h3⟩ := nameOk_parts hnm
  rw [decFs, h.head]
  simp only
  rw [if_neg hk0, hk, h.tail.zero h3]
  simp only [Bool.true_eq_false, if_false]
  rw [h.tail.left.bytes rfl, h1]
  simp only [Bool.true_eq_false, if_false]
  rw [if_neg (by omega), if_neg (fun e => e.2 (hit e.1)), if_neg hno, hv]
  rfl
/-- A document whose fields are bad. -/
theorem decDoc_fs_bad {b : Bs} {fuel deep : Nat} {items : Bool} {a : Nat} {body : Bs} {e : Int} (hd : deep ≤ 32) (h : At b a (wrapDoc body)) (hb : body.length ≤ 65536)
    (hf : decFs b (fun items a => decDoc b fuel (deep + 1) items a) items (b.length + 1) [] (a + 4) = .bad e) : decDoc b (fuel + 1) deep items a = .bad e := by
  have hle := h.le
  rw [wrapDoc_length] at hle
  have hnum : signed 4 (numAt b a 4) = (body.length : Int) + 5 := by
    unfold wrapDoc at h
    rw [h.left.num (layI_length _ _), signed_lay4 (by omega) (by omega)]; push_cast; rfl
  rw [decDoc, if_neg (by omega), if_neg (by omega)]
  simp only [hnum]
  rw [if_neg (by omega), hf]
  rfl
theorem code_good (t : Nat → Bool) (i : Nat) : known (chainCode t i) = true ∧ chainCode t i ≠ 0 := by
  cases i with
  | zero => exact ⟨show known 16 = true by decide, show (16 : UInt8) ≠ 0 by decide⟩
  | succ i => rw [chainCode]; split <;> exact ⟨by decide, by decide⟩

/-- The fields of a link that is too deep. -/
theorem chain_bad (t : Nat → Bool) (b : Bs) : ∀ (i deep a fuel : Nat) (items : Bool), 32 < deep + i → At b a (wrapDoc (chainBody t i)) → (items = true → t i = true) → i ≤ 40 → 34 ≤ fuel + deep → decDoc b fuel deep items a = .bad 7
  | i, deep, a, 0, items, h, hat, hit, hi, hfu => by rw [decDoc]
  | i, deep, a, fuel + 1, items, h, hat, hit, hi, hfu => by
    by_cases hd : deep ≤ 32
    · refine decDoc_fs_bad hd hat (by rw [body_len]; omega) ?_
      have hat2 : At b (a + 4) (chainBody t i ++ [0]) := by
        have := hat.right
        rw [layI_length] at this
        exact this
      have hat3 : At b (a + 4) (chainCode t i :: (chainName t i ++ (0 :: encV (chain t i)))) := hat2.left
      obtain ⟨k1, k2⟩ := code_good t i
      refine decFs_one_bad k1 k2 hat3 (by unfold chainName; split <;> first | exact nameOk_0 | exact nameOk_a) (fun e => by unfold chainName; rw [if_pos (hit e), List.length_nil, itoa_zero]) (by simp) ?_
      have hatv : At b (a + 4 + 1 + (chainName t i).length + 1) (encV (chain t i)) := hat3.tail.right.tail
      obtain ⟨j, rfl⟩ : ∃ j, i = j + 1 := ⟨i - 1, by omega⟩
      rw [chain_enc] at hatv
      rw [chainCode]
      cases htj : t j
      · have hr := chain_bad t b j (deep + 1) _ fuel false (by omega) hatv (fun e => by cases e) (by omega) (by omega)
        simp only [Bool.false_eq_true, if_false]
        unfold decV
        rw [if_neg (by decide), if_pos rfl]; exact congrArg (fun r => Res.bind r _) hr
      · have hr := chain_bad t b j (deep + 1) _ fuel true (by omega) hatv (fun _ => htj) (by omega) (by omega)
        simp only [if_true]
        unfold decV
        rw [if_neg (by decide), if_neg (by decide), if_pos rfl]; exact congrArg (fun r => Res.bind r _) hr
    · rw [decDoc, if_pos (by omega)]
/-- Its bytes are none of a document's: too deep. -/
theorem chain_decode {t : Nat → Bool} {i : Nat} (h : 32 ≤ i) (hi : i ≤ 40) : decode (encV (chain t (i + 1))) = .bad 7 := by
  have hl := chain_len t (i + 1)
  have hb := body_len t i
  have hat : At (encV (chain t (i + 1))) 0 (wrapDoc (chainBody t i)) := by rw [chain_enc]; exact At.refl _
  have hnum : signed 4 (numAt (encV (chain t (i + 1))) 0 4) = ((chainBody t i).length : Int) + 5 := by
    unfold wrapDoc at hat
    rw [hat.left.num (layI_length _ _), signed_lay4 (by omega) (by omega)]; push_cast; rfl
  unfold decode
  rw [if_neg (by omega), if_neg (by omega), hnum, if_neg (by omega), if_neg (by omega)]
  by_cases ht : t i = true
  · rw [chain_bad t _ i 1 0 34 false (by omega) hat (fun e => by cases e) hi (by omega)]; rfl
  · rw [chain_bad t _ i 1 0 34 false (by omega) hat (fun e => by cases e) hi (by omega)]; rfl
end Go.Proofs.YtbkmnhogfegmcaaDoor
