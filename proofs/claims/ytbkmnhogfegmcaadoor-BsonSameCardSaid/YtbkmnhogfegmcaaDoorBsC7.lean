/- The law BsonSame. -/
import Derived.Test.YtbkmnhogfegmcaaDoorBsC6
set_option linter.unusedVariables false
set_option linter.unusedSimpArgs false
namespace Go.Proofs.YtbkmnhogfegmcaaDoor
open Go.RowKit

theorem strOf_app (l m : Bs) : strOf l ++ strOf m = strOf (l ++ m) := by
  unfold strOf
  apply ByteArray.ext
  simp
/-- The first names have an x behind; the first bytes are one more. -/
def renF (j : Nat) (f : List (Bs × Val)) : List (Bs × Val) := f.mapIdx fun i p => if i < j then (p.1 ++ [120], p.2) else p
def incB (j : Nat) (b : Bs) : Bs := b.mapIdx fun i u => if i < j then u + 1 else u
@[simp] theorem renF_len (j : Nat) (f : List (Bs × Val)) : (renF j f).length = f.length := by simp [renF]
@[simp] theorem incB_len (j : Nat) (b : Bs) : (incB j b).length = b.length := by simp [incB]
theorem renF_get (j : Nat) (f : List (Bs × Val)) (i : Nat) (h : i < f.length) : (renF j f)[i]'(by simpa using h) = if i < j then (f[i].1 ++ [120], f[i].2) else f[i] := by simp [renF]
theorem incB_get (j : Nat) (b : Bs) (i : Nat) (h : i < b.length) : (incB j b)[i]'(by simpa using h) = if i < j then b[i] + 1 else b[i] := by simp [incB]
theorem renF_zero (f : List (Bs × Val)) : renF 0 f = f := List.ext_getElem (by simp) fun i h1 h2 => by rw [renF_get 0 f i h2]; simp
theorem incB_zero (b : Bs) : incB 0 b = b := List.ext_getElem (by simp) fun i h1 h2 => by rw [incB_get 0 b i h2]; simp
theorem incB_set (j : Nat) (b : Bs) (h : j < b.length) : (incB j b).set j (b[j] + 1) = incB (j + 1) b := by
  refine List.ext_getElem (by simp) fun i h1 h2 => ?_
  have hi : i < b.length := by simpa using h2
  rw [incB_get _ b i hi, List.getElem_set]
  by_cases hij : j = i
  · subst hij; simp
  · rw [if_neg hij, incB_get _ b i hi]
    by_cases h3 : i < j
    · rw [if_pos h3, if_pos (by omega)]
    · rw [if_neg h3, if_neg (by omega)]
theorem renF_same (f : List (Bs × Val)) : f = renF f.length f ↔ f = [] := by
  constructor
  · intro h
    cases f with
    | nil => rfl
    | cons p r =>
      exfalso
      have h1 := renF_get (p :: r).length (p :: r) 0 (by simp)
      simp only [List.length_cons, Nat.zero_lt_succ, if_true, List.getElem_cons_zero] at h1
      have h2 : (renF (r.length + 1) (p :: r))[0]'(by simp) = p := by
        have h3 : (p :: r)[0]'(by simp) = (renF (p :: r).length (p :: r))[0]'(by simp) := by congr 1
        exact h3.symm
      rw [h1] at h2
      have h4 := congrArg (fun q : Bs × Val => q.1.length) h2
      simp at h4
  · intro h; subst h; rfl
theorem incB_same (b : Bs) : b = incB b.length b ↔ b = [] := by
  constructor
  · intro h
    cases b with
    | nil => rfl
    | cons p r =>
      exfalso
      have h1 := incB_get (p :: r).length (p :: r) 0 (by simp)
      simp only [List.length_cons, Nat.zero_lt_succ, if_true, List.getElem_cons_zero] at h1
      have h2 : (incB (r.length + 1) (p :: r))[0]'(by simp) = p := by
        have h3 : (p :: r)[0]'(by simp) = (incB (p :: r).length (p :: r))[0]'(by simp) := by congr 1
        exact h3.symm
      rw [h1] at h2
      have h4 := congrArg UInt8.toNat h2
      have h5 := p.toNat_lt
      rw [UInt8.toNat_add] at h4
      simp at h4
      omega
  · intro h; subst h; rfl
section
variable {P : Nat → Nat → Prop} {w : World}
theorem FRow.rename {f : List (Bs × Val)} {xs : List Value} {j : Nat} (h : FRow P w (renF j f) xs) (hj : j < f.length) (hl : f[j].1.length ≤ 3000) :
    FRow P w (renF (j + 1) f) (xs.set (j * 7) (.string (strOf (f[j].1 ++ [120])))) := by
  refine ⟨by rw [List.length_set, h.1]; simp, fun i hi => ?_⟩
  have hi' : i < f.length := by simpa using hi
  obtain ⟨h1, cs, h2, h3⟩ := h.2 i (by simpa using hi')
  have e1 := renF_get j f i hi'
  have e2 := renF_get (j + 1) f i hi'
  by_cases hij : i = j
  · subst hij
    rw [if_neg (by omega)] at e1
    rw [if_pos (by omega)] at e2
    rw [e1] at h1 h2 h3
    rw [e2]
    refine ⟨by simp; omega, cs, piece_is (by simp [h3.len]) (fun t ht => ?_), h3⟩
    cases t with
    | zero => rw [Nat.add_zero, List.getElem?_set_self (by rw [h.1]; simp; omega)]; rfl
    | succ t =>
      rw [List.getElem?_set_ne (by omega), ← piece_get 7 xs i (t + 1) ht, h2]; rfl
  · have e3 : (renF (j + 1) f)[i] = (renF j f)[i]'(by simpa using hi') := by
      rw [e1, e2]
      by_cases h3 : i < j
      · rw [if_pos h3, if_pos (by omega)]
      · rw [if_neg h3, if_neg (by omega)]
    rw [e3]
    exact ⟨h1, cs, (piece_ext fun t ht => List.getElem?_set_ne (by omega)).trans h2, h3⟩
end
theorem weightFs_name : ∀ (f : List (Bs × Val)) (i : Nat) (h : i < f.length), f[i].1.length ≤ weightFs f
  | (nm, v) :: r, 0, _ => by simp [weightFs]; omega
  | (nm, v) :: r, i + 1, h => by
    have := weightFs_name r i (by simpa using h)
    simp [weightFs]; omega
theorem row_put {w : World} {g n c : Nat} {l : Bs} (h : Row w (.slice (some ⟨g, 0, none⟩) n c) l) (hn : n = l.length) (j : Nat) (hj : j < l.length) (u : UInt8) :
    Row (w.setCell ⟨g, j, none⟩ (.int .u8 (u.toNat : Int))) (.slice (some ⟨g, 0, none⟩) n c) (l.set j u) ∧ w.grownBy (w.setCell ⟨g, j, none⟩ (.int .u8 (u.toNat : Int))) (some g) := by
  subst hn
  unfold Row at h
  obtain ⟨h1, h2⟩ := h.stored j (.int .u8 (u.toNat : Int))
  refine ⟨?_, h2⟩
  unfold Row
  have e : byteVals (l.set j u) = (byteVals l).set j (.int .u8 (u.toNat : Int)) := by simp [byteVals, List.map_set]
  rw [e, List.length_set]
  exact h1
end Go.Proofs.YtbkmnhogfegmcaaDoor
