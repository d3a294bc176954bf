/- bson: the fields that are being read: their row, their meaning. -/
import Derived.Test.YtbkmnhogfegmcaaDoorBsG6
set_option linter.unusedVariables false
set_option linter.unusedSimpArgs false
namespace Go.Proofs.YtbkmnhogfegmcaaDoor
open Go.RowKit

/-- A row's cells are these fields'. -/
def Flds (P : Nat → Prop) (w : World) : List (Bs × Val) → List Value → Prop
  | [], xs => xs = []
  | (s, v) :: r, xs => ∃ cs ys, xs = (.string (strOf s) :: cs) ++ ys ∧ s.length ≤ 140737488351232 ∧ VIs P w v cs ∧ Flds P w r ys
section
variable {P P2 : Nat → Prop} {w w' : World}
theorem Flds.keep (hP : ∀ k, P k → P2 k) (hk : ∀ k, P k → k < w.heap.size → w'.heap[k]? = w.heap[k]?) : ∀ (f : List (Bs × Val)) (xs : List Value), Flds P w f xs → Flds P2 w' f xs
  | [], xs, h => h
  | (s, v) :: r, xs, ⟨cs, ys, h1, h2, h3, h4⟩ => ⟨cs, ys, h1, h2, h3.keep hP hk, Flds.keep hP hk r ys h4⟩
theorem Flds.below : ∀ (f : List (Bs × Val)) (xs : List Value), Flds P w f xs → Flds (fun k => P k ∧ k < w.heap.size) w f xs
  | [], xs, h => h
  | (s, v) :: r, xs, ⟨cs, ys, h1, h2, h3, h4⟩ => ⟨cs, ys, h1, h2, VIs.below v cs h3, Flds.below r ys h4⟩
theorem Flds.snoc {s : Bs} {v : Val} {cs : List Value} (hs : s.length ≤ 140737488351232) (hv : VIs P w v cs) : ∀ (f : List (Bs × Val)) (xs : List Value), Flds P w f xs → Flds P w (f ++ [(s, v)]) (xs ++ (.string (strOf s) :: cs))
  | [], xs, h => ⟨cs, [], by rw [show xs = [] from h]; simp, hs, hv, rfl⟩
  | (t, u) :: r, xs, ⟨ds, ys, h1, h2, h3, h4⟩ => ⟨ds, ys ++ (.string (strOf s) :: cs), by rw [h1]; simp, h2, h3, Flds.snoc hs hv r ys h4⟩
theorem Flds.get : ∀ (f : List (Bs × Val)) (xs : List Value), Flds P w f xs → xs.length = f.length * 7 ∧ ∀ i (hi : i < f.length), f[i].1.length ≤ 140737488351232 ∧ ∃ cs, VIs P w f[i].2 cs ∧ ∀ t u, (Value.string (strOf f[i].1) :: cs)[t]? = some u → xs[i * 7 + t]? = some u
  | [], xs, h => ⟨by rw [show xs = [] from h]; rfl, fun i hi => by simp at hi⟩
  | (s, v) :: r, xs, ⟨cs, ys, h1, h2, h3, h4⟩ => by
    obtain ⟨g1, g2⟩ := Flds.get r ys h4
    have hl := h3.len
    refine ⟨by rw [h1]; simp only [List.length_append, List.length_cons, hl, g1]; omega, fun i hi => ?_⟩
    cases i with
    | zero =>
      refine ⟨h2, cs, h3, fun t u ht => ?_⟩
      have htl : t < (Value.string (strOf s) :: cs).length := by
        rcases Nat.lt_or_ge t (Value.string (strOf s) :: cs).length with h | h
        · exact h
        · have ht' : (Value.string (strOf s) :: cs)[t]? = some u := ht
          rw [List.getElem?_eq_none h] at ht'; cases ht'
      rw [h1, Nat.zero_mul, Nat.zero_add, List.getElem?_append_left htl]; exact ht
    | succ i =>
      obtain ⟨k1, ds, k2, k3⟩ := g2 i (by simpa using hi)
      refine ⟨k1, ds, k2, fun t u ht => ?_⟩
      have hlen : (Value.string (strOf s) :: cs).length = 7 := by simp [hl]
      rw [h1, List.getElem?_append_right (by rw [hlen]; omega), hlen, show (i + 1) * 7 + t - 7 = i * 7 + t by omega]
      exact k3 t u ht
/-- .. so they read as fields. -/
theorem FIs.ofRow {f : List (Bs × Val)} {xs : List Value} {va : Option Addr} {vc : Nat} (h : Flds P w f xs) (hown : w.ownsRow 0 44 7 (.slice va f.length vc) f.length xs) (hnew : ∀ k, (Value.slice va f.length vc).ownBlock = some k → P k) :
    FIs P w f va 0 ∧ f.length ≤ vc ∧ (va = none → vc = 0) := by
  obtain ⟨g1, g2⟩ := Flds.get f xs h
  rcases hown.2 with ⟨e, h0⟩ | ⟨g, cap, cur, e, hb, hgg, rest⟩
  · injection e with e1 e2 e3
    subst e1 e3
    refine ⟨FIs.of fun {i} hi => by omega, by omega, fun _ => rfl⟩
  · injection e with e1 e2 e3
    subst e1 e3
    refine ⟨FIs.of fun {i} hi => ?_, rest.1, fun h => by cases h⟩
    obtain ⟨k1, cs, k2, k3⟩ := g2 i hi
    refine ⟨g, 0, cs, rfl, hnew g rfl, k1, fun t u ht => ?_, k2⟩
    have h8 := World.ownsRow.cells hown (g := g) rfl (i * 7 + t) u (k3 t u ht)
    rw [addr_add] at h8
    simpa [Nat.add_assoc] using h8
end
theorem ownsRow_step {w w' : World} {base : Nat} {e : TypeId} {size n : Nat} {v : Value} {xs : List Value} {T : List Nat} (h : w.ownsRow base e size v n xs) (hs : Step T id id w w') (hV : ∀ k, v.ownBlock = some k → k ∉ T) : w'.ownsRow base e size v n xs :=
  ⟨h.1, h.2.imp id (fun ⟨g, cap, cur, e1, e2, e3, r⟩ => ⟨g, cap, cur, e1, e2, hs.at e3 (hV g (by rw [e1]; rfl)), r⟩)⟩

/-- One step of the fields' reading. -/
theorem decFs_step {b : Bs} {rec_ : Bool → Nat → Res (List (Bs × Val))} {items : Bool} {fl p : Nat} {acc : List (Bs × Val)} {k0 : UInt8} (hp : b[p]? = some k0) (hk : k0 ≠ 0) :
    decFs b rec_ items (fl + 1) acc p = if known k0 = false then .bad 9 else match nameRes b (p + 1) with
      | .bad e => .bad e
      | .ok s a1 => if items = true ∧ s ≠ itoa acc.length then .bad 4 else if s ∈ acc.map (·.1) then .bad 6 else
        (decV b rec_ k0 a1).bind fun v a => decFs b rec_ items fl (acc ++ [(s, v)]) a := by
  rw [decFs, hp]
  simp only
  rw [if_neg hk]
  by_cases h1 : known k0 = false
  · rw [if_pos h1, if_pos h1]
  rw [if_neg h1, if_neg h1]
  unfold nameRes
  cases hz : zeroFrom b (p + 1) with
  | none => rfl
  | some n =>
    simp only
    by_cases h2 : utf8 ((b.drop (p + 1)).take n) = false
    · rw [if_pos h2, if_pos h2]
    rw [if_neg h2, if_neg h2]
    by_cases h3 : 120 < ((b.drop (p + 1)).take n).length
    · rw [if_pos h3, if_pos h3]
    rw [if_neg h3, if_neg h3]
theorem nameRes_ok {b s : Bs} {a a1 : Nat} (h : nameRes b a = .ok s a1) : ∃ n, zeroFrom b a = some n ∧ s = (b.drop a).take n ∧ utf8 s = true ∧ n ≤ 120 ∧ a1 = a + n + 1 ∧ a + n < b.length := by
  unfold nameRes at h
  cases hz : zeroFrom b a with
  | none => rw [hz] at h; cases h
  | some n =>
    rw [hz] at h
    simp only at h
    obtain ⟨z1, -, -⟩ := zeroFrom_some hz
    split at h
    · cases h
    rename_i h2
    split at h
    · cases h
    rename_i h3
    cases h
    rw [take_len (by omega)] at h3
    exact ⟨n, rfl, rfl, by simpa using h2, by omega, rfl, z1⟩
theorem decV_gt {b : Bs} {rec_ : Bool → Nat → Res (List (Bs × Val))} {deep : Nat} (hrec : ∀ items a f a', rec_ items a = .ok f a' → DocIs b (deep + 1) items a f a') {k : UInt8} {a a' : Nat} {v : Val} (ha : a ≤ b.length) (h : decV b rec_ k a = .ok v a') : a ≤ a' ∧ a' ≤ b.length := by
  obtain ⟨h1, h2, _⟩ := decV_sound hrec ha h
  have := h1.le
  omega
end Go.Proofs.YtbkmnhogfegmcaaDoor
