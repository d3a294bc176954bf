/- Rows by pieces, clones. -/
import Derived.Test.YtembpajlllnncaaDoorAcK1
set_option linter.unusedVariables false
set_option linter.unusedSimpArgs false
namespace Go.Proofs.YtembpajlllnncaaDoor
open Go.RowKit

/-- The i-th piece of so many. -/
def piece {α : Type} (K : Nat) (xs : List α) (i : Nat) : List α := (xs.drop (i * K)).take K
theorem piece_get {α : Type} (K : Nat) (xs : List α) (i t : Nat) (ht : t < K) : (piece K xs i)[t]? = xs[i * K + t]? := by
  unfold piece
  rw [List.getElem?_take, if_pos ht, List.getElem?_drop]
theorem piece_ext {α : Type} {K : Nat} {xs ys : List α} {i : Nat} (h : ∀ t, t < K → xs[i * K + t]? = ys[i * K + t]?) : piece K xs i = piece K ys i := by
  apply List.ext_getElem?
  intro t
  by_cases ht : t < K
  · rw [piece_get K xs i t ht, piece_get K ys i t ht, h t ht]
  · rw [List.getElem?_eq_none (by unfold piece; rw [List.length_take]; omega), List.getElem?_eq_none (by unfold piece; rw [List.length_take]; omega)]
theorem piece_is {α : Type} {K : Nat} {xs l : List α} {i : Nat} (hl : l.length = K) (h : ∀ t, t < K → xs[i * K + t]? = l[t]?) : piece K xs i = l := by
  apply List.ext_getElem?
  intro t
  by_cases ht : t < K
  · rw [piece_get K xs i t ht, h t ht]
  · rw [List.getElem?_eq_none (by unfold piece; rw [List.length_take]; omega), List.getElem?_eq_none (by omega)]
theorem piece_len {α : Type} {K n : Nat} {xs : List α} {i : Nat} (hl : xs.length = n * K) (hi : i < n) : (piece K xs i).length = K := by
  unfold piece
  rw [List.length_take, List.length_drop, hl]
  have : (i + 1) * K ≤ n * K := Nat.mul_le_mul_right _ hi
  rw [Nat.add_mul, Nat.one_mul] at this
  omega
theorem piece_flat {α : Type} {K n : Nat} {C : Nat → List α} (hC : ∀ i, i < n → (C i).length = K) {i : Nat} (hi : i < n) : piece K ((List.range n).flatMap C) i = C i :=
  piece_is (hC i hi) (fun t ht => flat_get K C n hC i t hi ht)
/-- Six cells are set in a list. -/
def setL6 (xs : List Value) (o : Nat) (v0 v1 v2 v3 v4 v5 : Value) : List Value := (((((xs.set o v0).set (o + 1) v1).set (o + 2) v2).set (o + 3) v3).set (o + 4) v4).set (o + 5) v5
section
variable {xs : List Value} {o : Nat} {v0 v1 v2 v3 v4 v5 : Value}
theorem setL6_len : (setL6 xs o v0 v1 v2 v3 v4 v5).length = xs.length := by simp [setL6]
theorem setL6_far {k : Nat} (h : k < o ∨ o + 6 ≤ k) : (setL6 xs o v0 v1 v2 v3 v4 v5)[k]? = xs[k]? := by
  unfold setL6
  rw [List.getElem?_set_ne (by omega), List.getElem?_set_ne (by omega), List.getElem?_set_ne (by omega), List.getElem?_set_ne (by omega), List.getElem?_set_ne (by omega), List.getElem?_set_ne (by omega)]
theorem setL6_at (h : o + 6 ≤ xs.length) : ∀ t, t < 6 → (setL6 xs o v0 v1 v2 v3 v4 v5)[o + t]? = [v0, v1, v2, v3, v4, v5][t]? := by
  intro t ht
  unfold setL6
  match t, ht with
  | 0, _ => rw [List.getElem?_set_ne (by omega), List.getElem?_set_ne (by omega), List.getElem?_set_ne (by omega), List.getElem?_set_ne (by omega), List.getElem?_set_ne (by omega), Nat.add_zero, List.getElem?_set_self (by omega)]; rfl
  | 1, _ => rw [List.getElem?_set_ne (by omega), List.getElem?_set_ne (by omega), List.getElem?_set_ne (by omega), List.getElem?_set_ne (by omega), List.getElem?_set_self (by simp; omega)]; rfl
  | 2, _ => rw [List.getElem?_set_ne (by omega), List.getElem?_set_ne (by omega), List.getElem?_set_ne (by omega), List.getElem?_set_self (by simp; omega)]; rfl
  | 3, _ => rw [List.getElem?_set_ne (by omega), List.getElem?_set_ne (by omega), List.getElem?_set_self (by simp; omega)]; rfl
  | 4, _ => rw [List.getElem?_set_ne (by omega), List.getElem?_set_self (by simp; omega)]; rfl
  | 5, _ => rw [List.getElem?_set_self (by simp; omega)]; rfl
end
/-- Six cells of a block are set. -/
def setC6 (w : World) (B o : Nat) (v0 v1 v2 v3 v4 v5 : Value) : World :=
  (((((w.setCell ⟨B, o, none⟩ v0).setCell ⟨B, o + 1, none⟩ v1).setCell ⟨B, o + 2, none⟩ v2).setCell ⟨B, o + 3, none⟩ v3).setCell ⟨B, o + 4, none⟩ v4).setCell ⟨B, o + 5, none⟩ v5
theorem setC6_row {w : World} {base size g n cap o : Nat} {e : TypeId} {xs : List Value} {v0 v1 v2 v3 v4 v5 : Value} (h : w.ownsRow base e size (.slice (some ⟨g, 0, none⟩) n cap) n xs) :
    (setC6 w g o v0 v1 v2 v3 v4 v5).ownsRow base e size (.slice (some ⟨g, 0, none⟩) n cap) n (setL6 xs o v0 v1 v2 v3 v4 v5) ∧ w.grownBy (setC6 w g o v0 v1 v2 v3 v4 v5) (some g) := by
  obtain ⟨h0, g0⟩ := h.stored o v0
  obtain ⟨h1, g1⟩ := h0.stored (o + 1) v1
  obtain ⟨h2, g2⟩ := h1.stored (o + 2) v2
  obtain ⟨h3, g3⟩ := h2.stored (o + 3) v3
  obtain ⟨h4, g4⟩ := h3.stored (o + 4) v4
  obtain ⟨h5, g5⟩ := h4.stored (o + 5) v5
  exact ⟨h5, ((((g0.trans g1).trans g2).trans g3).trans g4).trans g5⟩
/-- A row's pieces are these fields: each in its own blocks. -/
def FRow (P : Nat → Nat → Prop) (w : World) (f : List (Bs × Val)) (xs : List Value) : Prop :=
  xs.length = f.length * 7 ∧ ∀ i (h : i < f.length), f[i].1.length ≤ 140737488351232 ∧ ∃ cs, piece 7 xs i = .string (strOf f[i].1) :: cs ∧ VIs (P i) w f[i].2 cs
def LRow (P : Nat → Nat → Prop) (w : World) (l : List Val) (xs : List Value) : Prop :=
  xs.length = l.length * 6 ∧ ∀ i (h : i < l.length), VIs (P i) w l[i] (piece 6 xs i)
section
variable {P P2 : Nat → Nat → Prop} {w w' : World}
theorem FRow.keep {f : List (Bs × Val)} {xs : List Value} (h : FRow P w f xs) (hP : ∀ i k, P i k → P2 i k) (hk : ∀ i k, P i k → k < w.heap.size → w'.heap[k]? = w.heap[k]?) : FRow P2 w' f xs :=
  ⟨h.1, fun i hi => by obtain ⟨h1, cs, h2, h3⟩ := h.2 i hi; exact ⟨h1, cs, h2, h3.keep (hP i) (hk i)⟩⟩
theorem LRow.keep {l : List Val} {xs : List Value} (h : LRow P w l xs) (hP : ∀ i k, P i k → P2 i k) (hk : ∀ i k, P i k → k < w.heap.size → w'.heap[k]? = w.heap[k]?) : LRow P2 w' l xs :=
  ⟨h.1, fun i hi => (h.2 i hi).keep (hP i) (hk i)⟩
/-- One field's value is another's cells now. -/
theorem FRow.put {f : List (Bs × Val)} {xs : List Value} (h : FRow P w f xs) {j : Nat} (hj : j < f.length) {Q : Nat → Prop} {v0 v1 v2 v3 v4 v5 : Value} (hv : VIs Q w f[j].2 [v0, v1, v2, v3, v4, v5]) :
    FRow (fun i k => if i = j then Q k else P i k) w f (setL6 xs (j * 7 + 1) v0 v1 v2 v3 v4 v5) := by
  refine ⟨by rw [setL6_len, h.1], fun i hi => ?_⟩
  obtain ⟨h1, cs, h2, h3⟩ := h.2 i hi
  refine ⟨h1, ?_⟩
  by_cases hij : i = j
  · subst hij
    refine ⟨[v0, v1, v2, v3, v4, v5], piece_is rfl (fun t ht => ?_), by simpa using hv⟩
    have hl : i * 7 + 1 + 6 ≤ xs.length := by rw [h.1]; omega
    cases t with
    | zero =>
      rw [setL6_far (by omega), ← piece_get 7 xs i 0 (by omega), h2]; rfl
    | succ t =>
      rw [show i * 7 + (t + 1) = i * 7 + 1 + t by omega, setL6_at hl t (by omega)]; rfl
  · refine ⟨cs, (piece_ext fun t ht => setL6_far (by omega)).trans h2, by simpa [hij] using h3⟩
theorem LRow.put {l : List Val} {xs : List Value} (h : LRow P w l xs) {j : Nat} (hj : j < l.length) {Q : Nat → Prop} {v0 v1 v2 v3 v4 v5 : Value} (hv : VIs Q w l[j] [v0, v1, v2, v3, v4, v5]) :
    LRow (fun i k => if i = j then Q k else P i k) w l (setL6 xs (j * 6) v0 v1 v2 v3 v4 v5) := by
  refine ⟨by rw [setL6_len, h.1], fun i hi => ?_⟩
  have h3 := h.2 i hi
  by_cases hij : i = j
  · subst hij
    have e : piece 6 (setL6 xs (i * 6) v0 v1 v2 v3 v4 v5) i = [v0, v1, v2, v3, v4, v5] := piece_is rfl (fun t ht => setL6_at (by rw [h.1]; omega) t ht)
    rw [e]
    simpa using hv
  · rw [piece_ext (ys := xs) fun t ht => setL6_far (by omega)]
    simpa [hij] using h3
/-- Such a row reads as fields. -/
theorem FRow.is {f : List (Bs × Val)} {xs : List Value} {Q : Nat → Prop} {va : Option Addr} {vc : Nat} (h : FRow P w f xs) (hown : w.ownsRow 0 40 7 (.slice va f.length vc) f.length xs) (hP : ∀ i k, P i k → Q k) (hnew : ∀ k, (Value.slice va f.length vc).ownBlock = some k → Q k) :
    FIs Q w f va 0 ∧ f.length ≤ vc ∧ (va = none → vc = 0) := by
  rcases hown.2 with ⟨e, h0⟩ | ⟨g, cap, cur, e, hb, hgg, rest⟩
  · injection e with e1 e2 e3
    subst e1 e3
    exact ⟨FIs.of fun {i} hi => by omega, by omega, fun _ => rfl⟩
  · injection e with e1 e2 e3
    subst e1 e3
    refine ⟨FIs.of fun {i} hi => ?_, rest.1, fun h => by cases h⟩
    obtain ⟨h1, cs, h2, h3⟩ := h.2 i hi
    refine ⟨g, 0, cs, rfl, hnew g rfl, h1, fun t u ht => ?_, h3.keep (hP i) (fun _ _ _ => rfl)⟩
    rw [← h2] at ht
    have ht7 : t < 7 := by
      rcases Nat.lt_or_ge t 7 with h | h
      · exact h
      · rw [List.getElem?_eq_none (by unfold piece; rw [List.length_take]; omega)] at ht; cases ht
    rw [piece_get 7 xs i t ht7] at ht
    have h8 := World.ownsRow.cells hown (g := g) rfl (i * 7 + t) u ht
    rw [addr_add] at h8
    simpa [Nat.add_assoc] using h8
theorem LRow.is {l : List Val} {xs : List Value} {Q : Nat → Prop} {va : Option Addr} {vc : Nat} (h : LRow P w l xs) (hown : w.ownsRow 0 32 6 (.slice va l.length vc) l.length xs) (hP : ∀ i k, P i k → Q k) (hnew : ∀ k, (Value.slice va l.length vc).ownBlock = some k → Q k) :
    LIs Q w l va 0 ∧ l.length ≤ vc ∧ (va = none → vc = 0) := by
  rcases hown.2 with ⟨e, h0⟩ | ⟨g, cap, cur, e, hb, hgg, rest⟩
  · injection e with e1 e2 e3
    subst e1 e3
    exact ⟨LIs.of fun {i} hi => by omega, by omega, fun _ => rfl⟩
  · injection e with e1 e2 e3
    subst e1 e3
    refine ⟨LIs.of fun {i} hi => ?_, rest.1, fun h => by cases h⟩
    refine ⟨g, 0, piece 6 xs i, rfl, hnew g rfl, fun t u ht => ?_, (h.2 i hi).keep (hP i) (fun _ _ _ => rfl)⟩
    have ht6 : t < 6 := by
      rcases Nat.lt_or_ge t 6 with h | h
      · exact h
      · rw [List.getElem?_eq_none (by unfold piece; rw [List.length_take]; omega)] at ht; cases ht
    rw [piece_get 6 xs i t ht6] at ht
    have h8 := World.ownsRow.cells hown (g := g) rfl (i * 6 + t) u ht
    rw [addr_add] at h8
    simpa [Nat.add_assoc] using h8
end
theorem VIs.ones {P : Nat → Prop} {w : World} {x : Val} {cs : List Value} (h : VIs P w x cs) : ∀ u ∈ cs, u.oneCell' = true := by
  obtain ⟨s0, ba, bn, bc, fa, fn, fc, la, ln, lc, rfl, -⟩ := h.six
  intro u hu
  simp only [List.mem_cons, List.mem_nil_iff, or_false] at hu
  rcases hu with rfl | rfl | rfl | rfl | rfl | rfl <;> rfl
/-- Fields that came in, as a source of cells. -/
theorem FIs.src {P : Nat → Prop} {w : World} {f : List (Bs × Val)} {a : Option Addr} {c : Nat} (h : FIs P w f a 0) (hc : f.length ≤ c) (ha : a = none → c = 0) :
    ∃ xs, Src w 7 (.slice a f.length c) f.length xs ∧ FRow (fun _ => P) w f xs ∧ ∀ u ∈ xs, u.oneCell' = true := by
  obtain ⟨C, hC⟩ := h.choose
  obtain ⟨D, hD⟩ : ∃ D : Nat → List Value, D = fun i => if hi : i < f.length then .string (strOf f[i].1) :: C i else [] := ⟨_, rfl⟩
  have hDi : ∀ i (hi : i < f.length), D i = .string (strOf f[i].1) :: C i := fun i hi => by rw [hD]; simp [hi]
  have hlen : ∀ i, i < f.length → (D i).length = 7 := fun i hi => by
    obtain ⟨b, o, _, _, _, hv⟩ := hC i hi
    rw [hDi i hi, List.length_cons, hv.len]
  have hfl := flat_length 7 D f.length hlen
  refine ⟨(List.range f.length).flatMap D, ⟨hfl, ?_⟩, ⟨hfl, fun i hi => ?_⟩, fun u hu => ?_⟩
  · cases a with
    | none =>
      have := ha rfl
      have h0 : f.length = 0 := by omega
      exact .inl ⟨by rw [h0, this], h0⟩
    | some a =>
      refine .inr ⟨a, c, rfl, fun t u ht => ?_⟩
      have htl : t < f.length * 7 := by
        rw [← hfl]; exact (List.getElem?_eq_some_iff.1 ht).1
      have hi : t / 7 < f.length := by omega
      obtain ⟨b, o, e, _, hr, _⟩ := hC (t / 7) hi
      cases e
      rw [addr_add]
      have e2 : t = t / 7 * 7 + t % 7 := by omega
      rw [e2, flat_get 7 D f.length hlen _ _ hi (Nat.mod_lt _ (by omega)), hDi _ hi] at ht
      have := hr (t % 7) u ht
      rw [show o + t = o + t / 7 * 7 + t % 7 by omega]
      exact this
  · obtain ⟨b, o, e, _, hr, hv⟩ := hC i hi
    obtain ⟨_, _, _, _, _, h1, _⟩ := h.get hi
    exact ⟨h1, C i, by rw [piece_flat hlen hi, hDi i hi], hv⟩
  · obtain ⟨i, hi, hu⟩ := List.mem_flatMap.1 hu
    have hi' := List.mem_range.1 hi
    obtain ⟨b, o, e, _, hr, hv⟩ := hC i hi'
    rw [hDi i hi'] at hu
    rcases List.mem_cons.1 hu with rfl | hu
    · rfl
    · exact hv.ones u hu
theorem LIs.src {P : Nat → Prop} {w : World} {l : List Val} {a : Option Addr} {c : Nat} (h : LIs P w l a 0) (hc : l.length ≤ c) (ha : a = none → c = 0) :
    ∃ xs, Src w 6 (.slice a l.length c) l.length xs ∧ LRow (fun _ => P) w l xs ∧ ∀ u ∈ xs, u.oneCell' = true := by
  have hex : ∀ i, ∃ cs, ∀ (hi : i < l.length), ∃ b o, a = some ⟨b, o, none⟩ ∧ w.rangeAt b (o + i * 6) cs ∧ VIs P w l[i] cs := fun i => by
    by_cases hi : i < l.length
    · obtain ⟨b, o, cs, h1, h2, h3, h4⟩ := h.get hi
      rw [Nat.zero_add] at h3
      exact ⟨cs, fun _ => ⟨b, o, h1, h3, h4⟩⟩
    · exact ⟨[], fun e => absurd e hi⟩
  obtain ⟨D, hC⟩ := Classical.axiomOfChoice hex
  have hlen : ∀ i, i < l.length → (D i).length = 6 := fun i hi => by
    obtain ⟨b, o, _, _, hv⟩ := hC i hi
    rw [hv.len]
  have hfl := flat_length 6 D l.length hlen
  refine ⟨(List.range l.length).flatMap D, ⟨hfl, ?_⟩, ⟨hfl, fun i hi => ?_⟩, fun u hu => ?_⟩
  · cases a with
    | none =>
      have := ha rfl
      have h0 : l.length = 0 := by omega
      exact .inl ⟨by rw [h0, this], h0⟩
    | some a =>
      refine .inr ⟨a, c, rfl, fun t u ht => ?_⟩
      have htl : t < l.length * 6 := by
        rw [← hfl]; exact (List.getElem?_eq_some_iff.1 ht).1
      have hi : t / 6 < l.length := by omega
      obtain ⟨b, o, e, hr, _⟩ := hC (t / 6) hi
      cases e
      rw [addr_add]
      have e2 : t = t / 6 * 6 + t % 6 := by omega
      rw [e2, flat_get 6 D l.length hlen _ _ hi (Nat.mod_lt _ (by omega))] at ht
      have := hr (t % 6) u ht
      rw [show o + t = o + t / 6 * 6 + t % 6 by omega]
      exact this
  · obtain ⟨b, o, e, hr, hv⟩ := hC i hi
    rw [piece_flat hlen hi]; exact hv
  · obtain ⟨i, hi, hu⟩ := List.mem_flatMap.1 hu
    have hi' := List.mem_range.1 hi
    obtain ⟨b, o, e, hr, hv⟩ := hC i hi'
    exact hv.ones u hu
theorem row_made {w : World} {e : TypeId} {size : Nat} {B : Nat} (hB : B = w.heap.size) : (w.alloc (.cells #[] e)).ownsRow 0 e size (.slice (some ⟨B, 0, none⟩) 0 0) 0 [] := by subst hB; exact World.ownsRow_made w #[] 0 (Nat.zero_le _) (Nat.zero_le _) (by simp)
def ClonedF (P : Nat → Prop) (w : World) (f : List (Bs × Val)) (e : Ending) (w' : World) : Prop :=
  ∃ va vc xs, e = .returned (.slice va f.length vc) ∧ w'.ownsRow 0 40 7 (.slice va f.length vc) f.length xs ∧ FRow (fun _ => P) w' f xs ∧ Step [] id id w w' ∧ ∀ k, (Value.slice va f.length vc).ownBlock = some k → w.heap.size ≤ k
def ClonedL (P : Nat → Prop) (w : World) (l : List Val) (e : Ending) (w' : World) : Prop :=
  ∃ va vc xs, e = .returned (.slice va l.length vc) ∧ w'.ownsRow 0 32 6 (.slice va l.length vc) l.length xs ∧ LRow (fun _ => P) w' l xs ∧ Step [] id id w w' ∧ ∀ k, (Value.slice va l.length vc).ownBlock = some k → w.heap.size ≤ k
set_option maxRecDepth 100000 in
set_option maxHeartbeats 4000000 in
theorem clone_f {P : Nat → Prop} {w : World} {f : List (Bs × Val)} {fa : Option Addr} {fc : Nat} (hf : FIs P w f fa 0) (hc : f.length ≤ fc) (ha : fa = none → fc = 0) (hs : f.length ≤ 100000000) :
    Calls Tryd.prog 35 #[.slice fa f.length fc] w (ClonedF P w f) := by
  obtain ⟨xs, hsrc, hrow, hone⟩ := hf.src hc ha
  obtain ⟨n, hn⟩ : ∃ n, n = f.length := ⟨_, rfl⟩
  rw [← hn] at hc hs hsrc
  rw [show (Value.slice fa f.length fc) = .slice fa n fc by rw [hn]]
  have hxl : xs.length = n * 7 := by rw [hn]; exact hrow.1
  have hrowH := Lib.hid hrow
  have hsrcH := Lib.hid (show ∀ o, Src (w.alloc o) 7 (.slice fa n fc) n xs from fun o => ⟨hsrc.1, hsrc.2.imp id (fun ⟨ad, c, e1, e2⟩ => ⟨ad, c, e1, fun j u hj => by
    have := e2 j u hj
    exact (World.cell?_of_block (a := ad.add j) ((World.grownBy_alloc w o none).block _ (World.block_lt_of_cell? w _ this) (by simp))).trans this⟩)⟩)
  have honeH := Lib.hid hone
  have hnH := Lib.hid hn
  have hxlH := Lib.hid hxl
  obtain ⟨i0, hi, hz0, hz1, hz2⟩ := info_split info_field
  have hiH := Lib.hid hi
  have hz0H := Lib.hid hz0
  have hz1H := Lib.hid hz1
  have hz2H := Lib.hid hz2
  clear hf hsrc hrow hone hn hxl hi hz0 hz1 hz2
  have hnil := fun (w : World) (a : Option Addr) (l c : Nat) => Lib.run_eql_slice_nil w 29 40 a l c 0 0 Tryd.underlying29
  go_enter Tryd.func35, Tryd.ntmps35
  cases fa with
  | none =>
    obtain rfl := ha rfl
    obtain rfl : n = 0 := by omega
    go_wp2_with fail
    go_ret
    have hx0 : xs = [] := List.eq_nil_of_length_eq_zero (by rw [hxlH.out])
    unfold ClonedF
    rw [← hnH.out]
    exact ⟨none, 0, xs, rfl, by rw [hx0]; exact ⟨by simp, .inl ⟨rfl, rfl⟩⟩, hrowH.out, Step.refl _ _ _, fun k hk => by cases hk⟩
  | some a =>
    clear ha
    go_wp2_with (at_builtin; (refine wpList_app rfl _ _ 29 rfl 40 i0 _ 7 120 Tryd.underlying29 hiH.out hz0H.out hz1H.out hz2H.out rfl (by decide) (.slice (some ⟨w.heap.size, 0, none⟩) 0 0) 0 [] (by rfl) (by exact row_made rfl) (.slice (some a) n fc) n xs (by rfl) (hsrcH.out _) (by exact honeH.out) (by omega) (by omega) ?_; intro ad' c' w5 hown5 hgrow5 hnil5 hat5; have hs5 := Lib.hid (Step.tailNew (T2 := [w.heap.size]) (Step.alloc (T := []) (g := id) (w := w) (.cells #[] 40)) (.grown hgrow5 (fun k hk => by cases hk; simp)) (by simp)); have hown5H := Lib.hid hown5; have hat5H := Lib.hid hat5; clear hown5 hgrow5 hnil5 hat5))
    go_ret
    unfold ClonedF
    rw [← hnH.out]
    have e0 : 0 + n = n := Nat.zero_add n
    have h5 := hown5H.out
    have h6 := hat5H.out
    rw [e0, List.nil_append] at h5
    rw [e0] at h6
    refine ⟨ad', c', xs, rfl, h5, hrowH.out.keep (fun _ _ h => h) (fun i k _ hk => (hs5.out.keep k hk (by simp)).2), hs5.out, fun k hk => ?_⟩
    rcases h6 with h | h
    · rw [h] at hk; cases hk; exact Nat.le_refl _
    · rw [h] at hk; cases hk; simp
set_option maxRecDepth 100000 in
set_option maxHeartbeats 4000000 in
theorem clone_l {P : Nat → Prop} {w : World} {l : List Val} {la : Option Addr} {lc : Nat} (hl : LIs P w l la 0) (hc : l.length ≤ lc) (ha : la = none → lc = 0) (hs : l.length ≤ 100000000) :
    Calls Tryd.prog 36 #[.slice la l.length lc] w (ClonedL P w l) := by
  obtain ⟨xs, hsrc, hrow, hone⟩ := hl.src hc ha
  obtain ⟨n, hn⟩ : ∃ n, n = l.length := ⟨_, rfl⟩
  rw [← hn] at hc hs hsrc
  rw [show (Value.slice la l.length lc) = .slice la n lc by rw [hn]]
  have hxl : xs.length = n * 6 := by rw [hn]; exact hrow.1
  have hrowH := Lib.hid hrow
  have hsrcH := Lib.hid (show ∀ o, Src (w.alloc o) 6 (.slice la n lc) n xs from fun o => ⟨hsrc.1, hsrc.2.imp id (fun ⟨ad, c, e1, e2⟩ => ⟨ad, c, e1, fun j u hj => by
    have := e2 j u hj
    exact (World.cell?_of_block (a := ad.add j) ((World.grownBy_alloc w o none).block _ (World.block_lt_of_cell? w _ this) (by simp))).trans this⟩)⟩)
  have honeH := Lib.hid hone
  have hnH := Lib.hid hn
  have hxlH := Lib.hid hxl
  obtain ⟨i0, hi, hz0, hz1, hz2⟩ := info_split info_value
  have hiH := Lib.hid hi
  have hz0H := Lib.hid hz0
  have hz1H := Lib.hid hz1
  have hz2H := Lib.hid hz2
  clear hl hsrc hrow hone hn hxl hi hz0 hz1 hz2
  have hnil := fun (w : World) (a : Option Addr) (l c : Nat) => Lib.run_eql_slice_nil w 30 32 a l c 0 0 Tryd.underlying30
  go_enter Tryd.func36, Tryd.ntmps36
  cases la with
  | none =>
    obtain rfl := ha rfl
    obtain rfl : n = 0 := by omega
    go_wp2_with fail
    go_ret
    have hx0 : xs = [] := List.eq_nil_of_length_eq_zero (by rw [hxlH.out])
    unfold ClonedL
    rw [← hnH.out]
    exact ⟨none, 0, xs, rfl, by rw [hx0]; exact ⟨by simp, .inl ⟨rfl, rfl⟩⟩, hrowH.out, Step.refl _ _ _, fun k hk => by cases hk⟩
  | some a =>
    clear ha
    go_wp2_with (at_builtin; (refine wpList_app rfl _ _ 30 rfl 32 i0 _ 6 104 Tryd.underlying30 hiH.out hz0H.out hz1H.out hz2H.out rfl (by decide) (.slice (some ⟨w.heap.size, 0, none⟩) 0 0) 0 [] (by rfl) (by exact row_made rfl) (.slice (some a) n lc) n xs (by rfl) (hsrcH.out _) (by exact honeH.out) (by omega) (by omega) ?_; intro ad' c' w5 hown5 hgrow5 hnil5 hat5; have hs5 := Lib.hid (Step.tailNew (T2 := [w.heap.size]) (Step.alloc (T := []) (g := id) (w := w) (.cells #[] 32)) (.grown hgrow5 (fun k hk => by cases hk; simp)) (by simp)); have hown5H := Lib.hid hown5; have hat5H := Lib.hid hat5; clear hown5 hgrow5 hnil5 hat5))
    go_ret
    unfold ClonedL
    rw [← hnH.out]
    have e0 : 0 + n = n := Nat.zero_add n
    have h5 := hown5H.out
    have h6 := hat5H.out
    rw [e0, List.nil_append] at h5
    rw [e0] at h6
    refine ⟨ad', c', xs, rfl, h5, hrowH.out.keep (fun _ _ h => h) (fun i k _ hk => (hs5.out.keep k hk (by simp)).2), hs5.out, fun k hk => ?_⟩
    rcases h6 with h | h
    · rw [h] at hk; cases hk; exact Nat.le_refl _
    · rw [h] at hk; cases hk; simp
/-- Bytes, cloned. -/
def ClonedB (w : World) (b : Bs) (e : Ending) (w' : World) : Prop :=
  ∃ v, e = .returned v ∧ Row w' v b ∧ Step [] id id w w' ∧ ∀ k, v.ownBlock = some k → w.heap.size ≤ k
set_option maxRecDepth 100000 in
theorem clone_none (w : World) : Calls Tryd.prog 34 #[.slice none 0 0] w fun e w' => e = .returned (.slice none 0 0) ∧ w = w' := by
  have hnil := fun w : World => Lib.run_eql_slice_nil w 26 5 none 0 0 0 0 Tryd.underlying26
  go_enter Tryd.func34, Tryd.ntmps34
  go_wp2_with fail
  go_ret
  exact ⟨rfl, rfl⟩
theorem clone_b {P : Nat → Prop} {w : World} {ba : Option Addr} {n bc : Nat} {b : Bs} (hb : BIn P w (.slice ba n bc) b) (hn : n = b.length) (hs : n ≤ 100000000) : Calls Tryd.prog 34 #[.slice ba n bc] w (ClonedB w b) := by
  have hsome : ∀ a, ba = some a → Lie w a b → Calls Tryd.prog 34 #[.slice ba n bc] w (ClonedB w b) := fun a e h => by
    subst e
    refine (bs_clone a n bc b w hn (by omega) h).mono fun e w' ⟨v, h1, _, h3, h4, h5⟩ => ⟨v, h1, h3, h4, h5⟩
  rcases hb with ⟨a, c, e, rfl, h0⟩ | ⟨g, o, c, e, _, _, hc⟩
  · injection e with e1 e2 e3
    subst e1 e3
    cases ba with
    | none =>
      obtain rfl := h0 rfl
      subst e2
      refine (clone_none w).mono ?_
      rintro e w' ⟨rfl, rfl⟩
      exact ⟨_, rfl, ⟨by simp, .inl ⟨rfl, rfl⟩⟩, Step.refl _ _ _, fun k hk => by cases hk⟩
    | some a => exact hsome a rfl (fun i hi => by simp at hi)
  · injection e with e1 e2 e3
    exact hsome _ e1 (fun i hi => by rw [addr_add]; exact hc i hi)
end Go.Proofs.YtembpajlllnncaaDoor
