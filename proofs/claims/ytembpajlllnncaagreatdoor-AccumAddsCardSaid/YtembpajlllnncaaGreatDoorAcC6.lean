/- Rows by pieces, clones. Copy. -/
import Derived.Test.YtembpajlllnncaaGreatDoorAcK1
set_option linter.unusedVariables false
set_option linter.unusedSimpArgs false
namespace Go.Proofs.YtembpajlllnncaaGreatDoor
open Go.RowKit

/-- The i-th piece of so many. -/
def piece {α : Type} (K : Nat) (xs : List α) (i : Nat) : List α := (xs.drop (i * K)).take K
theorem piece_get {α : Type} (K : Nat) (xs : List α) (i t : Nat) (ht : t < K) : (piece K xs i)[t]? = xs[i * K + t]? := by
 unfold piece
 rw [List.getElem?_take, if_pos ht, List.getElem?_drop]
theorem piece_ext {α : Type} {K : Nat} {xs ys : List α} {i : Nat} (h : ∀ t, t < K → xs[i * K + t]? = ys[i * K + t]?) : piece K xs i = piece K ys i := by
 apply List.ext_getElem?
 intro t
 by_cases ht : t < K
 ·rw [piece_get K xs i t ht, piece_get K ys i t ht, h t ht]
 ·rw [List.getElem?_eq_none (by unfold piece; rw [List.length_take]; omega), List.getElem?_eq_none (by unfold piece; rw [List.length_take]; omega)]
theorem piece_is {α : Type} {K : Nat} {xs l : List α} {i : Nat} (hl : l.length = K) (h : ∀ t, t < K → xs[i * K + t]? = l[t]?) : piece K xs i = l := by
 apply List.ext_getElem?
 intro t
 by_cases ht : t < K
 ·rw [piece_get K xs i t ht, h t ht]
 ·rw [List.getElem?_eq_none (by unfold piece; rw [List.length_take]; omega), List.getElem?_eq_none (by omega)]
theorem piece_len {α : Type} {K n : Nat} {xs : List α} {i : Nat} (hl : xs.length = n * K) (hi : i < n) : (piece K xs i).length = K := by
 unfold piece
 rw [List.length_take, List.length_drop, hl]
 have : (i + 1) * K ≤ n * K := Nat.mul_le_mul_right _ hi
 rw [Nat.add_mul, Nat.one_mul] at this
 omega
theorem piece_flat {α : Type} {K n : Nat} {C : Nat → List α} (hC : ∀ i, i < n → (C i).length = K) {i : Nat} (hi : i < n) : piece K ((List.range n).flatMap C) i = C i :=
 piece_is (hC i hi) (fun t ht => flat_get K C n hC i t hi ht)
/-- Six cells are set in a list. -/
def setL6 (xs : List Value) (o : Nat) (v0 v1 v2 v3 v4 v5 : Value) : List Value := (((((xs.set o v0).set (o + 1) v1).set (o + 2) v2).set (o + 3) v3).set (o + 4) v4).set (o + 5) v5
section
variable {xs : List Value} {o : Nat} {v0 v1 v2 v3 v4 v5 : Value}
theorem setL6_len : (setL6 xs o v0 v1 v2 v3 v4 v5).length = xs.length := by simp [setL6]
theorem setL6_far {k : Nat} (h : k < o ∨ o + 6 ≤ k) : (setL6 xs o v0 v1 v2 v3 v4 v5)[k]? = xs[k]? := by
 unfold setL6
 rw [List.getElem?_set_ne (by omega), List.getElem?_set_ne (by omega), List.getElem?_set_ne (by omega), List.getElem?_set_ne (by omega), List.getElem?_set_ne (by omega), List.getElem?_set_ne (by omega)]
theorem setL6_at (h : o + 6 ≤ xs.length) : ∀ t, t < 6 → (setL6 xs o v0 v1 v2 v3 v4 v5)[o + t]? = [v0, v1, v2, v3, v4, v5][t]? := by
 intro t ht
 unfold setL6
 match t, ht with
 | 0, _ => rw [List.getElem?_set_ne (by omega), List.getElem?_set_ne (by omega), List.getElem?_set_ne (by omega), List.getElem?_set_ne (by omega), List.getElem?_set_ne (by omega), Nat.add_zero, List.getElem?_set_self (by omega)]; rfl
 | 1, _ => rw [List.getElem?_set_ne (by omega), List.getElem?_set_ne (by omega), List.getElem?_set_ne (by omega), List.getElem?_set_ne (by omega), List.getElem?_set_self (by simp; omega)]; rfl
 | 2, _ => rw [List.getElem?_set_ne (by omega), List.getElem?_set_ne (by omega), List.getElem?_set_ne (by omega), List.getElem?_set_self (by simp; omega)]; rfl
 | 3, _ => rw [List.getElem?_set_ne (by omega), List.getElem?_set_ne (by omega), List.getElem?_set_self (by simp; omega)]; rfl
 | 4, _ => rw [List.getElem?_set_ne (by omega), List.getElem?_set_self (by simp; omega)]; rfl
 | 5, _ => rw [List.getElem?_set_self (by simp; omega)]; rfl
end
/-- Six cells of a block are set. -/
def setC6 (w : World) (B o : Nat) (v0 v1 v2 v3 v4 v5 : Value) : World :=
 (((((w.setCell ⟨B, o, none⟩ v0).setCell ⟨B, o + 1, none⟩ v1).setCell ⟨B, o + 2, none⟩ v2).setCell ⟨B, o + 3, none⟩ v3).setCell ⟨B, o + 4, none⟩ v4).setCell ⟨B, o + 5, none⟩ v5
theorem setC6_row {w : World} {base size g n cap o : Nat} {e : TypeId} {xs : List Value} {v0 v1 v2 v3 v4 v5 : Value} (h : w.ownsRow base e size (.slice (some ⟨g, 0, none⟩) n cap) n xs) :
  (setC6 w g o v0 v1 v2 v3 v4 v5).ownsRow base e size (.slice (some ⟨g, 0, none⟩) n cap) n (setL6 xs o v0 v1 v2 v3 v4 v5) ∧ w.grownBy (setC6 w g o v0 v1 v2 v3 v4 v5) (some g) := by
 obtain ⟨h0, g0⟩ := h.stored o v0
 obtain ⟨h1, g1⟩ := h0.stored (o + 1) v1
 obtain ⟨h2, g2⟩ := h1.stored (o + 2) v2
 obtain ⟨h3, g3⟩ := h2.stored (o + 3) v3
 obtain ⟨h4, g4⟩ := h3.stored (o + 4) v4
 obtain ⟨h5, g5⟩ := h4.stored (o + 5) v5
 exact ⟨h5, ((((g0.trans g1).trans g2).trans g3).trans g4).trans g5⟩
/-- A row's pieces are these fields: each in its own blocks. -/
def FRow (P : Nat → Nat → Prop) (w : World) (f : List (Bs × Val)) (xs : List Value) : Prop :=
 xs.length = f.length * 7 ∧ ∀ i (h : i < f.length), f[i].1.length ≤ 140737488351232 ∧ ∃ cs, piece 7 xs i = .string (strOf f[i].1) :: cs ∧ VIs (P i) w f[i].2 cs
def LRow (P : Nat → Nat → Prop) (w : World) (l : List Val) (xs : List Value) : Prop :=
 xs.length = l.length * 6 ∧ ∀ i (h : i < l.length), VIs (P i) w l[i] (piece 6 xs i)
section
variable {P P2 : Nat → Nat → Prop} {w w' : World}
theorem FRow.keep {f : List (Bs × Val)} {xs : List Value} (h : FRow P w f xs) (hP : ∀ i k, P i k → P2 i k) (hk : ∀ i k, P i k → k < w.heap.size → w'.heap[k]? = w.heap[k]?) : FRow P2 w' f xs :=
 ⟨h.1, fun i hi => by obtain ⟨h1, cs, h2, h3⟩ := h.2 i hi; exact ⟨h1, cs, h2, h3.keep (hP i) (hk i)⟩⟩
theorem LRow.keep {l : List Val} {xs : List Value} (h : LRow P w l xs) (hP : ∀ i k, P i k → P2 i k) (hk : ∀ i k, P i k → k < w.heap.size → w'.heap[k]? = w.heap[k]?) : LRow P2 w' l xs :=
 ⟨h.1, fun i hi => (h.2 i hi).keep (hP i) (hk i)⟩
/-- One field's value is another's cells now. -/
theorem FRow.put {f : List (Bs × Val)} {xs : List Value} (h : FRow P w f xs) {j : Nat} (hj : j < f.length) {Q : Nat → Prop} {v0 v1 v2 v3 v4 v5 : Value} (hv : VIs Q w f[j].2 [v0, v1, v2, v3, v4, v5]) :
  FRow (fun i k => if i = j then Q k else P i k) w f (setL6 xs (j * 7 + 1) v0 v1 v2 v3 v4 v5) := by
 refine ⟨by rw [setL6_len, h.1], fun i hi => ?_⟩
 obtain ⟨h1, cs, h2, h3⟩ := h.2 i hi
 refine ⟨h1, ?_⟩
 by_cases hij : i = j
 ·subst hij
  refine ⟨[v0, v1, v2, v3, v4, v5], piece_is rfl (fun t ht => ?_), by simpa using hv⟩
  have hl : i * 7 + 1 + 6 ≤ xs.length := by rw [h.1]; omega
  cases t with
  | zero =>
   rw [setL6_far (by omega), ← piece_get 7 xs i 0 (by omega), h2]; rfl
  | succ t =>
   rw [show i * 7 + (t + 1) = i * 7 + 1 + t by omega, setL6_at hl t (by omega)]; rfl
 ·refine ⟨cs, (piece_ext fun t ht => setL6_far (by omega)).trans h2, by simpa [hij] using h3⟩
theorem LRow.put {l : List Val} {xs : List Value} (h : LRow P w l xs) {j : Nat} (hj : j < l.length) {Q : Nat → Prop} {v0 v1 v2 v3 v4 v5 : Value} (hv : VIs Q w l[j] [v0, v1, v2, v3, v4, v5]) :
  LRow (fun i k => if i = j then Q k else P i k) w l (setL6 xs (j * 6) v0 v1 v2 v3 v4 v5) := by
 refine ⟨by rw [setL6_len, h.1], fun i hi => ?_⟩
 have h3 := h.2 i hi
 by_cases hij : i = j
 ·subst hij
  have e : piece 6 (setL6 xs (i * 6) v0 v1 v2 v3 v4 v5) i = [v0, v1, v2, v3, v4, v5] := piece_is rfl (fun t ht => setL6_at (by rw [h.1]; omega) t ht)
  rw [e]
  simpa using hv
 ·rw [piece_ext (ys := xs) fun t ht => setL6_far (by omega)]
  simpa [hij] using h3
/-- Such a row reads as fields. -/
theorem FRow.is {f : List (Bs × Val)} {xs : List Value} {Q : Nat → Prop} {va : Option Addr} {vc : Nat} (h : FRow P w f xs) (hown : w.ownsRow 0 38 7 (.slice va f.length vc) f.length xs) (hP : ∀ i k, P i k → Q k) (hnew : ∀ k, (Value.slice va f.length vc).ownBlock = some k → Q k) :
  FIs Q w f va 0 ∧ f.length ≤ vc ∧ (va = none → vc = 0) := by
 rcases hown.2 with ⟨e, h0⟩ | ⟨g, cap, cur, e, hb, hgg, rest⟩
 ·injection e with e1 e2 e3
  subst e1 e3
  exact ⟨FIs.of fun {i} hi => by omega, by omega, fun _ => rfl⟩
 ·injection e with e1 e2 e3
  subst e1 e3
  refine ⟨FIs.of fun {i} hi => ?_, rest.1, fun h => by cases h⟩
  obtain ⟨h1, cs, h2, h3⟩ := h.2 i hi
  refine ⟨g, 0, cs, rfl, hnew g rfl, h1, fun t u ht => ?_, h3.keep (hP i) (fun _ _ _ => rfl)⟩
  rw [← h2] at ht
  have ht7 : t < 7 := by
   rcases Nat.lt_or_ge t 7 with h | h
   ·exact h
   ·rw [List.getElem?_eq_none (by unfold piece; rw [List.length_take]; omega)] at ht; cases ht
  rw [piece_get 7 xs i t ht7] at ht
  have h8 := World.ownsRow.cells hown (g := g) rfl (i * 7 + t) u ht
  rw [addr_add] at h8
  simpa [Nat.add_assoc] using h8
theorem LRow.is {l : List Val} {xs : List Value} {Q : Nat → Prop} {va : Option Addr} {vc : Nat} (h : LRow P w l xs) (hown : w.ownsRow 0 35 6 (.slice va l.length vc) l.length xs) (hP : ∀ i k, P i k → Q k) (hnew : ∀ k, (Value.slice va l.length vc).ownBlock = some k → Q k) :
  LIs Q w l va 0 ∧ l.length ≤ vc ∧ (va = none → vc = 0) := by
 rcases hown.2 with ⟨e, h0⟩ | ⟨g, cap, cur, e, hb, hgg, rest⟩
 ·injection e with e1 e2 e3
  subst e1 e3
  exact ⟨LIs.of fun {i} hi => by omega, by omega, fun _ => rfl⟩
 ·injection e with e1 e2 e3
  subst e1 e3
  refine ⟨LIs.of fun {i} hi => ?_, rest.1, fun h => by cases h⟩
  refine ⟨g, 0, piece 6 xs i, rfl, hnew g rfl, fun t u ht => ?_, (h.2 i hi).keep (hP i) (fun _ _ _ => rfl)⟩
  have ht6 : t < 6 := by
   rcases Nat.lt_or_ge t 6 with h | h
   ·exact h
   ·rw [List.getElem?_eq_none (by unfold piece; rw [List.length_take]; omega)] at ht; cases ht
  rw [piece_get 6 xs i t ht6] at ht
  have h8 := World.ownsRow.cells hown (g := g) rfl (i * 6 + t) u ht
  rw [addr_add] at h8
  simpa [Nat.add_assoc] using h8
end
theorem VIs.ones {P : Nat → Prop} {w : World} {x : Val} {cs : List Value} (h : VIs P w x cs) : ∀ u ∈ cs, u.oneCell' = true := by
 obtain ⟨s0, ba, bn, bc, fa, fn, fc, la, ln, lc, rfl, -⟩ := h.six
 intro u hu
 simp only [List.mem_cons, List.mem_nil_iff, or_false] at hu
 rcases hu with rfl | rfl | rfl | rfl | rfl | rfl <;> rfl
/-- Fields that came in, as a source of cells. -/
theorem FIs.src {P : Nat → Prop} {w : World} {f : List (Bs × Val)} {a : Option Addr} {c : Nat} (h : FIs P w f a 0) (hc : f.length ≤ c) (ha : a = none → c = 0) :
  ∃ xs, Src w 7 (.slice a f.length c) f.length xs ∧ FRow (fun _ => P) w f xs ∧ ∀ u ∈ xs, u.oneCell' = true := by
 obtain ⟨C, hC⟩ := h.choose
 obtain ⟨D, hD⟩ : ∃ D : Nat → List Value, D = fun i => if hi : i < f.length then .string (strOf f[i].1) :: C i else [] := ⟨_, rfl⟩
 have hDi : ∀ i (hi : i < f.length), D i = .string (strOf f[i].1) :: C i := fun i hi => by rw [hD]; simp [hi]
 have hlen : ∀ i, i < f.length → (D i).length = 7 := fun i hi => by
  obtain ⟨b, o, _, _, _, hv⟩ := hC i hi
  rw [hDi i hi, List.length_cons, hv.len]
 have hfl := flat_length 7 D f.length hlen
 refine ⟨(List.range f.length).flatMap D, ⟨hfl, ?_⟩, ⟨hfl, fun i hi => ?_⟩, fun u hu => ?_⟩
 ·cases a with
  | none =>
   have := ha rfl
   have h0 : f.length = 0 := by omega
   exact .inl ⟨by rw [h0, this], h0⟩
  | some a =>
   refine .inr ⟨a, c, rfl, fun t u ht => ?_⟩
   have htl : t < f.length * 7 := by
    rw [← hfl]; exact (List.getElem?_eq_some_iff.1 ht).1
   have hi : t / 7 < f.length := by omega
   obtain ⟨b, o, e, _, hr, _⟩ := hC (t / 7) hi
   cases e
   rw [addr_add]
   have e2 : t = t / 7 * 7 + t % 7 := by omega
   rw [e2, flat_get 7 D f.length hlen _ _ hi (Nat.mod_lt _ (by omega)), hDi _ hi] at ht
   have := hr (t % 7) u ht
   rw [show o + t = o + t / 7 * 7 + t % 7 by omega]
   exact this
 ·obtain ⟨b, o, e, _, hr, hv⟩ := hC i hi
  obtain ⟨_, _, _, _, _, h1, _⟩ := h.get hi
  exact ⟨h1, C i, by rw [piece_flat hlen hi, hDi i hi], hv⟩
 ·obtain ⟨i, hi, hu⟩ := List.mem_flatMap.1 hu
  have hi' := List.mem_range.1 hi
  obtain ⟨b, o, e, _, hr, hv⟩ := hC i hi'
  rw [hDi i hi'] at hu
  rcases List.mem_cons.1 hu with rfl | hu
  ·rfl
  ·exact hv.ones u hu
theorem LIs.src {P : Nat → Prop} {w : World} {l : List Val} {a : Option Addr} {c : Nat} (h : LIs P w l a 0) (hc : l.length ≤ c) (ha : a = none → c = 0) :
  ∃ xs, Src w 6 (.slice a l.length c) l.length xs ∧ LRow (fun _ => P) w l xs ∧ ∀ u ∈ xs, u.oneCell' = true := by
 have hex : ∀ i, ∃ cs, ∀ (hi : i < l.length), ∃ b o, a = some ⟨b, o, none⟩ ∧ w.rangeAt b (o + i * 6) cs ∧ VIs P w l[i] cs := fun i => by
  by_cases hi : i < l.length
  ·obtain ⟨b, o, cs, h1, h2, h3, h4⟩ := h.get hi
   rw [Nat.zero_add] at h3
   exact ⟨cs, fun _ => ⟨b, o, h1, h3, h4⟩⟩
  ·exact ⟨[], fun e => absurd e hi⟩
 obtain ⟨D, hC⟩ := Classical.axiomOfChoice hex
 have hlen : ∀ i, i < l.length → (D i).length = 6 := fun i hi => by
  obtain ⟨b, o, _, _, hv⟩ := hC i hi
  rw [hv.len]
 have hfl := flat_length 6 D l.length hlen
 refine ⟨(List.range l.length).flatMap D, ⟨hfl, ?_⟩, ⟨hfl, fun i hi => ?_⟩, fun u hu => ?_⟩
 ·cases a with
  | none =>
   have := ha rfl
   have h0 : l.length = 0 := by omega
   exact .inl ⟨by rw [h0, this], h0⟩
  | some a =>
   refine .inr ⟨a, c, rfl, fun t u ht => ?_⟩
   have htl : t < l.length * 6 := by
    rw [← hfl]; exact (List.getElem?_eq_some_iff.1 ht).1
   have hi : t / 6 < l.length := by omega
   obtain ⟨b, o, e, hr, _⟩ := hC (t / 6) hi
   cases e
   rw [addr_add]
   have e2 : t = t / 6 * 6 + t % 6 := by omega
   rw [e2, flat_get 6 D l.length hlen _ _ hi (Nat.mod_lt _ (by omega))] at ht
   have := hr (t % 6) u ht
   rw [show o + t = o + t / 6 * 6 + t % 6 by omega]
   exact this
 ·obtain ⟨b, o, e, hr, hv⟩ := hC i hi
  rw [piece_flat hlen hi]; exact hv
 ·obtain ⟨i, hi, hu⟩ := List.mem_flatMap.1 hu
  have hi' := List.mem_range.1 hi
  obtain ⟨b, o, e, hr, hv⟩ := hC i hi'
  exact hv.ones u hu
theorem row_made {w : World} {e : TypeId} {size : Nat} {B : Nat} (hB : B = w.heap.size) : (w.alloc (.cells #[] e)).ownsRow 0 e size (.slice (some ⟨B, 0, none⟩) 0 0) 0 [] := by subst hB; exact World.ownsRow_made w #[] 0 (Nat.zero_le _) (Nat.zero_le _) (by simp)
def ClonedF (P : Nat → Prop) (w : World) (f : List (Bs × Val)) (e : Ending) (w' : World) : Prop :=
 ∃ va vc xs, e = .returned (.slice va f.length vc) ∧ w'.ownsRow 0 38 7 (.slice va f.length vc) f.length xs ∧ FRow (fun _ => P) w' f xs ∧ Step [] id id w w' ∧ ∀ k, (Value.slice va f.length vc).ownBlock = some k → w.heap.size ≤ k
def ClonedL (P : Nat → Prop) (w : World) (l : List Val) (e : Ending) (w' : World) : Prop :=
 ∃ va vc xs, e = .returned (.slice va l.length vc) ∧ w'.ownsRow 0 35 6 (.slice va l.length vc) l.length xs ∧ LRow (fun _ => P) w' l xs ∧ Step [] id id w w' ∧ ∀ k, (Value.slice va l.length vc).ownBlock = some k → w.heap.size ≤ k
set_option maxRecDepth 100000 in
set_option maxHeartbeats 4000000 in
theorem clone_f {P : Nat → Prop} {w : World} {f : List (Bs × Val)} {fa : Option Addr} {fc : Nat} (hf : FIs P w f fa 0) (hc : f.length ≤ fc) (ha : fa = none → fc = 0) (hs : f.length ≤ 100000000) :
  Calls Tryz.prog 50 #[.slice fa f.length fc] w (ClonedF P w f) := by
 obtain ⟨xs, hsrc, hrow, hone⟩ := hf.src hc ha
 obtain ⟨n, hn⟩ : ∃ n, n = f.length := ⟨_, rfl⟩
 rw [← hn] at hc hs hsrc
 rw [show (Value.slice fa f.length fc) = .slice fa n fc by rw [hn]]
 have hxl : xs.length = n * 7 := by rw [hn]; exact hrow.1
 have hrowH := Lib.hid hrow
 have hsrcH := Lib.hid (show ∀ o, Src (w.alloc o) 7 (.slice fa n fc) n xs from fun o => ⟨hsrc.1, hsrc.2.imp id (fun ⟨ad, c, e1, e2⟩ => ⟨ad, c, e1, fun j u hj => by
  have := e2 j u hj
  exact (World.cell?_of_block (a := ad.add j) ((World.grownBy_alloc w o none).block _ (World.block_lt_of_cell? w _ this) (by simp))).trans this⟩)⟩)
 have honeH := Lib.hid hone
 have hnH := Lib.hid hn
 have hxlH := Lib.hid hxl
 obtain ⟨i0, hi, hz0, hz1, hz2⟩ := info_split info_field
 have hiH := Lib.hid hi
 have hz0H := Lib.hid hz0
 have hz1H := Lib.hid hz1
 have hz2H := Lib.hid hz2
 clear hf hsrc hrow hone hn hxl hi hz0 hz1 hz2
 have hnil := fun (w : World) (a : Option Addr) (l c : Nat) => Lib.run_eql_slice_nil w 33 38 a l c 0 0 Tryz.underlying33
 go_enter Tryz.func50, Tryz.ntmps50
 cases fa with
 | none =>
  obtain rfl := ha rfl
  obtain rfl : n = 0 := by omega
  go_wp2_with fail
  go_ret
  have hx0 : xs = [] := List.eq_nil_of_length_eq_zero (by rw [hxlH.out])
  unfold ClonedF
  rw [← hnH.out]
  exact ⟨none, 0, xs, rfl, by rw [hx0]; exact ⟨by simp, .inl ⟨rfl, rfl⟩⟩, hrowH.out, Step.refl _ _ _, fun k hk => by cases hk⟩
 | some a =>
  clear ha
  go_wp2_with (at_builtin; (refine wpList_app rfl _ _ 33 rfl 38 i0 _ 7 120 Tryz.underlying33 hiH.out hz0H.out hz1H.out hz2H.out rfl (by decide) (.slice (some ⟨w.heap.size, 0, none⟩) 0 0) 0 [] (by rfl) (by exact row_made rfl) (.slice (some a) n fc) n xs (by rfl) (hsrcH.out _) (by exact honeH.out) (by omega) (by omega) ?_; intro ad' c' w5 hown5 hgrow5 hnil5 hat5; have hs5 := Lib.hid (Step.tailNew (T2 := [w.heap.size]) (Step.alloc (T := []) (g := id) (w := w) (.cells #[] 38)) (.grown hgrow5 (fun k hk => by cases hk; simp)) (by simp)); have hown5H := Lib.hid hown5; have hat5H := Lib.hid hat5; clear hown5 hgrow5 hnil5 hat5))
  go_ret
  unfold ClonedF
  rw [← hnH.out]
  have e0 : 0 + n = n := Nat.zero_add n
  have h5 := hown5H.out
  have h6 := hat5H.out
  rw [e0, List.nil_append] at h5
  rw [e0] at h6
  refine ⟨ad', c', xs, rfl, h5, hrowH.out.keep (fun _ _ h => h) (fun i k _ hk => (hs5.out.keep k hk (by simp)).2), hs5.out, fun k hk => ?_⟩
  rcases h6 with h | h
  ·rw [h] at hk; cases hk; exact Nat.le_refl _
  ·rw [h] at hk; cases hk; simp
set_option maxRecDepth 100000 in
set_option maxHeartbeats 4000000 in
theorem clone_l {P : Nat → Prop} {w : World} {l : List Val} {la : Option Addr} {lc : Nat} (hl : LIs P w l la 0) (hc : l.length ≤ lc) (ha : la = none → lc = 0) (hs : l.length ≤ 100000000) :
  Calls Tryz.prog 51 #[.slice la l.length lc] w (ClonedL P w l) := by
 obtain ⟨xs, hsrc, hrow, hone⟩ := hl.src hc ha
 obtain ⟨n, hn⟩ : ∃ n, n = l.length := ⟨_, rfl⟩
 rw [← hn] at hc hs hsrc
 rw [show (Value.slice la l.length lc) = .slice la n lc by rw [hn]]
 have hxl : xs.length = n * 6 := by rw [hn]; exact hrow.1
 have hrowH := Lib.hid hrow
 have hsrcH := Lib.hid (show ∀ o, Src (w.alloc o) 6 (.slice la n lc) n xs from fun o => ⟨hsrc.1, hsrc.2.imp id (fun ⟨ad, c, e1, e2⟩ => ⟨ad, c, e1, fun j u hj => by
  have := e2 j u hj
  exact (World.cell?_of_block (a := ad.add j) ((World.grownBy_alloc w o none).block _ (World.block_lt_of_cell? w _ this) (by simp))).trans this⟩)⟩)
 have honeH := Lib.hid hone
 have hnH := Lib.hid hn
 have hxlH := Lib.hid hxl
 obtain ⟨i0, hi, hz0, hz1, hz2⟩ := info_split info_value
 have hiH := Lib.hid hi
 have hz0H := Lib.hid hz0
 have hz1H := Lib.hid hz1
 have hz2H := Lib.hid hz2
 clear hl hsrc hrow hone hn hxl hi hz0 hz1 hz2
 have hnil := fun (w : World) (a : Option Addr) (l c : Nat) => Lib.run_eql_slice_nil w 22 35 a l c 0 0 Tryz.underlying22
 go_enter Tryz.func51, Tryz.ntmps51
 cases la with
 | none =>
  obtain rfl := ha rfl
  obtain rfl : n = 0 := by omega
  go_wp2_with fail
  go_ret
  have hx0 : xs = [] := List.eq_nil_of_length_eq_zero (by rw [hxlH.out])
  unfold ClonedL
  rw [← hnH.out]
  exact ⟨none, 0, xs, rfl, by rw [hx0]; exact ⟨by simp, .inl ⟨rfl, rfl⟩⟩, hrowH.out, Step.refl _ _ _, fun k hk => by cases hk⟩
 | some a =>
  clear ha
  go_wp2_with (at_builtin; (refine wpList_app rfl _ _ 22 rfl 35 i0 _ 6 104 Tryz.underlying22 hiH.out hz0H.out hz1H.out hz2H.out rfl (by decide) (.slice (some ⟨w.heap.size, 0, none⟩) 0 0) 0 [] (by rfl) (by exact row_made rfl) (.slice (some a) n lc) n xs (by rfl) (hsrcH.out _) (by exact honeH.out) (by omega) (by omega) ?_; intro ad' c' w5 hown5 hgrow5 hnil5 hat5; have hs5 := Lib.hid (Step.tailNew (T2 := [w.heap.size]) (Step.alloc (T := []) (g := id) (w := w) (.cells #[] 35)) (.grown hgrow5 (fun k hk => by cases hk; simp)) (by simp)); have hown5H := Lib.hid hown5; have hat5H := Lib.hid hat5; clear hown5 hgrow5 hnil5 hat5))
  go_ret
  unfold ClonedL
  rw [← hnH.out]
  have e0 : 0 + n = n := Nat.zero_add n
  have h5 := hown5H.out
  have h6 := hat5H.out
  rw [e0, List.nil_append] at h5
  rw [e0] at h6
  refine ⟨ad', c', xs, rfl, h5, hrowH.out.keep (fun _ _ h => h) (fun i k _ hk => (hs5.out.keep k hk (by simp)).2), hs5.out, fun k hk => ?_⟩
  rcases h6 with h | h
  ·rw [h] at hk; cases hk; exact Nat.le_refl _
  ·rw [h] at hk; cases hk; simp
/-- Bytes, cloned. -/
def ClonedB (w : World) (b : Bs) (e : Ending) (w' : World) : Prop :=
 ∃ v, e = .returned v ∧ Row w' v b ∧ Step [] id id w w' ∧ ∀ k, v.ownBlock = some k → w.heap.size ≤ k
set_option maxRecDepth 100000 in
theorem clone_none (w : World) : Calls Tryz.prog 49 #[.slice none 0 0] w fun e w' => e = .returned (.slice none 0 0) ∧ w = w' := by
 have hnil := fun w : World => Lib.run_eql_slice_nil w 32 5 none 0 0 0 0 Tryz.underlying32
 go_enter Tryz.func49, Tryz.ntmps49
 go_wp2_with fail
 go_ret
 exact ⟨rfl, rfl⟩
theorem clone_b {P : Nat → Prop} {w : World} {ba : Option Addr} {n bc : Nat} {b : Bs} (hb : BIn P w (.slice ba n bc) b) (hn : n = b.length) (hs : n ≤ 100000000) : Calls Tryz.prog 49 #[.slice ba n bc] w (ClonedB w b) := by
 have hsome : ∀ a, ba = some a → Lie w a b → Calls Tryz.prog 49 #[.slice ba n bc] w (ClonedB w b) := fun a e h => by
  subst e
  refine (bs_clone a n bc b w hn (by omega) h).mono fun e w' ⟨v, h1, _, h3, h4, h5⟩ => ⟨v, h1, h3, h4, h5⟩
 rcases hb with ⟨a, c, e, rfl, h0⟩ | ⟨g, o, c, e, _, _, hc⟩
 ·injection e with e1 e2 e3
  subst e1 e3
  cases ba with
  | none =>
   obtain rfl := h0 rfl
   subst e2
   refine (clone_none w).mono ?_
   rintro e w' ⟨rfl, rfl⟩
   exact ⟨_, rfl, ⟨by simp, .inl ⟨rfl, rfl⟩⟩, Step.refl _ _ _, fun k hk => by cases hk⟩
  | some a => exact hsome a rfl (fun i hi => by simp at hi)
 ·injection e with e1 e2 e3
  exact hsome _ e1 (fun i hi => by rw [addr_add]; exact hc i hi)
end Go.Proofs.YtembpajlllnncaaGreatDoor
namespace Go.Proofs.YtembpajlllnncaaGreatDoor
open Go.RowKit

/-- Blocks of the copy's own, besides those of its three rows. -/
def Within (w : World) (bv fv lv : Value) (k : Nat) : Prop := w.heap.size ≤ k ∧ bv.ownBlock ≠ some k ∧ fv.ownBlock ≠ some k ∧ lv.ownBlock ≠ some k
/-- What Copy answers: all its blocks are new, its three rows are its own. -/
def CopyP (x : Val) (w : World) (e : Ending) (w' : World) : Prop :=
 ∃ ba bc fa fc la lc xs ys, e = .returned (.agg #[.int .i64 x.kind, .int .i64 x.num, .string (strOf x.s), .slice ba x.b.length bc, .slice fa x.f.length fc, .slice la x.l.length lc]) ∧
  Row w' (.slice ba x.b.length bc) x.b ∧ w'.ownsRow 0 38 7 (.slice fa x.f.length fc) x.f.length xs ∧ w'.ownsRow 0 35 6 (.slice la x.l.length lc) x.l.length ys ∧
  FRow (fun _ => Within w (.slice ba x.b.length bc) (.slice fa x.f.length fc) (.slice la x.l.length lc)) w' x.f xs ∧
  LRow (fun _ => Within w (.slice ba x.b.length bc) (.slice fa x.f.length fc) (.slice la x.l.length lc)) w' x.l ys ∧ Step [] id id w w' ∧
  (∀ k, (Value.slice ba x.b.length bc).ownBlock = some k → w.heap.size ≤ k) ∧ (∀ k, (Value.slice fa x.f.length fc).ownBlock = some k → w.heap.size ≤ k ∧ (Value.slice ba x.b.length bc).ownBlock ≠ some k) ∧
  (∀ k, (Value.slice la x.l.length lc).ownBlock = some k → w.heap.size ≤ k ∧ (Value.slice ba x.b.length bc).ownBlock ≠ some k ∧ (Value.slice fa x.f.length fc).ownBlock ≠ some k)
def CopyC (N : Nat) : Prop := ∀ (P : Nat → Prop) (x : Val) (cs : List Value) (w : World), SizeOf.sizeOf x < N → weightV x ≤ 100000000 → VIs P w x cs → Calls Tryz.prog 36 #[.agg cs.toArray] w (CopyP x w)
theorem weight_f {x : Val} (h : weightV x ≤ 100000000) : x.s.length ≤ 100000000 ∧ x.b.length ≤ 100000000 ∧ weightFs x.f ≤ 100000000 ∧ weightLs x.l ≤ 100000000 := by rw [weightV_eq] at h; omega
theorem weightFs_get : ∀ (f : List (Bs × Val)) (i : Nat) (h : i < f.length), weightV f[i].2 ≤ weightFs f
 | (nm, v) :: r, 0, _ => by simp [weightFs]; omega
 | (nm, v) :: r, i + 1, h => by
  have := weightFs_get r i (by simpa using h)
  simp [weightFs]; omega
theorem weightLs_get : ∀ (f : List Val) (i : Nat) (h : i < f.length), weightV f[i] ≤ weightLs f
 | v :: r, 0, _ => by simp [weightLs]
 | v :: r, i + 1, h => by
  have := weightLs_get r i (by simpa using h)
  simp [weightLs]; omega
theorem weightFs_len : ∀ f : List (Bs × Val), f.length ≤ weightFs f
 | [] => by simp
 | (nm, v) :: r => by
  have := weightFs_len r
  have := weightV_pos v
  simp [weightFs]; omega
/-- A copy reads as the value. -/
theorem CopyP.is {P : Nat → Prop} {x : Val} {cs : List Value} {wx w w' : World} {e : Ending} (h : CopyP x w e w') (hx : VIs P wx x cs) : ∃ ds : List Value, e = .returned (.agg ds.toArray) ∧ VIs (fun k => w.heap.size ≤ k) w' x ds ∧ Step [] id id w w' := by
 obtain ⟨ba, bc, fa, fc, la, lc, xs, ys, rfl, hb, hf, hl, hfr, hlr, hs, n1, n2, n3⟩ := h
 obtain ⟨_, _, _, _, _, _, _, _, hk, hlen, _, _⟩ := hx.cells
 obtain ⟨f1, f2, f3⟩ := hfr.is (Q := fun k => w.heap.size ≤ k) hf (fun _ _ h => h.1) (fun k hk => (n2 k hk).1)
 obtain ⟨l1, l2, l3⟩ := hlr.is (Q := fun k => w.heap.size ≤ k) hl (fun _ _ h => h.1) (fun k hk => (n3 k hk).1)
 refine ⟨[_, _, _, _, _, _], rfl, VIs.mk ⟨_, fa, fc, la, lc, rfl, ?_, ⟨f2, l2, f3, l3⟩, hk, hlen, f1, l1⟩, hs⟩
 rcases hb.bytes with ⟨e, h0⟩ | ⟨g, o, cap, e, h1, h2, h3⟩
 ·rw [e]; rw [h0]; exact .inl ⟨none, 0, rfl, rfl, fun _ => rfl⟩
 ·rw [e]
  exact .inr ⟨g, o, cap, rfl, h1, n1 g (by rw [e]; rfl), h3⟩
theorem results_c2 {fn : Func} {tmps : Array Value} {w : World} {V : Nat} {v0 v1 v2 v3 v4 v5 : Value} {t : TypeId} (hfn : fn.results = #[.cell 2 35]) (ht : tmps.getD 2 undef = .pointer (some ⟨V, 0, none⟩)) (hb : w.heap[V]? = some (.cells #[v0, v1, v2, v3, v4, v5] t (0, 0))) :
  (results fn tmps).run Tryz.prog w = .ok (.agg #[v0, v1, v2, v3, v4, v5]) w := by
 have p0 := cell_blk hb (i := 0) rfl
 have p1 := cell_blk hb (i := 1) rfl
 have p2 := cell_blk hb (i := 2) rfl
 have p3 := cell_blk hb (i := 3) rfl
 have p4 := cell_blk hb (i := 4) rfl
 have p5 := cell_blk hb (i := 5) rfl
 simp at p0 p1 p2 p3 p4 p5
 have ht' : tmps[2]?.getD undef = .pointer (some ⟨V, 0, none⟩) := by simpa using ht
 simp [results, hfn, ht', go_sem, p0, p1, p2, p3, p4, p5]
theorem setCell_grown (w : World) (B i : Nat) (v : Value) : w.grownBy (w.setCell ⟨B, i, none⟩ v) (some B) := ⟨rfl, rfl, rfl, by simp [World.setCell], fun k _ hk => Below.heap_setCell _ _ _ _ (fun e => hk (by rw [e]))⟩
set_option maxRecDepth 100000 in
set_option maxHeartbeats 8000000 in
theorem copy_step (N : Nat) (ih : CopyC N) : CopyC (N + 1) := by
 intro P x cs w hN hwt hx
 obtain ⟨bv, fa, fc, la, lc, hcs, hb, ⟨hfc, hlc, hfn, hln⟩, -, -, hf, hl⟩ := hx.cells
 obtain ⟨ba, bc, rfl⟩ := hb.shape
 obtain ⟨w1, w2, w3, w4⟩ := weight_f hwt
 have hfl := weightFs_len x.f
 have hll := weightLs_len x.l
 obtain ⟨n0, hn0⟩ : ∃ k, k = x.num := ⟨_, rfl⟩
 obtain ⟨k0, hk0⟩ : ∃ k, k = x.kind := ⟨_, rfl⟩
 obtain ⟨s0, hs0⟩ : ∃ k, k = strOf x.s := ⟨_, rfl⟩
 obtain ⟨bn, hbn⟩ : ∃ k, k = x.b.length := ⟨_, rfl⟩
 obtain ⟨ln, hlnn⟩ : ∃ k, k = x.l.length := ⟨_, rfl⟩
 obtain ⟨fn, hfnn⟩ : ∃ k, k = x.f.length := ⟨_, rfl⟩
 rw [← hk0, ← hn0, ← hs0, ← hbn, ← hlnn, ← hfnn] at hcs
 subst hcs
 have hbn3 : bn ≤ 100000000 := by omega
 have hfn3 : fn ≤ 100000000 := by omega
 have hln3 : ln ≤ 100000000 := by omega
 obtain ⟨W1, hW1⟩ : ∃ W1, W1 = w.alloc (.cells #[.int .i64 k0, .int .i64 n0, .string s0, .slice ba bn bc, .slice fa fn fc, .slice la ln lc] 35) := ⟨_, rfl⟩
 obtain ⟨W2, hW2⟩ : ∃ W2, W2 = W1.alloc (.cells #[.int .i64 0, .int .i64 0, (.string ⟨#[]⟩), (.slice none 0 0), (.slice none 0 0), (.slice none 0 0)] 35) := ⟨_, rfl⟩
 have z1 : W1.heap.size = w.heap.size + 1 := by rw [hW1]; simp
 have hst2 : Step [] id id w W2 := by rw [hW2, hW1]; exact (Step.alloc _).tail (Step.alloc _)
 have hV : W2.heap[w.heap.size]? = some (.cells #[.int .i64 k0, .int .i64 n0, .string s0, .slice ba bn bc, .slice fa fn fc, .slice la ln lc] 35 (0, 0)) := by rw [hW2]; refine alloc_old ?_; rw [hW1]; exact heap_alloc_new w _
 have hR : W2.heap[w.heap.size + 1]? = some ((.cells #[.int .i64 0, .int .i64 0, (.string ⟨#[]⟩), (.slice none 0 0), (.slice none 0 0), (.slice none 0 0)] 35)) := by rw [hW2, ← z1]; exact heap_alloc_new W1 _
 have hbC := Lib.hid (clone_b (w := W2) (hb.keep (P2 := P) (fun _ h => h) (fun k hP hk => (hst2.keep k hk (by simp)).2)) rfl (by omega))
 rw [← hbn] at hbC
 have hfH := Lib.hid (FIs.below x.f fa 0 hf)
 have hlH := Lib.hid (LIs.below x.l la 0 hl)
 have hVH := Lib.hid hV
 have hRH := Lib.hid hR
 have hst2H := Lib.hid hst2
 have hW1H := Lib.hid hW1
 have hW2H := Lib.hid hW2
 have hfnH := Lib.hid hfnn
 have hlnH := Lib.hid hlnn
 have hbnH := Lib.hid hbn
 have hk0H := Lib.hid hk0
 have hn0H := Lib.hid hn0
 have hs0H := Lib.hid hs0
 have hfc' : fn ≤ fc := by omega
 have hlc' : ln ≤ lc := by omega
 have hfnz := Lib.hid hfn
 have hlnz := Lib.hid hln
 clear hx hf hl hb hV hR hst2 hW1 hW2 z1 hfnn hlnn hbn hk0 hn0 hs0 hfc hlc hfn hln w1 w2 w3 w4 hfl hll
 go_enter Tryz.func36, Tryz.ntmps36
 go_wp2_with fail
 rw [← hW1H.out, ← hW2H.out]
 refine hbC.out.mono ?_
 rintro e w3 ⟨bv', rfl, hb3, hs3, hn3⟩
 obtain ⟨ba3, bc3, rfl⟩ := hb3.shape
 rw [← hbnH.out] at hb3 hn3 ⊢
 have hV3 := hs3.at hVH.out (by simp)
 have hR3 := hs3.at hRH.out (by simp)
 have hW2z : W2.heap.size = w.heap.size + 2 := by rw [hW2H.out, hW1H.out]; simp
 have hVl : w.heap.size < w3.heap.size := lt_of_block hV3
 obtain ⟨W4, hW4⟩ : ∃ W4, W4 = w3.setCell ⟨w.heap.size, 3, none⟩ (.slice ba3 bn bc3) := ⟨_, rfl⟩
 have hV4 : W4.heap[w.heap.size]? = some (.cells #[.int .i64 k0, .int .i64 n0, .string s0, .slice ba3 bn bc3, .slice fa fn fc, .slice la ln lc] 35 (0, 0)) := by rw [hW4]; exact set_blk hV3 3 _
 have hg34 : w3.grownBy W4 (some w.heap.size) := by rw [hW4]; exact setCell_grown _ _ _ _
 have hs24 : Step [w.heap.size] id id W2 W4 := (hs3.mono (by simp)).tail (.grown hg34 (fun k hk => by cases hk; simp))
 have hst4 : Step [] id id w W4 := hst2H.out.tailNew hs24 (fun r hr => .inr (by rw [List.mem_singleton] at hr; omega))
 have hb4 : Row W4 (.slice ba3 bn bc3) x.b := ownsRow_other hb3 hg34 (fun k hk => by have := hn3 k hk; omega)
 have hR4 := (hg34.block _ (lt_of_block hR3) (by simp)).trans hR3
 have hfC := clone_f (w := W4) (hfH.out.keep (P2 := fun k => P k ∧ k < w.heap.size) (fun _ h => h) (fun k hP hk => (hst4.keep k hk (by simp)).2) _ _ _) (by rw [← hfnH.out]; exact hfc') hfnz.out (by rw [← hfnH.out]; exact hfn3)
 rw [← hfnH.out] at hfC
 have hfCH := Lib.hid hfC
 have v3 := cell_blk hV3 (i := 3) rfl
 have v4 := cell_blk hV3 (i := 4) rfl
 have fr3 := free_blk hV3 3
 have hW4H := Lib.hid hW4
 have hb4H := Lib.hid hb4
 have hV4H := Lib.hid hV4
 have hR4H := Lib.hid hR4
 have hst4H := Lib.hid hst4
 have hn3H := Lib.hid hn3
 have hW4z : W2.heap.size ≤ W4.heap.size := hs24.size
 clear hb3 hs3 hV3 hR3 hW4 hV4 hg34 hs24 hst4 hb4 hR4 hfC hbC hn3
 go_wp2_with fail
 rw [← hW4H.out]
 clear v3 v4 fr3 hVl
 refine hfCH.out.mono ?_
 rintro e w5 h
 obtain ⟨va, vc, xs, rfl, hown, hrow, hs5, hnew⟩ := h
 rw [← hfnH.out] at hown hnew ⊢
 have hV5 := hs5.at hV4H.out (by simp)
 have hR5 := hs5.at hR4H.out (by simp)
 have hVl : w.heap.size < w5.heap.size := lt_of_block hV5
 have hown0 : ∀ k, (Value.slice va fn vc).ownBlock = some k → w.heap.size + 2 ≤ k := fun k hk => by have := hnew k hk; omega
 obtain ⟨W6, hW6⟩ : ∃ W6, W6 = w5.setCell ⟨w.heap.size, 4, none⟩ (.slice va fn vc) := ⟨_, rfl⟩
 have hV6 : W6.heap[w.heap.size]? = some (.cells #[.int .i64 k0, .int .i64 n0, .string s0, .slice ba3 bn bc3, .slice va fn vc, .slice la ln lc] 35 (0, 0)) := by rw [hW6]; exact set_blk hV5 4 _
 have hg56 : w5.grownBy W6 (some w.heap.size) := by rw [hW6]; exact setCell_grown _ _ _ _
 have hs46 : Step [w.heap.size] id id W4 W6 := (hs5.mono (by simp)).tail (.grown hg56 (fun k hk => by cases hk; simp))
 have hst6 : Step [] id id w W6 := hst4H.out.tailNew hs46 (fun r hr => .inr (by rw [List.mem_singleton] at hr; omega))
 have hown6 := ownsRow_other hown hg56 (fun k hk => by have := hown0 k hk; omega)
 have hrow6 : FRow (fun _ k => P k ∧ k < w.heap.size) W6 x.f xs := hrow.keep (fun _ _ h => h) (fun _ k hP hk => hg56.block k hk (by intro e; injection e with e; have := hP.2; omega))
 have hb6 : Row W6 (.slice ba3 bn bc3) x.b := ownsRow_step hb4H.out hs46 (fun k hk => by have := hn3H.out k hk; simp; omega)
 have hR6 := (hg56.block _ (lt_of_block hR5) (by simp)).trans hR5
 have v3 := cell_blk hV5 (i := 3) rfl
 have v4 := cell_blk hV5 (i := 4) rfl
 have fr4 := free_blk hV5 4
 have hW6H := Lib.hid hW6
 have hV6H := Lib.hid hV6
 have hR6H := Lib.hid hR6
 have hown6H := Lib.hid hown6
 have hrow6H := Lib.hid hrow6
 have hb6H := Lib.hid hb6
 have hst6H := Lib.hid hst6
 have hnewH := Lib.hid hnew
 have hown0H := Lib.hid hown0
 have hW6z : W4.heap.size ≤ W6.heap.size := hs46.size
 have hbnew := Lib.hid (show ∀ k, (Value.slice ba3 bn bc3).ownBlock = some k → k < W4.heap.size from fun k hk => (World.ownsRow.lt hb4H.out k hk).2)
 clear hown hrow hs5 hnew hV5 hR5 hown0 hW6 hV6 hg56 hs46 hst6 hown6 hrow6 hb6 hR6 hfCH
 go_wp2_with fail
 rw [← hW6H.out]
 clear v3 v4 fr4 hVl
 go_loopw [18] (fun i wr => ∃ j : Nat, i = .int .i64 j ∧ j ≤ fn ∧ ∃ xs, wr.ownsRow 0 38 7 (.slice va fn vc) fn xs ∧ FRow (fun i k => (i < j ∧ W6.heap.size ≤ k) ∨ (j ≤ i ∧ P k ∧ k < w.heap.size)) wr x.f xs ∧ Step (Value.slice va fn vc).ownBlock.toList id id W6 wr) (fun i _ => fn - (intOf i).toNat)
 case atStart => exact ⟨0, rfl, Nat.zero_le _, xs, hown6H.out, hrow6H.out.keep (fun i k h => .inr ⟨Nat.zero_le _, h⟩) (fun _ _ _ _ => rfl), Step.refl _ _ _⟩
 case round =>
  obtain ⟨j, rfl, hj, ys, hown, hrow, hst⟩ := hrel
  have hVr := hst.at hV6H.out (by intro h; have := hown0H.out _ (by simpa using h); omega)
  have v4 := cell_blk hVr (i := 4) rfl
  have v5 := cell_blk hVr (i := 5) rfl
  have hVl : w.heap.size < wr.heap.size := lt_of_block hVr
  by_cases hjl : j < fn
  ·have hjl1 : (j : Int) < (fn : Int) := by omega
   obtain ⟨g, hva⟩ : ∃ g, va = some ⟨g, 0, none⟩ := by
    rcases hown.2 with ⟨e, -⟩ | ⟨g, cap, cur, e, -⟩
    ·injection e with _ e2 _; omega
    ·injection e with e1 _ _; exact ⟨g, e1⟩
   subst hva
   have hgl : w.heap.size + 2 ≤ g := hown0H.out g rfl
   have hjx : j < x.f.length := by rw [← hfnH.out]; exact hjl
   obtain ⟨hnl, cs, hpc, hxj⟩ := hrow.2 j hjx
   obtain ⟨s1, ba2, bn2, bc2, fa2, fn2, fc2, la2, ln2, lc2, hcs, -⟩ := hxj.six
   have hsz : SizeOf.sizeOf x.f[j].2 < N := by
    have h1 := hN
    cases x
    exact Nat.lt_of_lt_of_le (f_size hjx) (Nat.le_of_lt_succ hN)
   have hwj : weightV x.f[j].2 ≤ 100000000 := by have h1 := weightFs_get x.f j hjx; have h2 := (weight_f hwt).2.2.1; omega
   obtain ⟨y, hy⟩ : ∃ y, y = x.f[j].2 := ⟨_, rfl⟩
   obtain ⟨nm, hnm⟩ : ∃ y, y = strOf x.f[j].1 := ⟨_, rfl⟩
   rw [← hy] at hxj hcs hsz hwj
   rw [← hnm] at hpc
   obtain ⟨n1, hn1⟩ : ∃ k, k = y.num := ⟨_, rfl⟩
   obtain ⟨k1, hk1⟩ : ∃ k, k = y.kind := ⟨_, rfl⟩
   rw [← hk1, ← hn1] at hcs
   subst hcs
   have hq : ∀ t u, t < 7 → [Value.string nm, .int .i64 k1, .int .i64 n1, .string s1, .slice ba2 bn2 bc2, .slice fa2 fn2 fc2, .slice la2 ln2 lc2][t]? = some u → wr.cell? ⟨g, j * 7 + t, none⟩ = some u := fun t u ht hu => by
    have h8 := World.ownsRow.cells hown (g := g) rfl (j * 7 + t) u (by rw [← piece_get 7 ys j t ht, hpc]; exact hu)
    rw [addr_add, Nat.zero_add] at h8
    exact h8
   have q0 := hq 0 _ (by omega) rfl
   have q1 := hq 1 _ (by omega) rfl
   have q2 := hq 2 _ (by omega) rfl
   have q3 := hq 3 _ (by omega) rfl
   have q4 := hq 4 _ (by omega) rfl
   have q5 := hq 5 _ (by omega) rfl
   have q6 := hq 6 _ (by omega) rfl
   rw [Nat.add_zero] at q0
   have hgr : g < wr.heap.size := World.block_lt_of_cell? wr _ q0
   have hcall := Lib.hid (fun (W : World) (hW : Step [] id id wr W) => ih _ y _ W hsz hwj (hxj.keep (P2 := fun _ => True) (fun _ _ => trivial) (fun k hP hk => (hW.keep k hk (by simp)).2)))
   have hwrap : IntKind.i64.wrap ((j : Int) + 1) = (j : Int) + 1 := IntWalk.i64_in _ (by omega)
   have hjvc : (j : Int) < (vc : Int) ∨ True := Or.inr trivial
   have hownH := Lib.hid hown
   have hrowH := Lib.hid hrow
   have hstH := Lib.hid hst
   have hVrH := Lib.hid hVr
   have hyH := Lib.hid hy
   have hxjH := Lib.hid hxj
   have hpcH := Lib.hid hpc
   clear hown hrow hst hVr hy hxj hpc hn1 hk1 hnm hq hnl hjvc
   go_wp2_with fail
   obtain ⟨W7, hW7⟩ : ∃ W7, W7 = wr.alloc (.cells #[.string nm, .int .i64 k1, .int .i64 n1, .string s1, .slice ba2 bn2 bc2, .slice fa2 fn2 fc2, .slice la2 ln2 lc2] 38) := ⟨_, rfl⟩
   rw [← hW7]
   have hs7 : Step [] id id wr W7 := by rw [hW7]; exact Step.alloc _
   have hD : W7.heap[wr.heap.size]? = some (.cells #[.string nm, .int .i64 k1, .int .i64 n1, .string s1, .slice ba2 bn2 bc2, .slice fa2 fn2 fc2, .slice la2 ln2 lc2] 38 (0, 0)) := by rw [hW7]; exact heap_alloc_new _ _
   have hW7z : W7.heap.size = wr.heap.size + 1 := by rw [hW7]; simp
   have hV7 := hs7.at hVrH.out (by simp)
   have e4 := cell_blk hV7 (i := 4) rfl
   have d1 := cell_blk hD (i := 1) rfl
   have d2 := cell_blk hD (i := 2) rfl
   have d3 := cell_blk hD (i := 3) rfl
   have d4 := cell_blk hD (i := 4) rfl
   have d5 := cell_blk hD (i := 5) rfl
   have d6 := cell_blk hD (i := 6) rfl
   have hs7H := Lib.hid hs7
   have hV7H := Lib.hid hV7
   have hDH := Lib.hid hD
   clear hW7 hs7 hV7 hD q0 q1 q2 q3 q4 q5 q6 v4 v5
   refine wp_region_held_drew (S := fun w' => w'.cell? ⟨w.heap.size, 4, none⟩ = some (.slice (some ⟨g, 0, none⟩) fn vc) ∧ w'.cell? ⟨wr.heap.size, 1, none⟩ = some (.int .i64 k1) ∧ w'.cell? ⟨wr.heap.size, 2, none⟩ = some (.int .i64 n1) ∧ w'.cell? ⟨wr.heap.size, 3, none⟩ = some (.string s1) ∧ w'.cell? ⟨wr.heap.size, 4, none⟩ = some (.slice ba2 bn2 bc2) ∧ w'.cell? ⟨wr.heap.size, 5, none⟩ = some (.slice fa2 fn2 fc2) ∧ w'.cell? ⟨wr.heap.size, 6, none⟩ = some (.slice la2 ln2 lc2)) (by kernel_rfl) ⟨e4, d1, d2, d3, d4, d5, d6⟩ (fun hHeld => ?_)
   refine tkH 0 ?_ rfl (by kernel_rfl) (fun _ _ _ h => h) ?_ hHeld ?_
   rotate_left
   ·intro w' hSw; (try dsimp only at hSw); go_simp
    all_goals (with_reducible rfl)
   simp only [zP, zO, zA, zB, zC, zD, zE, zF]
   refine tkH 1 ?_ rfl (by kernel_rfl) (fun _ _ _ h => h) ?_ hHeld ?_
   rotate_left
   ·intro w' hSw; (try dsimp only at hSw); go_simp
    all_goals (with_reducible rfl)
   simp only [zP, zO, zA, zB, zC, zD, zE, zF]
   refine tkH 2 ?_ rfl (by kernel_rfl) (fun _ _ _ h => h) ?_ hHeld ?_
   rotate_left
   ·intro w' hSw; (try dsimp only at hSw); go_simp
    all_goals (with_reducible rfl)
   simp only [zP, zO, zA, zB, zC, zD, zE, zF]
   refine tkH 3 ?_ rfl (by kernel_rfl) (fun _ _ _ h => h) ?_ hHeld ?_
   rotate_left
   ·intro w' hSw; (try dsimp only at hSw); go_simp
    all_goals (with_reducible rfl)
   simp only [zP, zO, zA, zB, zC, zD, zE, zF]
   refine tkH 4 ?_ rfl (by kernel_rfl) (fun _ _ _ h => h) ?_ hHeld ?_
   rotate_left
   ·intro w' hSw; (try dsimp only at hSw); go_simp
    all_goals (with_reducible rfl)
   simp only [zP, zO, zA, zB, zC, zD, zE, zF]
   refine wpAnyH_ready (rs := [5]) (by kernel_rfl) (by simp) ?_
   refine AllReadyH.cons (o := _) rfl (fun K hK => ?_) AllReadyH.nil
   go_simp
   refine (hcall.out W7.drew (hs7H.out.tail Step.drew)).mono ?_
   rintro e w9 hcp
   obtain ⟨ds, rfl, hxd, hs9⟩ := hcp.is hxjH.out
   obtain ⟨s9, ba9, bn9, bc9, fa9, fn9, fc9, la9, ln9, lc9, hds, -⟩ := hxd.six
   obtain ⟨n9, hn9⟩ : ∃ k, k = y.num := ⟨_, rfl⟩
   obtain ⟨k9, hk9⟩ : ∃ k, k = y.kind := ⟨_, rfl⟩
   rw [← hk9, ← hn9] at hds
   subst hds
   have hV9 := hs9.at hV7H.out (by simp)
   have hD9 := hs9.at hDH.out (by simp)
   have x4 := cell_blk hV9 (i := 4) rfl
   have x1 := cell_blk hD9 (i := 1) rfl
   have x2 := cell_blk hD9 (i := 2) rfl
   have x3 := cell_blk hD9 (i := 3) rfl
   have x5 := cell_blk hD9 (i := 4) rfl
   have x6 := cell_blk hD9 (i := 5) rfl
   have x7 := cell_blk hD9 (i := 6) rfl
   have hs9r : Step [] id id wr w9 := (hs7H.out.tail Step.drew).tail hs9
   have hs9H := Lib.hid hs9r
   have hxdH := Lib.hid hxd
   have hV9H := Lib.hid hV9
   have hD9H := Lib.hid hD9
   have hs9z := hs9r.size
   have hown9 := ownsRow_step hownH.out hs9r (fun k _ => by simp)
   have hfz := World.ownsRow.frozenAt hown9
   have fz1 := hfz (j * 7 + 1)
   have fz2 := hfz (j * 7 + 1 + 1)
   have fz3 := hfz (j * 7 + 1 + 2)
   have fz4 := hfz (j * 7 + 1 + 3)
   have fz5 := hfz (j * 7 + 1 + 4)
   have fz6 := hfz (j * 7 + 1 + 5)
   have hq9 : ∀ t u, t < 7 → [Value.string nm, .int .i64 k1, .int .i64 n1, .string s1, .slice ba2 bn2 bc2, .slice fa2 fn2 fc2, .slice la2 ln2 lc2][t]? = some u → w9.cell? ⟨g, j * 7 + t, none⟩ = some u := fun t u ht hu => by
    have h8 := World.ownsRow.cells hown9 (g := g) rfl (j * 7 + t) u (by rw [← piece_get 7 ys j t ht, hpcH.out]; exact hu)
    rw [addr_add, Nat.zero_add] at h8
    exact h8
   have r1 := hq9 1 _ (by omega) rfl
   have r2 : w9.cell? ⟨g, j * 7 + 1 + 1, none⟩ = some (.int .i64 n1) := hq9 2 _ (by omega) rfl
   have r3 : w9.cell? ⟨g, j * 7 + 1 + 2, none⟩ = some (.string s1) := by rw [Nat.add_assoc]; exact hq9 3 _ (by omega) rfl
   have r4 : w9.cell? ⟨g, j * 7 + 1 + 3, none⟩ = some (.slice ba2 bn2 bc2) := by rw [Nat.add_assoc]; exact hq9 4 _ (by omega) rfl
   have r5 : w9.cell? ⟨g, j * 7 + 1 + 4, none⟩ = some (.slice fa2 fn2 fc2) := by rw [Nat.add_assoc]; exact hq9 5 _ (by omega) rfl
   have r6 : w9.cell? ⟨g, j * 7 + 1 + 5, none⟩ = some (.slice la2 ln2 lc2) := by rw [Nat.add_assoc]; exact hq9 6 _ (by omega) rfl
   have hown9H := Lib.hid hown9
   clear hcp hxd hs9 hs9r hV9 hD9 hn9 hk9 hown9 hfz hq9
   go_wp2_with fail
   refine hK.out _ _ ?_ (fun hHeld => ?_)
   ·exact ⟨x4, x1, x2, x3, x5, x6, x7⟩
   clear hK K
   refine tkH 6 ?_ rfl (by kernel_rfl) (fun _ _ _ h => h) ?_ hHeld ?_
   rotate_left
   ·intro w' hSw; (try dsimp only at hSw); go_simp
    all_goals (with_reducible rfl)
   simp only [zP, zO, zA, zB, zC, zD, zE, zF]
   refine tkH 7 ?_ rfl (by kernel_rfl) (fun _ _ _ h => h) ?_ hHeld ?_
   rotate_left
   ·intro w' hSw; (try dsimp only at hSw); go_simp
    all_goals (with_reducible rfl)
   simp only [zP, zO, zA, zB, zC, zD, zE, zF]
   refine wpAnyH_ready (rs := [8]) (by kernel_rfl) (by simp) ?_
   refine AllReadyH.cons (o := _) rfl (fun K hK => ?_) AllReadyH.nil
   go_simp
   go_wp2_with fail
   obtain ⟨W10, hW10⟩ : ∃ W10, W10 = setC6 w9 g (j * 7 + 1) (.int .i64 k9) (.int .i64 n9) (.string s9) (.slice ba9 bn9 bc9) (.slice fa9 fn9 fc9) (.slice la9 ln9 lc9) := ⟨_, rfl⟩
   change K _ (setC6 w9 g (j * 7 + 1) (.int .i64 k9) (.int .i64 n9) (.string s9) (.slice ba9 bn9 bc9) (.slice fa9 fn9 fc9) (.slice la9 ln9 lc9))
   rw [← hW10]
   obtain ⟨h10, hg10⟩ := setC6_row (o := j * 7 + 1) (v0 := .int .i64 k9) (v1 := .int .i64 n9) (v2 := .string s9) (v3 := .slice ba9 bn9 bc9) (v4 := .slice fa9 fn9 fc9) (v5 := .slice la9 ln9 lc9) hown9H.out
   rw [← hW10] at h10 hg10
   have hV10 := (hg10.block _ (lt_of_block hV9H.out) (by intro e; injection e with e; omega)).trans hV9H.out
   have hD10 := (hg10.block _ (lt_of_block hD9H.out) (by intro e; injection e with e; omega)).trans hD9H.out
   have y4 := cell_blk hV10 (i := 4) rfl
   have y1 := cell_blk hD10 (i := 1) rfl
   have y2 := cell_blk hD10 (i := 2) rfl
   have y3 := cell_blk hD10 (i := 3) rfl
   have y5 := cell_blk hD10 (i := 4) rfl
   have y6 := cell_blk hD10 (i := 5) rfl
   have y7 := cell_blk hD10 (i := 6) rfl
   have h10H := Lib.hid h10
   have hg10H := Lib.hid hg10
   clear h10 hg10 hV10 hD10 hW10
   refine hK.out _ _ ?_ (fun hHeld => ?_)
   ·exact ⟨y4, y1, y2, y3, y5, y6, y7⟩
   clear hK K
   refine wpAnyH_done (by kernel_rfl) ?_ _
   clear y1 y2 y3 y4 y5 y6 y7 x1 x2 x3 x4 x5 x6 x7 r1 r2 r3 r4 r5 r6 fz1 fz2 fz3 fz4 fz5 fz6 e4 d1 d2 d3 d4 d5 d6 hHeld
   go_wp2_with fail
   go_roundw
   case rel =>
    have hs10 : Step [g] id id wr W10 := (hs9H.out.mono (by simp)).tail (.grown hg10H.out (fun k hk => by cases hk; simp))
    have hg6 : g < W6.heap.size := (World.ownsRow.lt hown6H.out g rfl).2
    have hz6 : W6.heap.size ≤ wr.heap.size := hstH.out.size
    refine ⟨j + 1, by go_num, by omega, _, h10H.out, ?_, hstH.out.tail hs10⟩
    have hr10 := hrowH.out.keep (P2 := fun i k => (i < j ∧ W6.heap.size ≤ k) ∨ (j ≤ i ∧ P k ∧ k < w.heap.size)) (w' := W10) (fun _ _ h => h) (fun i k hP hk => (hs10.keep k hk (by simp; omega)).2)
    have hx10 := hxdH.out.keep (P2 := fun k => W7.heap.size ≤ k) (w' := W10) (fun k hk => hk) (fun k hP hk => hg10H.out.block k hk (by intro e; injection e with e; have : W7.heap.size ≤ k := hP; omega))
    rw [hyH.out] at hx10
    refine (hr10.put hjx hx10).keep (fun i k h => ?_) (fun _ _ _ _ => rfl)
    by_cases hij : i = j
    ·simp only [hij, if_true] at h
     exact .inl ⟨by omega, by omega⟩
    ·simp only [hij, if_false] at h
     rcases h with h | h
     ·exact .inl ⟨by omega, h.2⟩
     ·exact .inr ⟨by omega, h.2⟩
   case measure => simp [intOf]; omega
  ·have hjl1 : ¬ (j : Int) < (fn : Int) := by omega
   obtain rfl : j = fn := by omega
   have hT : ∀ r ∈ (Value.slice va j vc).ownBlock.toList, w.heap.size + 2 ≤ r := fun r hr => hown0H.out r (by simpa using hr)
   have hstw : Step [] id id w wr := hst6H.out.tailNew hst (fun r hr => .inr (by have := hT r hr; omega))
   have hbX : Row wr (.slice ba3 bn bc3) x.b := ownsRow_step hb6H.out hst (fun k hk => by
    intro hm
    have h1 := hnewH.out k (by simpa using hm)
    have h2 := hbnew.out k hk
    omega)
   have hRX := hst.at hR6H.out (by intro h; have h2 : w.heap.size + 2 ≤ w.heap.size + 1 := hT _ h; omega)
   have hrowX : FRow (fun _ k => W6.heap.size ≤ k ∧ k < wr.heap.size) wr x.f ys := ⟨hrow.1, fun i hi => by
    obtain ⟨h1, cs, h2, h3⟩ := hrow.2 i hi
    refine ⟨h1, cs, h2, (VIs.below _ cs h3).keep (fun k hk => ?_) (fun _ _ _ => rfl)⟩
    rcases hk.1 with h | h
    ·exact ⟨h.2, hk.2⟩
    ·exact absurd h.1 (by rw [hfnH.out]; omega)⟩
   have hlC := clone_l (w := wr) (hlH.out.keep (P2 := fun k => P k ∧ k < w.heap.size) (fun _ h => h) (fun k hP hk => (hstw.keep k hk (by simp)).2) _ _ _) (by rw [← hlnH.out]; exact hlc') hlnz.out (by rw [← hlnH.out]; exact hln3)
   rw [← hlnH.out] at hlC
   have hlCH := Lib.hid hlC
   have hz6X : W6.heap.size ≤ wr.heap.size := hst.size
   have hTH := Lib.hid hT
   have hstwH := Lib.hid hstw
   have hbXH := Lib.hid hbX
   have hRXH := Lib.hid hRX
   have hVXH := Lib.hid hVr
   have hrowXH := Lib.hid hrowX
   have hownXH := Lib.hid hown
   clear hT hstw hbX hRX hVr hrowX hown hrow hst hlC
   go_wp2_with fail
   clear v4 v5
   refine hlCH.out.mono ?_
   rintro e w11 h
   obtain ⟨va2, vc2, zs, rfl, hownL, hrowL, hs11, hnewL⟩ := h
   rw [← hlnH.out] at hownL hnewL ⊢
   have hV11 := hs11.at hVXH.out (by simp)
   have hVl11 : w.heap.size < w11.heap.size := lt_of_block hV11
   obtain ⟨W12, hW12⟩ : ∃ W12, W12 = w11.setCell ⟨w.heap.size, 5, none⟩ (.slice va2 ln vc2) := ⟨_, rfl⟩
   have hV12 : W12.heap[w.heap.size]? = some (.cells #[.int .i64 k0, .int .i64 n0, .string s0, .slice ba3 bn bc3, .slice va j vc, .slice va2 ln vc2] 35 (0, 0)) := by rw [hW12]; exact set_blk hV11 5 _
   have hg12 : w11.grownBy W12 (some w.heap.size) := by rw [hW12]; exact setCell_grown _ _ _ _
   have hsX12 : Step [w.heap.size] id id wr W12 := (hs11.mono (by simp)).tail (.grown hg12 (fun k hk => by cases hk; simp))
   have hownL0 : ∀ k, (Value.slice va2 ln vc2).ownBlock = some k → wr.heap.size ≤ k := hnewL
   have hownL12 := ownsRow_other hownL hg12 (fun k hk => by have := hnewL k hk; omega)
   have hrowL12 : LRow (fun _ k => P k ∧ k < w.heap.size) W12 x.l zs := hrowL.keep (fun _ _ h => h) (fun _ k hP hk => hg12.block k hk (by intro e; injection e with e; have := hP.2; omega))
   have x5 := cell_blk hV11 (i := 5) rfl
   have fx5 := free_blk hV11 5
   have hW12H := Lib.hid hW12
   have hV12H := Lib.hid hV12
   have hsX12H := Lib.hid hsX12
   have hownL12H := Lib.hid hownL12
   have hrowL12H := Lib.hid hrowL12
   have hownL0H := Lib.hid hownL0
   have hzX12 : wr.heap.size ≤ W12.heap.size := hsX12.size
   clear hownL hrowL hs11 hnewL hV11 hW12 hV12 hg12 hsX12 hownL0 hownL12 hrowL12 hlCH
   go_wp2_with fail
   rw [← hW12H.out]
   clear x5 fx5 hVl11
   obtain ⟨X1, hX1⟩ : ∃ X1, X1 = wr := ⟨_, rfl⟩
   rw [← hX1] at hzX12 hownL0H hsX12H hownXH hrowXH hVXH hRXH hbXH hstwH hz6X hVl
   clear hX1
   go_loopw [39] (fun i wq => ∃ q : Nat, i = .int .i64 q ∧ q ≤ ln ∧ ∃ zs, wq.ownsRow 0 35 6 (.slice va2 ln vc2) ln zs ∧ LRow (fun i k => (i < q ∧ W12.heap.size ≤ k) ∨ (q ≤ i ∧ P k ∧ k < w.heap.size)) wq x.l zs ∧ Step (Value.slice va2 ln vc2).ownBlock.toList id id W12 wq) (fun i _ => ln - (intOf i).toNat)
   case atStart => exact ⟨0, rfl, Nat.zero_le _, zs, hownL12H.out, hrowL12H.out.keep (fun i k h => .inr ⟨Nat.zero_le _, h⟩) (fun _ _ _ _ => rfl), Step.refl _ _ _⟩
   case round =>
    obtain ⟨q, rfl, hq, us, hown, hrow, hst⟩ := hrel
    have hVr := hst.at hV12H.out (by intro h; have h2 : X1.heap.size ≤ w.heap.size := hownL0H.out _ (by simpa using h); omega)
    have v5 := cell_blk hVr (i := 5) rfl
    have hVl2 : w.heap.size < wr.heap.size := lt_of_block hVr
    by_cases hql : q < ln
    ·have hql1 : (q : Int) < (ln : Int) := by omega
     obtain ⟨g, hva⟩ : ∃ g, va2 = some ⟨g, 0, none⟩ := by
      rcases hown.2 with ⟨e, -⟩ | ⟨g, cap, cur, e, -⟩
      ·injection e with _ e2 _; omega
      ·injection e with e1 _ _; exact ⟨g, e1⟩
     subst hva
     have hgl : X1.heap.size ≤ g := hownL0H.out g rfl
     have hjx : q < x.l.length := by rw [← hlnH.out]; exact hql
     have hxj := hrow.2 q hjx
     obtain ⟨cs, hpc⟩ : ∃ cs, cs = piece 6 us q := ⟨_, rfl⟩
     rw [← hpc] at hxj
     obtain ⟨s1, ba2, bn2, bc2, fa2, fn2, fc2, la2, ln2, lc2, hcs, -⟩ := hxj.six
     have hsz : SizeOf.sizeOf x.l[q] < N := by
      have h1 := hN
      cases x
      exact Nat.lt_of_lt_of_le (l_size hjx) (Nat.le_of_lt_succ hN)
     have hwj : weightV x.l[q] ≤ 100000000 := by have h1 := weightLs_get x.l q hjx; have h2 := (weight_f hwt).2.2.2; omega
     obtain ⟨y, hy⟩ : ∃ y, y = x.l[q] := ⟨_, rfl⟩
     rw [← hy] at hxj hcs hsz hwj
     obtain ⟨n1, hn1⟩ : ∃ k, k = y.num := ⟨_, rfl⟩
     obtain ⟨k1, hk1⟩ : ∃ k, k = y.kind := ⟨_, rfl⟩
     rw [← hk1, ← hn1] at hcs
     subst hcs
     have hq' : ∀ t u, t < 6 → [Value.int .i64 k1, .int .i64 n1, .string s1, .slice ba2 bn2 bc2, .slice fa2 fn2 fc2, .slice la2 ln2 lc2][t]? = some u → wr.cell? ⟨g, q * 6 + t, none⟩ = some u := fun t u ht hu => by
      have h8 := World.ownsRow.cells hown (g := g) rfl (q * 6 + t) u (by rw [← piece_get 6 us q t ht, ← hpc]; exact hu)
      rw [addr_add, Nat.zero_add] at h8
      exact h8
     have q0 := hq' 0 _ (by omega) rfl
     have q1 := hq' 1 _ (by omega) rfl
     have q2 := hq' 2 _ (by omega) rfl
     have q3 := hq' 3 _ (by omega) rfl
     have q4 := hq' 4 _ (by omega) rfl
     have q5 := hq' 5 _ (by omega) rfl
     rw [Nat.add_zero] at q0
     have hgr : g < wr.heap.size := World.block_lt_of_cell? wr _ q0
     have hcall := Lib.hid (fun (W : World) (hW : Step [] id id wr W) => ih _ y _ W hsz hwj (hxj.keep (P2 := fun _ => True) (fun _ _ => trivial) (fun k hP hk => (hW.keep k hk (by simp)).2)))
     have hwrap : IntKind.i64.wrap ((q : Int) + 1) = (q : Int) + 1 := IntWalk.i64_in _ (by omega)
     have hownH := Lib.hid hown
     have hrowH := Lib.hid hrow
     have hstH := Lib.hid hst
     have hVrH := Lib.hid hVr
     have hyH := Lib.hid hy
     have hxjH := Lib.hid hxj
     have hpcH := Lib.hid hpc
     clear hown hrow hst hVr hy hxj hpc hn1 hk1 hq'
     go_wp2_with fail
     obtain ⟨W7, hW7⟩ : ∃ W7, W7 = wr.alloc (.cells #[.int .i64 k1, .int .i64 n1, .string s1, .slice ba2 bn2 bc2, .slice fa2 fn2 fc2, .slice la2 ln2 lc2] 35) := ⟨_, rfl⟩
     rw [← hW7]
     have hs7 : Step [] id id wr W7 := by rw [hW7]; exact Step.alloc _
     have hD : W7.heap[wr.heap.size]? = some (.cells #[.int .i64 k1, .int .i64 n1, .string s1, .slice ba2 bn2 bc2, .slice fa2 fn2 fc2, .slice la2 ln2 lc2] 35 (0, 0)) := by rw [hW7]; exact heap_alloc_new _ _
     have hW7z : W7.heap.size = wr.heap.size + 1 := by rw [hW7]; simp
     have hV7 := hs7.at hVrH.out (by simp)
     have e5 := cell_blk hV7 (i := 5) rfl
     have d0 := cell_blk hD (i := 0) rfl
     have d1 := cell_blk hD (i := 1) rfl
     have d2 := cell_blk hD (i := 2) rfl
     have d3 := cell_blk hD (i := 3) rfl
     have d4 := cell_blk hD (i := 4) rfl
     have d5 := cell_blk hD (i := 5) rfl
     have hs7H := Lib.hid hs7
     have hV7H := Lib.hid hV7
     have hDH := Lib.hid hD
     clear hW7 hs7 hV7 hD q0 q1 q2 q3 q4 q5 v5
     refine wp_region_held_drew (S := fun w' => w'.cell? ⟨w.heap.size, 5, none⟩ = some (.slice (some ⟨g, 0, none⟩) ln vc2) ∧ w'.cell? ⟨wr.heap.size, 0, none⟩ = some (.int .i64 k1) ∧ w'.cell? ⟨wr.heap.size, 1, none⟩ = some (.int .i64 n1) ∧ w'.cell? ⟨wr.heap.size, 2, none⟩ = some (.string s1) ∧ w'.cell? ⟨wr.heap.size, 3, none⟩ = some (.slice ba2 bn2 bc2) ∧ w'.cell? ⟨wr.heap.size, 4, none⟩ = some (.slice fa2 fn2 fc2) ∧ w'.cell? ⟨wr.heap.size, 5, none⟩ = some (.slice la2 ln2 lc2)) (by kernel_rfl) ⟨e5, d0, d1, d2, d3, d4, d5⟩ (fun hHeld => ?_)
     refine tkH 0 ?_ rfl (by kernel_rfl) (fun _ _ _ h => h) ?_ hHeld ?_
     rotate_left
     ·intro w' hSw; (try dsimp only at hSw); go_simp
      all_goals (with_reducible rfl)
     simp only [zP, zO, zA, zB, zC, zD, zE, zF]
     refine tkH 1 ?_ rfl (by kernel_rfl) (fun _ _ _ h => h) ?_ hHeld ?_
     rotate_left
     ·intro w' hSw; (try dsimp only at hSw); go_simp
      all_goals (with_reducible rfl)
     simp only [zP, zO, zA, zB, zC, zD, zE, zF]
     refine tkH 2 ?_ rfl (by kernel_rfl) (fun _ _ _ h => h) ?_ hHeld ?_
     rotate_left
     ·intro w' hSw; (try dsimp only at hSw); go_simp
      all_goals (with_reducible rfl)
     simp only [zP, zO, zA, zB, zC, zD, zE, zF]
     refine tkH 3 ?_ rfl (by kernel_rfl) (fun _ _ _ h => h) ?_ hHeld ?_
     rotate_left
     ·intro w' hSw; (try dsimp only at hSw); go_simp
      all_goals (with_reducible rfl)
     simp only [zP, zO, zA, zB, zC, zD, zE, zF]
     refine wpAnyH_ready (rs := [4]) (by kernel_rfl) (by simp) ?_
     refine AllReadyH.cons (o := _) rfl (fun K hK => ?_) AllReadyH.nil
     go_simp
     refine (hcall.out W7.drew (hs7H.out.tail Step.drew)).mono ?_
     rintro e w9 hcp
     obtain ⟨ds, rfl, hxd, hs9⟩ := hcp.is hxjH.out
     obtain ⟨s9, ba9, bn9, bc9, fa9, fn9, fc9, la9, ln9, lc9, hds, -⟩ := hxd.six
     obtain ⟨n9, hn9⟩ : ∃ k, k = y.num := ⟨_, rfl⟩
     obtain ⟨k9, hk9⟩ : ∃ k, k = y.kind := ⟨_, rfl⟩
     rw [← hk9, ← hn9] at hds
     subst hds
     have hV9 := hs9.at hV7H.out (by simp)
     have hD9 := hs9.at hDH.out (by simp)
     have x4 := cell_blk hV9 (i := 5) rfl
     have x1 := cell_blk hD9 (i := 0) rfl
     have x2 := cell_blk hD9 (i := 1) rfl
     have x3 := cell_blk hD9 (i := 2) rfl
     have x5 := cell_blk hD9 (i := 3) rfl
     have x6 := cell_blk hD9 (i := 4) rfl
     have x7 := cell_blk hD9 (i := 5) rfl
     have hs9r : Step [] id id wr w9 := (hs7H.out.tail Step.drew).tail hs9
     have hs9H := Lib.hid hs9r
     have hxdH := Lib.hid hxd
     have hV9H := Lib.hid hV9
     have hD9H := Lib.hid hD9
     have hs9z := hs9r.size
     have hown9 := ownsRow_step hownH.out hs9r (fun k _ => by simp)
     have hfz := World.ownsRow.frozenAt hown9
     have fz1 := hfz (q * 6)
     have fz2 := hfz (q * 6 + 1)
     have fz3 := hfz (q * 6 + 2)
     have fz4 := hfz (q * 6 + 3)
     have fz5 := hfz (q * 6 + 4)
     have fz6 := hfz (q * 6 + 5)
     have hq9 : ∀ t u, t < 6 → [Value.int .i64 k1, .int .i64 n1, .string s1, .slice ba2 bn2 bc2, .slice fa2 fn2 fc2, .slice la2 ln2 lc2][t]? = some u → w9.cell? ⟨g, q * 6 + t, none⟩ = some u := fun t u ht hu => by
      have h8 := World.ownsRow.cells hown9 (g := g) rfl (q * 6 + t) u (by rw [← piece_get 6 us q t ht, ← hpcH.out]; exact hu)
      rw [addr_add, Nat.zero_add] at h8
      exact h8
     have r1 : w9.cell? ⟨g, q * 6, none⟩ = some (.int .i64 k1) := hq9 0 _ (by omega) rfl
     have r2 := hq9 1 _ (by omega) rfl
     have r3 := hq9 2 _ (by omega) rfl
     have r4 := hq9 3 _ (by omega) rfl
     have r5 := hq9 4 _ (by omega) rfl
     have r6 := hq9 5 _ (by omega) rfl
     have hown9H := Lib.hid hown9
     clear hcp hxd hs9 hs9r hV9 hD9 hn9 hk9 hown9 hfz hq9
     go_wp2_with fail
     refine hK.out _ _ ?_ (fun hHeld => ?_)
     ·exact ⟨x4, x1, x2, x3, x5, x6, x7⟩
     clear hK K
     refine tkH 5 ?_ rfl (by kernel_rfl) (fun _ _ _ h => h) ?_ hHeld ?_
     rotate_left
     ·intro w' hSw; (try dsimp only at hSw); go_simp
      all_goals (with_reducible rfl)
     simp only [zP, zO, zA, zB, zC, zD, zE, zF]
     refine wpAnyH_ready (rs := [6]) (by kernel_rfl) (by simp) ?_
     refine AllReadyH.cons (o := _) rfl (fun K hK => ?_) AllReadyH.nil
     go_simp
     go_wp2_with fail
     obtain ⟨W10, hW10⟩ : ∃ W10, W10 = setC6 w9 g (q * 6) (.int .i64 k9) (.int .i64 n9) (.string s9) (.slice ba9 bn9 bc9) (.slice fa9 fn9 fc9) (.slice la9 ln9 lc9) := ⟨_, rfl⟩
     change K _ (setC6 w9 g (q * 6) (.int .i64 k9) (.int .i64 n9) (.string s9) (.slice ba9 bn9 bc9) (.slice fa9 fn9 fc9) (.slice la9 ln9 lc9))
     rw [← hW10]
     obtain ⟨h10, hg10⟩ := setC6_row (o := q * 6) (v0 := .int .i64 k9) (v1 := .int .i64 n9) (v2 := .string s9) (v3 := .slice ba9 bn9 bc9) (v4 := .slice fa9 fn9 fc9) (v5 := .slice la9 ln9 lc9) hown9H.out
     rw [← hW10] at h10 hg10
     have hV10 := (hg10.block _ (lt_of_block hV9H.out) (by intro e; injection e with e; omega)).trans hV9H.out
     have hD10 := (hg10.block _ (lt_of_block hD9H.out) (by intro e; injection e with e; omega)).trans hD9H.out
     have y4 := cell_blk hV10 (i := 5) rfl
     have y1 := cell_blk hD10 (i := 0) rfl
     have y2 := cell_blk hD10 (i := 1) rfl
     have y3 := cell_blk hD10 (i := 2) rfl
     have y5 := cell_blk hD10 (i := 3) rfl
     have y6 := cell_blk hD10 (i := 4) rfl
     have y7 := cell_blk hD10 (i := 5) rfl
     have h10H := Lib.hid h10
     have hg10H := Lib.hid hg10
     clear h10 hg10 hV10 hD10 hW10
     refine hK.out _ _ ?_ (fun hHeld => ?_)
     ·exact ⟨y4, y1, y2, y3, y5, y6, y7⟩
     clear hK K
     refine wpAnyH_done (by kernel_rfl) ?_ _
     clear y1 y2 y3 y4 y5 y6 y7 x1 x2 x3 x4 x5 x6 x7 r1 r2 r3 r4 r5 r6 fz1 fz2 fz3 fz4 fz5 fz6 e5 d0 d1 d2 d3 d4 d5 hHeld
     go_wp2_with fail
     go_roundw
     case rel =>
      have hs10 : Step [g] id id wr W10 := (hs9H.out.mono (by simp)).tail (.grown hg10H.out (fun k hk => by cases hk; simp))
      have hg6 : g < W12.heap.size := (World.ownsRow.lt hownL12H.out g rfl).2
      have hz6 : W12.heap.size ≤ wr.heap.size := hstH.out.size
      refine ⟨q + 1, by go_num, by omega, _, h10H.out, ?_, hstH.out.tail hs10⟩
      have hr10 := hrowH.out.keep (P2 := fun i k => (i < q ∧ W12.heap.size ≤ k) ∨ (q ≤ i ∧ P k ∧ k < w.heap.size)) (w' := W10) (fun _ _ h => h) (fun i k hP hk => (hs10.keep k hk (by simp; omega)).2)
      have hx10 := hxdH.out.keep (P2 := fun k => W7.heap.size ≤ k) (w' := W10) (fun k hk => hk) (fun k hP hk => hg10H.out.block k hk (by intro e; injection e with e; have : W7.heap.size ≤ k := hP; omega))
      rw [hyH.out] at hx10
      refine (hr10.put hjx hx10).keep (fun i k h => ?_) (fun _ _ _ _ => rfl)
      by_cases hij : i = q
      ·simp only [hij, if_true] at h
       exact .inl ⟨by omega, by omega⟩
      ·simp only [hij, if_false] at h
       rcases h with h | h
       ·exact .inl ⟨by omega, h.2⟩
       ·exact .inr ⟨by omega, h.2⟩
     case measure => simp [intOf]; omega
    ·have hql1 : ¬ (q : Int) < (ln : Int) := by omega
     obtain rfl : q = ln := by omega
     have hT2 : ∀ r ∈ (Value.slice va2 q vc2).ownBlock.toList, X1.heap.size ≤ r := fun r hr => hownL0H.out r (by simpa using hr)
     have hX1z : w.heap.size + 2 ≤ X1.heap.size := by omega
     have hR12 := hsX12H.out.at hRXH.out (by simp)
     have hRr := hst.at hR12 (by intro h; have h2 : X1.heap.size ≤ w.heap.size + 1 := hT2 _ h; omega)
     have v0 := cell_blk hVr (i := 0) rfl
     have v1 := cell_blk hVr (i := 1) rfl
     have v2 := cell_blk hVr (i := 2) rfl
     have v3 := cell_blk hVr (i := 3) rfl
     have v4 := cell_blk hVr (i := 4) rfl
     have r0 := cell_blk hRr (i := 0) rfl
     have r1 := cell_blk hRr (i := 1) rfl
     have r2 := cell_blk hRr (i := 2) rfl
     have r3 := cell_blk hRr (i := 3) rfl
     have r4 := cell_blk hRr (i := 4) rfl
     have r5 := cell_blk hRr (i := 5) rfl
     have fr0 := free_blk hRr 0
     have fr1 := free_blk hRr 1
     have fr2 := free_blk hRr 2
     have fr3 := free_blk hRr 3
     have fr4 := free_blk hRr 4
     have fr5 := free_blk hRr 5
     have hrowLH := Lib.hid hrow
     have hownLH := Lib.hid hown
     have hstLH := Lib.hid hst
     have hRrH := Lib.hid hRr
     have hT2H := Lib.hid hT2
     clear hrow hown hst hVr hR12 hRr hT2
     go_wp2_with fail
     change bodyPost _ _ _ _ _ (set6 wr (w.heap.size + 1) (.int .i64 k0) (.int .i64 n0) (.string s0) (.slice ba3 bn bc3) (.slice va j vc) (.slice va2 q vc2))
     refine bodyPost_ret (results_c2 rfl rfl (set6_heap hRrH.out)) rfl ?_
     obtain ⟨Wf, hWf⟩ : ∃ Wf, Wf = set6 wr (w.heap.size + 1) (.int .i64 k0) (.int .i64 n0) (.string s0) (.slice ba3 bn bc3) (.slice va j vc) (.slice va2 q vc2) := ⟨_, rfl⟩
     rw [← hWf]
     have hgf : wr.grownBy Wf (some (w.heap.size + 1)) := by rw [hWf]; exact set6_grown
     have hsX : Step ([w.heap.size, w.heap.size + 1] ++ (Value.slice va2 q vc2).ownBlock.toList) id id X1 Wf := ((hsX12H.out.mono (by simp)).tail (hstLH.out.mono (fun r hr => List.mem_append_right _ hr))).tail (.grown hgf (fun k hk => by cases hk; simp))
     have hs12 : Step ((w.heap.size + 1) :: (Value.slice va2 q vc2).ownBlock.toList) id id W12 Wf := (hstLH.out.mono (fun r hr => List.mem_cons_of_mem _ hr)).tail (.grown hgf (fun k hk => by cases hk; simp))
     have hva6 : ∀ k, (Value.slice va j vc).ownBlock = some k → k < W6.heap.size := fun k hk => (World.ownsRow.lt hown6H.out k hk).2
     have hva12 : ∀ k, (Value.slice va2 q vc2).ownBlock = some k → k < W12.heap.size := fun k hk => (World.ownsRow.lt hownL12H.out k hk).2
     have hW12z : W12.heap.size ≤ wr.heap.size := hstLH.out.size
     unfold CopyP
     rw [← hk0H.out, ← hn0H.out, ← hs0H.out, ← hbnH.out, ← hfnH.out, ← hlnH.out]
     refine ⟨ba3, bc3, va, vc, va2, vc2, ys, us, rfl, ?_, ?_, ?_, ?_, ?_, ?_, ?_, ?_, ?_⟩
     ·refine ownsRow_step hbXH.out hsX (fun k hk => ?_)
      have h1 := hbnew.out k hk
      have h2 := hn3H.out k hk
      intro hm
      rcases List.mem_append.1 hm with h | h
      ·simp at h; omega
      ·have := hT2H.out k h; omega
     ·refine ownsRow_step hownXH.out hsX (fun k hk => ?_)
      have h1 := hown0H.out k hk
      have h2 := hva6 k hk
      intro hm
      rcases List.mem_append.1 hm with h | h
      ·simp at h; omega
      ·have := hT2H.out k h; omega
     ·exact ownsRow_other hownLH.out hgf (fun k hk => by have := hownL0H.out k hk; omega)
     ·refine hrowXH.out.keep (fun i k hk => ⟨by omega, ?_, ?_, ?_⟩) (fun i k hP hk => (hsX.keep k hk (by
       intro hm
       rcases List.mem_append.1 hm with h | h
       ·simp at h; omega
       ·have h3 : X1.heap.size ≤ k := hT2H.out k h
        omega)).2)
      ·intro h; have := hbnew.out k h; omega
      ·intro h; have := hva6 k h; omega
      ·intro h; have := hownL0H.out k h; omega
     ·refine ⟨hrowLH.out.1, fun i hi => (hrowLH.out.2 i hi).keep (fun k hk => ?_) (fun k hP hk => hgf.block k hk (by
       intro e
       injection e with e
       rcases hP with h | h
       ·omega
       ·omega))⟩
      have hk2 : W12.heap.size ≤ k := by
       rcases hk with h | h
       ·exact h.2
       ·exact absurd h.1 (by rw [hlnH.out]; omega)
      refine ⟨by omega, ?_, ?_, ?_⟩
      ·intro h; have := hbnew.out k h; omega
      ·intro h; have := hva6 k h; omega
      ·intro h; have := hva12 k h; omega
     ·refine hstwH.out.tailNew hsX (fun r hr => ?_)
      rcases List.mem_append.1 hr with h | h
      ·right; simp at h; omega
      ·right; have := hT2H.out r h; omega
     ·intro k hk; have := hn3H.out k hk; omega
     ·intro k hk
      have h1 := hnewH.out k hk
      refine ⟨by omega, fun h => ?_⟩
      have := hbnew.out k h
      omega
     ·intro k hk
      have h1 := hownL0H.out k hk
      refine ⟨by omega, fun h => ?_, fun h => ?_⟩
      ·have := hbnew.out k h; omega
      ·have := hva6 k h; omega
theorem copy_all : ∀ N, CopyC N
 | 0 => fun _ x _ _ hN => absurd hN (Nat.not_lt_zero _)
 | N + 1 => copy_step N (copy_all N)
theorem bs_copy {P : Nat → Prop} {x : Val} {cs : List Value} {w : World} (hwt : weightV x ≤ 100000000) (hx : VIs P w x cs) : Calls Tryz.prog 36 #[.agg cs.toArray] w (CopyP x w) :=
 copy_all (SizeOf.sizeOf x + 1) P x cs w (Nat.lt_succ_self _) hwt hx
end Go.Proofs.YtembpajlllnncaaGreatDoor
