/- Words without functions, cut out of the bson texts. -/
import Derived.Test.YtembpajlllnncaaGreatDoorBsE2
set_option linter.unusedVariables false
set_option linter.unusedSimpArgs false
namespace Go.Proofs.YtembpajlllnncaaGreatDoor
open Go.RowKit

theorem gwf_id (w : World) : GWf id w := ⟨fun _ h => h, fun _ _ => rfl⟩
/-- A step that may touch what is new, too. -/
theorem Step.tailNew {T T2 : List Nat} {w w1 w2 : World} (h : Step T id id w w1) (h2 : Step T2 id id w1 w2) (hT : ∀ r ∈ T2, r ∈ T ∨ w.heap.size ≤ r) : Step T id id w w2 := h.transNew (gwf_id w) h2 hT
section
variable {P : Nat → Prop} {w w' : World} {v v' : Value}
theorem Pow10.of {w w' : World} (h : Pow10 w) (hk : ∀ k, Tryz.prog.globalNamed "internal/strconv.uint64pow10" = some k → k < w.heap.size → w'.heap[k]? = w.heap[k]?) : Pow10 w' := by
 unfold Pow10 Lib.TabIs World.var? at h ⊢
 cases hn : Tryz.prog.globalNamed "internal/strconv.uint64pow10" with
 | none => rw [hn] at h; simp at h
 | some g =>
  rw [hn] at h
  simp only [Option.bind_some] at h ⊢
  cases hb : w.heap[g]? with
  | none => rw [hb] at h; simp at h
  | some o => rw [hk g hn (lt_of_block hb), hb]; rw [hb] at h; exact h
end
theorem BIn.src {P : Nat → Prop} {w : World} {v : Value} {l : Bs} (h : BIn P w v l) : Src w 1 v l.length (byteVals l) := by
 refine ⟨by simp, ?_⟩
 rcases h with ⟨a, c, rfl, rfl, hn⟩ | ⟨b, o, c, rfl, hc, hP, h⟩
 ·cases a with
  | none => exact .inl ⟨by rw [hn rfl], rfl⟩
  | some a => exact .inr ⟨a, c, rfl, fun j u hj => by simp [byteVals] at hj⟩
 ·refine .inr ⟨⟨b, o, none⟩, c, rfl, fun j u hj => ?_⟩
  have hjl : j < l.length := by
   rcases Nat.lt_or_ge j l.length with h' | h'
   ·exact h'
   ·rw [List.getElem?_eq_none (by simpa using h')] at hj; cases hj
  rw [byteVals_get hjl] at hj
  cases hj
  rw [addr_add]; exact h j hjl
theorem encFs_named : ∀ (i : Nat) (l : List Val), encFs (named i l) = encLs i l
 | i, [] => by simp [named, encFs, encLs]
 | i, v :: r => by simp [named, encFs, encLs, encFs_named (i + 1) r]
theorem encFs_append : ∀ (a b : List (Bs × Val)), encFs (a ++ b) = encFs a ++ encFs b
 | [], b => by simp [encFs]
 | (nm, v) :: r, b => by simp [encFs, encFs_append r b]
theorem encFs_take (f : List (Bs × Val)) (j : Nat) (h : j < f.length) : encFs (f.take (j + 1)) = encFs (f.take j) ++ (codeOf f[j].2.kind :: (f[j].1 ++ (0 :: encV f[j].2))) := by
 rw [List.take_succ_eq_append_getElem h, encFs_append]
 cases hf : f[j] with
 | mk nm v => simp [encFs]
theorem encFs_take_le (f : List (Bs × Val)) (j : Nat) : (encFs (f.take j)).length ≤ (encFs f).length := by
 conv => rhs; rw [← List.take_append_drop j f]
 rw [encFs_append, List.length_append]; omega
theorem VIs.flat {P : Nat → Prop} {w : World} {k n : Int} (s : Bs) (hk : -9223372036854775808 ≤ k ∧ k ≤ 9223372036854775807) (hn : -9223372036854775808 ≤ n ∧ n ≤ 9223372036854775807) (hs : s.length ≤ 140737488351232) :
  VIs P w (.mk k n s [] [] []) [.int .i64 k, .int .i64 n, .string (strOf s), .slice none 0 0, .slice none 0 0, .slice none 0 0] := by
 refine VIs.mk ⟨.slice none 0 0, none, 0, none, 0, rfl, .inl ⟨none, 0, rfl, rfl, fun _ => rfl⟩, ⟨by simp [Val.f], by simp [Val.l], fun _ => rfl, fun _ => rfl⟩, ⟨hk.1, hk.2, hn.1, hn.2⟩, ⟨hs, by simp [Val.b], by simp [Val.f], by simp [Val.l]⟩, ?_, ?_⟩
 ·simp [Val.f, FIs]
 ·simp [Val.l, LIs]
theorem VIs.bytes {P : Nat → Prop} {w : World} {k : Int} {v : Value} {l : Bs} (hk : -9223372036854775808 ≤ k ∧ k ≤ 9223372036854775807) (h : BIn P w v l) (hl : l.length ≤ 140737488351232) :
  VIs P w (.mk k 0 [] l [] []) [.int .i64 k, .int .i64 0, .string (strOf []), v, .slice none 0 0, .slice none 0 0] := by
 refine VIs.mk ⟨v, none, 0, none, 0, rfl, h, ⟨by simp [Val.f], by simp [Val.l], fun _ => rfl, fun _ => rfl⟩, ⟨hk.1, hk.2, by simp [Val.num], by simp [Val.num]⟩, ⟨by simp [Val.s], hl, by simp [Val.f], by simp [Val.l]⟩, ?_, ?_⟩
 ·simp [Val.f, FIs]
 ·simp [Val.l, LIs]
/-- A value is stored, part by part. -/
def set6 (w : World) (V : Nat) (v0 v1 v2 v3 v4 v5 : Value) : World :=
 (((((w.setCell ⟨V, 0, none⟩ v0).setCell ⟨V, 1, none⟩ v1).setCell ⟨V, 2, none⟩ v2).setCell ⟨V, 3, none⟩ v3).setCell ⟨V, 4, none⟩ v4).setCell ⟨V, 5, none⟩ v5
section
variable {w : World} {V : Nat} {c0 c1 c2 c3 c4 c5 v0 v1 v2 v3 v4 v5 : Value} {t : TypeId}
theorem set6_heap (h : w.heap[V]? = some (.cells #[c0, c1, c2, c3, c4, c5] t (0, 0))) : (set6 w V v0 v1 v2 v3 v4 v5).heap[V]? = some (.cells #[v0, v1, v2, v3, v4, v5] t (0, 0)) := by
 have h1 := set_blk h 0 v0
 have h2 := set_blk h1 1 v1
 have h3 := set_blk h2 2 v2
 have h4 := set_blk h3 3 v3
 have h5 := set_blk h4 4 v4
 have h6 := set_blk h5 5 v5
 unfold set6
 rw [h6]; rfl
theorem set6_grown : w.grownBy (set6 w V v0 v1 v2 v3 v4 v5) (some V) := by
 have h : ∀ (w : World) (i : Nat) (v : Value), w.grownBy (w.setCell ⟨V, i, none⟩ v) (some V) := fun w i v => ⟨rfl, rfl, rfl, by simp [World.setCell], fun k _ hk => Below.heap_setCell _ _ _ _ (fun e => hk (by rw [e]))⟩
 unfold set6
 exact (((((h _ _ _).trans (h _ _ _)).trans (h _ _ _)).trans (h _ _ _)).trans (h _ _ _)).trans (h _ _ _)
end
theorem info_value : (Tryz.prog.info? 35).map (fun i => (i.zero, i.size, i.bytes)) = some (some (.agg #[.int .i64 0, .int .i64 0, .string ⟨#[]⟩, .slice none 0 0, .slice none 0 0, .slice none 0 0]), 6, 104) := by kernel_rfl
theorem ownsRow_other {w w' : World} {base V : Nat} {e : TypeId} {size n : Nat} {v : Value} {xs : List Value} (h : w.ownsRow base e size v n xs) (hg : w.grownBy w' (some V)) (hV : ∀ k, v.ownBlock = some k → k ≠ V) : w'.ownsRow base e size v n xs :=
 ⟨h.1, h.2.imp id (fun ⟨g, cap, cur, e1, e2, e3, r⟩ => ⟨g, cap, cur, e1, e2, (hg.block g (lt_of_block e3) (by simp; exact hV g (by rw [e1]; rfl))).trans e3, r⟩)⟩
theorem grown_past {w w1 w2 : World} {row r2 : Option Nat} (h1 : w.grownBy w1 row) (h2 : w1.grownBy w2 r2) (hr : ∀ k, r2 = some k → w.heap.size ≤ k ∨ row = some k) : w.grownBy w2 row :=
 ⟨h2.os.trans h1.os, h2.tape.trans h1.tape, h2.output.trans h1.output, Nat.le_trans h1.size h2.size, fun k hk hn =>
  (h2.block k (Nat.lt_of_lt_of_le hk h1.size) (fun e => by
   rcases hr k e.symm with h | h
   ·omega
   ·exact hn h.symm)).trans (h1.block k hk hn)⟩
/-- Each field's cells, chosen. -/
theorem FIs.choose {P : Nat → Prop} {w : World} {f : List (Bs × Val)} {a : Option Addr} (h : FIs P w f a 0) : ∃ C : Nat → List Value, ∀ i (hi : i < f.length), ∃ b o, a = some ⟨b, o, none⟩ ∧ P b ∧ w.rangeAt b (o + i * 7) (.string (strOf f[i].1) :: C i) ∧ VIs P w f[i].2 (C i) := by
 have hex : ∀ i, ∃ cs, ∀ (hi : i < f.length), ∃ b o, a = some ⟨b, o, none⟩ ∧ P b ∧ w.rangeAt b (o + i * 7) (.string (strOf f[i].1) :: cs) ∧ VIs P w f[i].2 cs := fun i => by
  by_cases hi : i < f.length
  ·obtain ⟨b, o, cs, h1, h2, _, h3, h4⟩ := h.get hi
   rw [Nat.zero_add] at h3
   exact ⟨cs, fun _ => ⟨b, o, h1, h2, h3, h4⟩⟩
  ·exact ⟨[], fun e => absurd e hi⟩
 exact Classical.axiomOfChoice hex
/-- A row of values that the call made reads as its items. -/
theorem LIs.row {P : Nat → Prop} {w w0 : World} {l : List Val} {C : Nat → List Value} {va : Option Addr} {vc : Nat} {B0 : Nat} (hC : ∀ i (hi : i < l.length), VIs P w l[i] (C i))
  (hown : w.ownsRow 0 35 6 (.slice va l.length vc) l.length ((List.range l.length).flatMap C)) (hnew : ∀ k, (Value.slice va l.length vc).ownBlock = some k → P k) : LIs P w l va 0 ∧ l.length ≤ vc ∧ (va = none → vc = 0) := by
 have hCl : ∀ i, i < l.length → (C i).length = 6 := fun i hi => (hC i hi).len
 rcases hown.2 with ⟨e, h0⟩ | ⟨g, cap, cur, e, hb, hgg, rest⟩
 ·injection e with e1 e2 e3
  subst e1 e3
  refine ⟨LIs.of fun {i} hi => by omega, by omega, fun _ => rfl⟩
 ·injection e with e1 e2 e3
  subst e1 e3
  refine ⟨LIs.of fun {i} hi => ⟨g, 0, C i, rfl, hnew g rfl, ?_, hC i hi⟩, rest.1, fun h => by cases h⟩
  intro t u ht
  have h7 : t < 6 := by
   rcases Nat.lt_or_ge t 6 with h | h
   ·exact h
   ·rw [List.getElem?_eq_none (by rw [hCl i hi]; exact h)] at ht; cases ht
  have h8 := World.ownsRow.cells hown (g := g) rfl (i * 6 + t) u (by
   rw [flat_get 6 C l.length (fun i hi => hCl i hi) i t hi h7]; exact ht)
  rw [addr_add] at h8
  simpa [Nat.add_assoc] using h8
/-- A row's cells are these fields'. -/
def Flds (P : Nat → Prop) (w : World) : List (Bs × Val) → List Value → Prop
 | [], xs => xs = []
 | (s, v) :: r, xs => ∃ cs ys, xs = (.string (strOf s) :: cs) ++ ys ∧ s.length ≤ 140737488351232 ∧ VIs P w v cs ∧ Flds P w r ys
section
variable {P P2 : Nat → Prop} {w w' : World}
theorem Flds.keep (hP : ∀ k, P k → P2 k) (hk : ∀ k, P k → k < w.heap.size → w'.heap[k]? = w.heap[k]?) : ∀ (f : List (Bs × Val)) (xs : List Value), Flds P w f xs → Flds P2 w' f xs
 | [], xs, h => h
 | (s, v) :: r, xs, ⟨cs, ys, h1, h2, h3, h4⟩ => ⟨cs, ys, h1, h2, h3.keep hP hk, Flds.keep hP hk r ys h4⟩
theorem Flds.below : ∀ (f : List (Bs × Val)) (xs : List Value), Flds P w f xs → Flds (fun k => P k ∧ k < w.heap.size) w f xs
 | [], xs, h => h
 | (s, v) :: r, xs, ⟨cs, ys, h1, h2, h3, h4⟩ => ⟨cs, ys, h1, h2, VIs.below v cs h3, Flds.below r ys h4⟩
theorem Flds.snoc {s : Bs} {v : Val} {cs : List Value} (hs : s.length ≤ 140737488351232) (hv : VIs P w v cs) : ∀ (f : List (Bs × Val)) (xs : List Value), Flds P w f xs → Flds P w (f ++ [(s, v)]) (xs ++ (.string (strOf s) :: cs))
 | [], xs, h => ⟨cs, [], by rw [show xs = [] from h]; simp, hs, hv, rfl⟩
 | (t, u) :: r, xs, ⟨ds, ys, h1, h2, h3, h4⟩ => ⟨ds, ys ++ (.string (strOf s) :: cs), by rw [h1]; simp, h2, h3, Flds.snoc hs hv r ys h4⟩
theorem Flds.get : ∀ (f : List (Bs × Val)) (xs : List Value), Flds P w f xs → xs.length = f.length * 7 ∧ ∀ i (hi : i < f.length), f[i].1.length ≤ 140737488351232 ∧ ∃ cs, VIs P w f[i].2 cs ∧ ∀ t u, (Value.string (strOf f[i].1) :: cs)[t]? = some u → xs[i * 7 + t]? = some u
 | [], xs, h => ⟨by rw [show xs = [] from h]; rfl, fun i hi => by simp at hi⟩
 | (s, v) :: r, xs, ⟨cs, ys, h1, h2, h3, h4⟩ => by
  obtain ⟨g1, g2⟩ := Flds.get r ys h4
  have hl := h3.len
  refine ⟨by rw [h1]; simp only [List.length_append, List.length_cons, hl, g1]; omega, fun i hi => ?_⟩
  cases i with
  | zero =>
   refine ⟨h2, cs, h3, fun t u ht => ?_⟩
   have htl : t < (Value.string (strOf s) :: cs).length := by
    rcases Nat.lt_or_ge t (Value.string (strOf s) :: cs).length with h | h
    ·exact h
    ·have ht' : (Value.string (strOf s) :: cs)[t]? = some u := ht
     rw [List.getElem?_eq_none h] at ht'; cases ht'
   rw [h1, Nat.zero_mul, Nat.zero_add, List.getElem?_append_left htl]; exact ht
  | succ i =>
   obtain ⟨k1, ds, k2, k3⟩ := g2 i (by simpa using hi)
   refine ⟨k1, ds, k2, fun t u ht => ?_⟩
   have hlen : (Value.string (strOf s) :: cs).length = 7 := by simp [hl]
   rw [h1, List.getElem?_append_right (by rw [hlen]; omega), hlen, show (i + 1) * 7 + t - 7 = i * 7 + t by omega]
   exact k3 t u ht
/-- .. so they read as fields. -/
theorem FIs.ofRow {f : List (Bs × Val)} {xs : List Value} {va : Option Addr} {vc : Nat} (h : Flds P w f xs) (hown : w.ownsRow 0 38 7 (.slice va f.length vc) f.length xs) (hnew : ∀ k, (Value.slice va f.length vc).ownBlock = some k → P k) :
  FIs P w f va 0 ∧ f.length ≤ vc ∧ (va = none → vc = 0) := by
 obtain ⟨g1, g2⟩ := Flds.get f xs h
 rcases hown.2 with ⟨e, h0⟩ | ⟨g, cap, cur, e, hb, hgg, rest⟩
 ·injection e with e1 e2 e3
  subst e1 e3
  refine ⟨FIs.of fun {i} hi => by omega, by omega, fun _ => rfl⟩
 ·injection e with e1 e2 e3
  subst e1 e3
  refine ⟨FIs.of fun {i} hi => ?_, rest.1, fun h => by cases h⟩
  obtain ⟨k1, cs, k2, k3⟩ := g2 i hi
  refine ⟨g, 0, cs, rfl, hnew g rfl, k1, fun t u ht => ?_, k2⟩
  have h8 := World.ownsRow.cells hown (g := g) rfl (i * 7 + t) u (k3 t u ht)
  rw [addr_add] at h8
  simpa [Nat.add_assoc] using h8
end
theorem ownsRow_step {w w' : World} {base : Nat} {e : TypeId} {size n : Nat} {v : Value} {xs : List Value} {T : List Nat} (h : w.ownsRow base e size v n xs) (hs : Step T id id w w') (hV : ∀ k, v.ownBlock = some k → k ∉ T) : w'.ownsRow base e size v n xs :=
 ⟨h.1, h.2.imp id (fun ⟨g, cap, cur, e1, e2, e3, r⟩ => ⟨g, cap, cur, e1, e2, hs.at e3 (hV g (by rw [e1]; rfl)), r⟩)⟩
end Go.Proofs.YtembpajlllnncaaGreatDoor
