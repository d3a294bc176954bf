/- Values in memory. -/
import Derived.Test.YtembpajlllnncaaGreatDoorBsD
import Derived.Test.YtembpajlllnncaaGreatDoorApp
import Derived.Deep.MidRow
set_option linter.unusedVariables false
set_option linter.unusedSimpArgs false
namespace Go.Proofs.YtembpajlllnncaaGreatDoor
open Go.RowKit

def strOf (l : Bs) : ByteArray := ⟨l.toArray⟩
theorem strOf_inj {l m : Bs} (h : strOf l = strOf m) : l = m := by
 have := congrArg (fun b => b.data.toList) h
 simpa [strOf] using this
@[simp] theorem strOf_size (l : Bs) : (strOf l).size = l.length := by simp [strOf, ByteArray.size]
theorem strOf_back (s : ByteArray) : strOf s.data.toList = s := by simp [strOf]

/-- Bytes, or none at whatever place; their block is one of P's. -/
def BIn (P : Nat → Prop) (w : World) (v : Value) (l : Bs) : Prop :=
 (∃ a c, v = .slice a 0 c ∧ l = [] ∧ (a = none → c = 0)) ∨ ∃ b o c, v = .slice (some ⟨b, o, none⟩) l.length c ∧ l.length ≤ c ∧ P b ∧ ∀ i (h : i < l.length), w.cell? ⟨b, o + i, none⟩ = some (.int .u8 (l[i].toNat : Int))

mutual
/-- The six cells of a value, and what lies behind them, in blocks of P's. -/
def VIs (P : Nat → Prop) (w : World) : Val → List Value → Prop
 | .mk k n s b f l, cs => ∃ bv fa fc la lc, cs = [.int .i64 k, .int .i64 n, .string (strOf s), bv, .slice fa f.length fc, .slice la l.length lc] ∧ BIn P w bv b ∧
  (f.length ≤ fc ∧ l.length ≤ lc ∧ (fa = none → fc = 0) ∧ (la = none → lc = 0)) ∧ (-9223372036854775808 ≤ k ∧ k ≤ 9223372036854775807 ∧ -9223372036854775808 ≤ n ∧ n ≤ 9223372036854775807) ∧
  (s.length ≤ 140737488351232 ∧ b.length ≤ 140737488351232 ∧ f.length ≤ 140737488351232 ∧ l.length ≤ 140737488351232) ∧ FIs P w f fa 0 ∧ LIs P w l la 0
def FIs (P : Nat → Prop) (w : World) : List (Bs × Val) → Option Addr → Nat → Prop
 | [], _, _ => True
 | (nm, x) :: r, a, i => (∃ b o cs, a = some ⟨b, o, none⟩ ∧ P b ∧ nm.length ≤ 140737488351232 ∧ w.rangeAt b (o + i * 7) (.string (strOf nm) :: cs) ∧ VIs P w x cs) ∧ FIs P w r a (i + 1)
def LIs (P : Nat → Prop) (w : World) : List Val → Option Addr → Nat → Prop
 | [], _, _ => True
 | x :: r, a, i => (∃ b o cs, a = some ⟨b, o, none⟩ ∧ P b ∧ w.rangeAt b (o + i * 6) cs ∧ VIs P w x cs) ∧ LIs P w r a (i + 1)
end

section
variable {P P2 : Nat → Prop} {w w' : World}
theorem rangeAt_lt {b o : Nat} {cs : List Value} (h : w.rangeAt b o cs) (hc : cs ≠ []) : b < w.heap.size := by
 cases cs with
 | nil => exact absurd rfl hc
 | cons c r => exact World.block_lt_of_cell? w _ (h 0 c rfl)
theorem rangeAt_keep {b o : Nat} {cs : List Value} (h : w.rangeAt b o cs) (hk : w'.heap[b]? = w.heap[b]?) : w'.rangeAt b o cs := fun j v hj => by
 have := h j v hj
 simpa [World.cell?, hk] using this
theorem BIn.keep {v : Value} {l : Bs} (h : BIn P w v l) (hP : ∀ k, P k → P2 k) (hk : ∀ k, P k → k < w.heap.size → w'.heap[k]? = w.heap[k]?) : BIn P2 w' v l := by
 rcases h with h | ⟨b, o, c, rfl, h1, h2, h3⟩
 ·exact .inl h
 ·by_cases hl : l = []
  ·subst hl; exact .inl ⟨_, c, rfl, rfl, by simp⟩
  ·refine .inr ⟨b, o, c, rfl, h1, hP b h2, fun i hi => ?_⟩
   have hb := World.block_lt_of_cell? w _ (h3 i hi)
   rw [cell_of_blk_eq (hk b h2 hb)]; exact h3 i hi
mutual
theorem VIs.keep (hP : ∀ k, P k → P2 k) (hk : ∀ k, P k → k < w.heap.size → w'.heap[k]? = w.heap[k]?) : ∀ (x : Val) (cs : List Value), VIs P w x cs → VIs P2 w' x cs
 | .mk k n s b f l, cs, h => by
  rw [VIs] at h ⊢
  obtain ⟨bv, fa, fc, la, lc, h1, h2, h3, h4, h5, h6, h7⟩ := h
  exact ⟨bv, fa, fc, la, lc, h1, h2.keep hP hk, h3, h4, h5, FIs.keep hP hk f fa 0 h6, LIs.keep hP hk l la 0 h7⟩
theorem FIs.keep (hP : ∀ k, P k → P2 k) (hk : ∀ k, P k → k < w.heap.size → w'.heap[k]? = w.heap[k]?) : ∀ (f : List (Bs × Val)) (a : Option Addr) (i : Nat), FIs P w f a i → FIs P2 w' f a i
 | [], a, i, h => by rw [FIs]; trivial
 | (nm, x) :: r, a, i, h => by
  rw [FIs] at h ⊢
  obtain ⟨⟨b, o, cs, h1, h2, h3, h4, h5⟩, h6⟩ := h
  exact ⟨⟨b, o, cs, h1, hP b h2, h3, rangeAt_keep h4 (hk b h2 (rangeAt_lt h4 (by simp))), VIs.keep hP hk x cs h5⟩, FIs.keep hP hk r a (i + 1) h6⟩
theorem LIs.keep (hP : ∀ k, P k → P2 k) (hk : ∀ k, P k → k < w.heap.size → w'.heap[k]? = w.heap[k]?) : ∀ (l : List Val) (a : Option Addr) (i : Nat), LIs P w l a i → LIs P2 w' l a i
 | [], a, i, h => by rw [LIs]; trivial
 | x :: r, a, i, h => by
  rw [LIs] at h ⊢
  obtain ⟨⟨b, o, cs, h1, h2, h4, h5⟩, h6⟩ := h
  have hne : cs ≠ [] := by
   cases x with
   | mk k n s b f l =>
    rw [VIs] at h5
    obtain ⟨_, _, _, _, _, rfl, _⟩ := h5
    simp
  exact ⟨⟨b, o, cs, h1, hP b h2, rangeAt_keep h4 (hk b h2 (rangeAt_lt h4 hne)), VIs.keep hP hk x cs h5⟩, LIs.keep hP hk r a (i + 1) h6⟩
end

theorem BIn.below {v : Value} {l : Bs} (h : BIn P w v l) : BIn (fun k => P k ∧ k < w.heap.size) w v l := by
 rcases h with h | ⟨b, o, c, rfl, h1, h2, h3⟩
 ·exact .inl h
 ·by_cases hl : l = []
  ·subst hl; exact .inl ⟨_, c, rfl, rfl, by simp⟩
  ·exact .inr ⟨b, o, c, rfl, h1, ⟨h2, World.block_lt_of_cell? w _ (h3 0 (List.length_pos_iff.2 hl))⟩, h3⟩
mutual
theorem VIs.below : ∀ (x : Val) (cs : List Value), VIs P w x cs → VIs (fun k => P k ∧ k < w.heap.size) w x cs
 | .mk k n s b f l, cs, h => by
  rw [VIs] at h ⊢
  obtain ⟨bv, fa, fc, la, lc, h1, h2, h3, h4, h5, h6, h7⟩ := h
  exact ⟨bv, fa, fc, la, lc, h1, h2.below, h3, h4, h5, FIs.below f fa 0 h6, LIs.below l la 0 h7⟩
theorem FIs.below : ∀ (f : List (Bs × Val)) (a : Option Addr) (i : Nat), FIs P w f a i → FIs (fun k => P k ∧ k < w.heap.size) w f a i
 | [], a, i, h => by rw [FIs]; trivial
 | (nm, x) :: r, a, i, h => by
  rw [FIs] at h ⊢
  obtain ⟨⟨b, o, cs, h1, h2, h3, h4, h5⟩, h6⟩ := h
  exact ⟨⟨b, o, cs, h1, ⟨h2, rangeAt_lt h4 (by simp)⟩, h3, h4, VIs.below x cs h5⟩, FIs.below r a (i + 1) h6⟩
theorem LIs.below : ∀ (l : List Val) (a : Option Addr) (i : Nat), LIs P w l a i → LIs (fun k => P k ∧ k < w.heap.size) w l a i
 | [], a, i, h => by rw [LIs]; trivial
 | x :: r, a, i, h => by
  rw [LIs] at h ⊢
  obtain ⟨⟨b, o, cs, h1, h2, h4, h5⟩, h6⟩ := h
  have hne : cs ≠ [] := by
   cases x with
   | mk k n s b f l =>
    rw [VIs] at h5
    obtain ⟨_, _, _, _, _, rfl, _⟩ := h5
    simp
  exact ⟨⟨b, o, cs, h1, ⟨h2, rangeAt_lt h4 hne⟩, h4, VIs.below x cs h5⟩, LIs.below r a (i + 1) h6⟩
end

theorem FIs.get : ∀ {f : List (Bs × Val)} {a : Option Addr} {i : Nat}, FIs P w f a i → ∀ {j : Nat} (hj : j < f.length), ∃ b o cs, a = some ⟨b, o, none⟩ ∧ P b ∧ f[j].1.length ≤ 140737488351232 ∧ w.rangeAt b (o + (i + j) * 7) (.string (strOf f[j].1) :: cs) ∧ VIs P w f[j].2 cs
 | [], a, i, h, j, hj => by simp at hj
 | (nm, x) :: r, a, i, h, 0, hj => by
  rw [FIs] at h
  exact h.1
 | (nm, x) :: r, a, i, h, j + 1, hj => by
  rw [FIs] at h
  have := FIs.get h.2 (j := j) (by simpa using hj)
  simpa [Nat.add_assoc, Nat.add_comm 1 j] using this
theorem LIs.get : ∀ {l : List Val} {a : Option Addr} {i : Nat}, LIs P w l a i → ∀ {j : Nat} (hj : j < l.length), ∃ b o cs, a = some ⟨b, o, none⟩ ∧ P b ∧ w.rangeAt b (o + (i + j) * 6) cs ∧ VIs P w l[j] cs
 | [], a, i, h, j, hj => by simp at hj
 | x :: r, a, i, h, 0, hj => by
  rw [LIs] at h
  exact h.1
 | x :: r, a, i, h, j + 1, hj => by
  rw [LIs] at h
  have := LIs.get h.2 (j := j) (by simpa using hj)
  simpa [Nat.add_assoc, Nat.add_comm 1 j] using this
theorem FIs.of : ∀ {f : List (Bs × Val)} {a : Option Addr} {i : Nat}, (∀ {j : Nat} (hj : j < f.length), ∃ b o cs, a = some ⟨b, o, none⟩ ∧ P b ∧ f[j].1.length ≤ 140737488351232 ∧ w.rangeAt b (o + (i + j) * 7) (.string (strOf f[j].1) :: cs) ∧ VIs P w f[j].2 cs) → FIs P w f a i
 | [], a, i, h => by rw [FIs]; trivial
 | (nm, x) :: r, a, i, h => by
  rw [FIs]
  refine ⟨h (j := 0) (by simp), FIs.of fun {j} hj => ?_⟩
  have := h (j := j + 1) (by simpa using hj)
  simpa [Nat.add_assoc, Nat.add_comm 1 j] using this
theorem LIs.of : ∀ {l : List Val} {a : Option Addr} {i : Nat}, (∀ {j : Nat} (hj : j < l.length), ∃ b o cs, a = some ⟨b, o, none⟩ ∧ P b ∧ w.rangeAt b (o + (i + j) * 6) cs ∧ VIs P w l[j] cs) → LIs P w l a i
 | [], a, i, h => by rw [LIs]; trivial
 | x :: r, a, i, h => by
  rw [LIs]
  refine ⟨h (j := 0) (by simp), LIs.of fun {j} hj => ?_⟩
  have := h (j := j + 1) (by simpa using hj)
  simpa [Nat.add_assoc, Nat.add_comm 1 j] using this
/-- A value that has no parts behind it. -/
theorem VIs.cells {x : Val} {cs : List Value} (h : VIs P w x cs) : ∃ bv fa fc la lc, cs = [.int .i64 x.kind, .int .i64 x.num, .string (strOf x.s), bv, .slice fa x.f.length fc, .slice la x.l.length lc] ∧ BIn P w bv x.b ∧
  (x.f.length ≤ fc ∧ x.l.length ≤ lc ∧ (fa = none → fc = 0) ∧ (la = none → lc = 0)) ∧ (-9223372036854775808 ≤ x.kind ∧ x.kind ≤ 9223372036854775807 ∧ -9223372036854775808 ≤ x.num ∧ x.num ≤ 9223372036854775807) ∧
  (x.s.length ≤ 140737488351232 ∧ x.b.length ≤ 140737488351232 ∧ x.f.length ≤ 140737488351232 ∧ x.l.length ≤ 140737488351232) ∧ FIs P w x.f fa 0 ∧ LIs P w x.l la 0 := by
 cases x with
 | mk k n s b f l => rw [VIs] at h; exact h
theorem VIs.mk {x : Val} {cs : List Value} (h : ∃ bv fa fc la lc, cs = [.int .i64 x.kind, .int .i64 x.num, .string (strOf x.s), bv, .slice fa x.f.length fc, .slice la x.l.length lc] ∧ BIn P w bv x.b ∧
  (x.f.length ≤ fc ∧ x.l.length ≤ lc ∧ (fa = none → fc = 0) ∧ (la = none → lc = 0)) ∧ (-9223372036854775808 ≤ x.kind ∧ x.kind ≤ 9223372036854775807 ∧ -9223372036854775808 ≤ x.num ∧ x.num ≤ 9223372036854775807) ∧
  (x.s.length ≤ 140737488351232 ∧ x.b.length ≤ 140737488351232 ∧ x.f.length ≤ 140737488351232 ∧ x.l.length ≤ 140737488351232) ∧ FIs P w x.f fa 0 ∧ LIs P w x.l la 0) : VIs P w x cs := by
 cases x with
 | mk k n s b f l => rw [VIs]; exact h
end

theorem BIn.shape {P : Nat → Prop} {w : World} {v : Value} {l : Bs} (h : BIn P w v l) : ∃ a c, v = .slice a l.length c := by
 rcases h with ⟨a, c, rfl, rfl, _⟩ | ⟨b, o, c, rfl, _⟩
 ·exact ⟨a, c, rfl⟩
 ·exact ⟨_, c, rfl⟩
/-- .. with names for the numbers. -/
theorem VIs.six {P : Nat → Prop} {w : World} {x : Val} {cs : List Value} (h : VIs P w x cs) : ∃ s ba bn bc fa fn fc la ln lc, cs = [.int .i64 x.kind, .int .i64 x.num, .string s, .slice ba bn bc, .slice fa fn fc, .slice la ln lc] ∧
  s = strOf x.s ∧ bn = x.b.length ∧ fn = x.f.length ∧ ln = x.l.length := by
 obtain ⟨bv, fa, fc, la, lc, rfl, h2, _⟩ := h.cells
 obtain ⟨ba, bc, rfl⟩ := h2.shape
 exact ⟨_, ba, _, bc, fa, _, fc, la, _, lc, rfl, rfl, rfl, rfl, rfl⟩

/-- What is written behind a row: only its own block has turned, or it is a new one. -/
structure Grew (w : World) (v : Value) (w' : World) (v' : Value) : Prop where
 grown : w.grownBy w' v.ownBlock
 own : ∀ k, v'.ownBlock = some k → v.ownBlock = some k ∨ w.heap.size ≤ k
theorem Grew.refl (w : World) (v : Value) : Grew w v w v := ⟨grown_refl _ _, fun _ h => .inl h⟩
theorem Grew.trans {w w1 w2 : World} {v v1 v2 : Value} (h : Grew w v w1 v1) (h2 : Grew w1 v1 w2 v2) : Grew w v w2 v2 :=
 ⟨⟨h2.grown.os.trans h.grown.os, h2.grown.tape.trans h.grown.tape, h2.grown.output.trans h.grown.output, Nat.le_trans h.grown.size h2.grown.size, fun k hk hn => by
  have h1 := h.grown.block k hk hn
  have : some k ≠ v1.ownBlock := fun e => by
   rcases h.own k e.symm with e' | e'
   ·exact hn e'.symm
   ·omega
  exact (h2.grown.block k (Nat.lt_of_lt_of_le hk h.grown.size) this).trans h1⟩, fun k hk => by
  rcases h2.own k hk with e | e
  ·exact h.own k e
  ·exact .inr (Nat.le_trans h.grown.size e)⟩
theorem Grew.left {w w1 w2 : World} {v v' : Value} (h : w.grownBy w1 none) (h2 : Grew w1 v w2 v') : Grew w v w2 v' :=
 ⟨⟨h2.grown.os.trans h.os, h2.grown.tape.trans h.tape, h2.grown.output.trans h.output, Nat.le_trans h.size h2.grown.size, fun k hk hn =>
  (h2.grown.block k (Nat.lt_of_lt_of_le hk h.size) hn).trans (h.block k hk (by simp))⟩, fun k hk => by
  rcases h2.own k hk with e | e
  ·exact .inl e
  ·exact .inr (Nat.le_trans h.size e)⟩
theorem Grew.step {w w' : World} {v v' : Value} {T : List Nat} (h : Grew w v w' v') (hT : ∀ k, v.ownBlock = some k → k ∈ T) : Step T id id w w' := .grown h.grown hT
end Go.Proofs.YtembpajlllnncaaGreatDoor
