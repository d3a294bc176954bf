/- append onto a row of bytes: a byte, a text, bytes. -/
import Derived.Test.YtembpajlllnncaaGreatDoorProg
import Derived.Test.YtembpajlllnncaaGreatDoorBsW
import Derived.Lib.AppendStr
import Derived.Lib.SlBytesConst
set_option linter.unusedVariables false
set_option linter.unusedSimpArgs false
namespace Go.Proofs.YtembpajlllnncaaGreatDoor
open Go.RowKit

theorem info_u8 : (Tryz.prog.info? 5).map (fun i => (i.zero, i.size, i.bytes)) = some (some (.int .u8 0), 1, 1) := by kernel_rfl
theorem info_split {P : Program} {e : TypeId} {z : Value} {n m : Nat} (h : (P.info? e).map (fun i => (i.zero, i.size, i.bytes)) = some (some z, n, m)) : ∃ i, P.info? e = some i ∧ i.zero = some z ∧ i.size = n ∧ i.bytes = m := by
 cases hi : P.info? e with
 | none => rw [hi] at h; simp at h
 | some i =>
  rw [hi] at h
  simp only [Option.map_some, Option.some.injEq, Prod.mk.injEq] at h
  exact ⟨i, rfl, h.1, h.2.1, h.2.2⟩

theorem strCells_of (l : Bs) : Lib.strCells (strOf l) = byteVals l := by
 simp [Lib.strCells, strOf, byteVals]

section
variable {w : World} {v : Value} {l m : Bs}
theorem Row.len {ad : Option Addr} {N c : Nat} (h : Row w (.slice ad N c) l) : N = l.length := by
 rcases h.2 with ⟨e, hn⟩ | ⟨g, cap, cur, e, _⟩
 ·injection e with e1 e2 e3; omega
 ·injection e with e1 e2 e3
/-- A row behind which cells are written. -/
theorem Row.shape (h : Row w v l) : ∃ ad c, v = .slice ad l.length c := by
 rcases h.2 with ⟨rfl, hn⟩ | ⟨g, cap, cur, rfl, _⟩
 ·exact ⟨none, 0, by rw [hn]⟩
 ·exact ⟨_, cap, rfl⟩

theorem Row.shapeN (h : Row w v l) : ∃ ad N c, v = .slice ad N c ∧ N = l.length := by
 obtain ⟨ad, c, rfl⟩ := h.shape
 exact ⟨ad, _, c, rfl, rfl⟩

theorem run_put_str (ty : TypeId) (h : Row w v l) (hm : l.length + m.length ≤ 1000000000) :
  ∃ ad c w', (Builtin.append_ #[32, 9] ty #[v, .string (strOf m)]).run Tryz.prog w = .ok (.slice ad (l ++ m).length c) w' ∧ Row w' (.slice ad (l ++ m).length c) (l ++ m) ∧ Grew w v w' (.slice ad (l ++ m).length c) := by
 obtain ⟨i, hi, hz0, hz1, hz2⟩ := info_split info_u8
 have hsz : (strOf m).size = m.length := strOf_size m
 obtain ⟨v', w', hr, h2, h3, h4⟩ := Lib.run_append_own_string (P := Tryz.prog) w 0 32 9 ty 5 i Tryz.underlying32 Tryz.underlying9 hi hz0 hz1 hz2 v l.length (byteVals l) h (strOf m) (by unfold maxLen; omega) (by omega) (Nat.zero_le _)
 have hrow : Row w' v' (l ++ m) := by
  unfold Row
  rw [List.length_append, byteVals_append, ← strCells_of m, ← hsz]; exact h2
 obtain ⟨ad, c, rfl⟩ := hrow.shape
 refine ⟨ad, c, w', hr, hrow, h3, fun k hk => ?_⟩
 rcases h.2 with ⟨rfl, hn⟩ | ⟨g, cap, cur, rfl, hbg, hg, hnc, hcm, hcs, htake⟩
 ·by_cases h0 : (strOf m).size = 0
  ·have := h4.2 ⟨rfl, h0⟩
   rw [this] at hk; cases hk
  ·have hr2 := run_append_nil_string (P := Tryz.prog) w 32 9 ty 5 i (.int .u8 0) Tryz.underlying32 Tryz.underlying9 hi hz0 (strOf m) (by omega) (by omega) (by rw [hz2]; omega)
   rw [hr] at hr2
   injection hr2 with e1 e2
   rw [e1] at hk; cases hk; exact .inr (Nat.le_refl _)
 ·have hcs' : cur.size = cap := by simpa using hcs
  by_cases hroom : l.length + (strOf m).size ≤ cap
  ·have hr2 := Lib.run_append_room_string (P := Tryz.prog) w 32 9 ty 5 i Tryz.underlying32 Tryz.underlying9 hi hz1 g l.length cap cur hg (strOf m) hroom (by omega)
   rw [hr] at hr2
   injection hr2 with e1 e2
   rw [e1] at hk; cases hk; exact .inl rfl
  ·have holds : ∀ j u, (byteVals l)[j]? = some u → w.cell? ((⟨g, 0, none⟩ : Addr).add j) = some u := World.ownsRow.cells h (g := g) rfl
   have hr2 := Lib.run_append_grow_string (P := Tryz.prog) w 32 9 ty 5 i (.int .u8 0) Tryz.underlying32 Tryz.underlying9 hi hz0 ⟨g, 0, none⟩ l.length cap (byteVals l) (by rw [hz1]; simp) holds (strOf m) (by omega) (by omega) (by rw [hz2]; exact growslice_fits (by omega) (by omega))
   rw [hr] at hr2
   injection hr2 with e1 e2
   rw [e1] at hk; cases hk; exact .inr (Nat.le_refl _)

theorem run_put_src (ty : TypeId) (h : Row w v l) (hm : l.length + m.length ≤ 1000000000) {x : Value} (hx : Src w 1 x m.length (byteVals m)) :
  ∃ ad c w', (Builtin.append_ #[32, 32] ty #[v, x]).run Tryz.prog w = .ok (.slice ad (l ++ m).length c) w' ∧ Row w' (.slice ad (l ++ m).length c) (l ++ m) ∧ Grew w v w' (.slice ad (l ++ m).length c) := by
 obtain ⟨i, hi, hz0, hz1, hz2⟩ := info_split info_u8
 obtain ⟨v', w', hr, h2, h3, h4, h5⟩ := run_app (P := Tryz.prog) (w := w) 32 ty 5 i (.int .u8 0) 1 1 Tryz.underlying32 hi hz0 hz1 hz2 rfl (by decide) v l.length (byteVals l) h x m.length (byteVals m) hx (byteVals_one _) (by omega) (by omega)
 have hrow : Row w' v' (l ++ m) := by
  unfold Row
  rw [List.length_append, byteVals_append]; exact h2
 obtain ⟨ad, c, rfl⟩ := hrow.shape
 refine ⟨ad, c, w', hr, hrow, h3, fun k hk => ?_⟩
 rcases h5 with e | e
 ·exact .inl (by rw [← e]; exact hk)
 ·rw [e] at hk; cases hk; exact .inr (Nat.le_refl _)

section
variable {ops : Array Oper} {rest : List Oper} {o : Oper} {a : Act} {Q : Exit → Act → World → Prop}
theorem wpList_put_str (hgd : o.guard = none) (s x : Operand) (ho : o.op = .call { callee := .builtin .append, args := #[s, x], argTypes := #[32, 9] })
  (hs : a.eval s = v) (h : Row w v l) (m : Bs) (hx : a.eval x = .string (strOf m)) (hm : l.length + m.length ≤ 1000000000)
  (hK : ∀ ad N c w', Row w' (.slice ad N c) (l ++ m) → Grew w v w' (.slice ad N c) → wpList Tryz.prog ops Q rest (a.put o.dst (.slice ad N c)) w') :
  wpList Tryz.prog ops Q (o :: rest) a w := by
 refine wpList_plain hgd fun K hK' => ?_
 obtain ⟨ad, c, w', hr, h2, h3⟩ := run_put_str o.type h hm
 unfold Oper.wp execOp
 simp only [ho, resolve, invoke, builtin, Sem.run_bind, Sem.run_pure, Result.andThen_ok, List.map_toArray, List.map_cons, List.map_nil, hs, hx, hr]
 exact hK' _ _ (hK ad _ c w' h2 h3)
theorem wpList_put_src (hgd : o.guard = none) (s x : Operand) (ho : o.op = .call { callee := .builtin .append, args := #[s, x], argTypes := #[32, 32] })
  (hs : a.eval s = v) (h : Row w v l) (m : Bs) {xv : Value} (hx : a.eval x = xv) (hsrc : Src w 1 xv m.length (byteVals m)) (hm : l.length + m.length ≤ 1000000000)
  (hK : ∀ ad N c w', Row w' (.slice ad N c) (l ++ m) → Grew w v w' (.slice ad N c) → wpList Tryz.prog ops Q rest (a.put o.dst (.slice ad N c)) w') :
  wpList Tryz.prog ops Q (o :: rest) a w := by
 refine wpList_plain hgd fun K hK' => ?_
 obtain ⟨ad, c, w', hr, h2, h3⟩ := run_put_src o.type h hm hsrc
 unfold Oper.wp execOp
 simp only [ho, resolve, invoke, builtin, Sem.run_bind, Sem.run_pure, Result.andThen_ok, List.map_toArray, List.map_cons, List.map_nil, hs, hx, hr]
 exact hK' _ _ (hK ad _ c w' h2 h3)
/-- A byte that was just laid. -/
theorem wpList_put_byte (hgd : o.guard = none) (s x : Operand) (ho : o.op = .call { callee := .builtin .append, args := #[s, x], argTypes := #[32, 32] })
  (hs : a.eval s = v) (h : Row w v l) (c : UInt8) {z : Int} {B : Nat} (hx : a.eval x = .slice (some ⟨B, 0, none⟩) 1 1) (hB : B = w.heap.size) (hz : z = (c.toNat : Int)) (hm : l.length + 1 ≤ 1000000000)
  (hK : ∀ ad N cp w', Row w' (.slice ad N cp) (l ++ [c]) → Grew w v w' (.slice ad N cp) → wpList Tryz.prog ops Q rest (a.put o.dst (.slice ad N cp)) w') :
  wpList Tryz.prog ops Q (o :: rest) a (w.alloc (.cells #[.int .u8 z] 5)) := by
 subst hz hB
 have hrow : Row (w.alloc (.cells #[.int .u8 (c.toNat : Int)] 5)) v l := World.ownsRow.alloc h _
 refine wpList_put_src hgd s x ho hs hrow [c] hx ⟨rfl, .inr ⟨_, 1, rfl, fun j u hj => ?_⟩⟩ (by simpa using hm) fun ad N cp w' h2 h3 => hK ad N cp w' h2 (Grew.left (World.grownBy_alloc w _ none) h3)
 cases j with
 | zero =>
  simp only [byteVals, List.map_cons, List.map_nil, List.getElem?_cons_zero, Option.some.injEq] at hj
  subst hj
  rw [addr_add]
  exact cell_blk (heap_alloc_new w _) rfl
 | succ j => simp [byteVals] at hj
end
end
end Go.Proofs.YtembpajlllnncaaGreatDoor
