/- append onto a row that is owned, from whatever reads as cells: at an operation's run, at a plain region's list, at a step of a region that draws. -/
import Derived.Test.YtembpajlllnncaaGreatDoorBase
set_option linter.unusedVariables false
set_option linter.unusedSimpArgs false
namespace Go.Proofs.YtembpajlllnncaaGreatDoor
open Go.RowKit

/-- The source of an append: nil, or an address at which the cells lie. -/
def Src (w : World) (size : Nat) (x : Value) (m : Nat) (news : List Value) : Prop :=
 news.length = m * size ∧ ((x = .slice none 0 0 ∧ m = 0) ∨ ∃ ad c, x = .slice (some ad) m c ∧ ∀ j u, news[j]? = some u → w.cell? (ad.add j) = some u)

theorem addr_add (b o j : Nat) : (⟨b, o, none⟩ : Addr).add j = ⟨b, o + j, none⟩ := by unfold Addr.add; split <;> simp_all

theorem Bytes.src {w : World} {v : Value} {l : List UInt8} (h : Bytes w v l) : Src w 1 v l.length (byteVals l) := by
 refine ⟨by simp, ?_⟩
 rcases h with ⟨rfl, rfl⟩ | ⟨b, o, cap, rfl, hc, hb, h⟩
 ·exact .inl ⟨rfl, rfl⟩
 ·refine .inr ⟨⟨b, o, none⟩, cap, rfl, fun j u hj => ?_⟩
  have hjl : j < l.length := by
   rcases Nat.lt_or_ge j l.length with h' | h'
   ·exact h'
   ·rw [List.getElem?_eq_none (by simpa using h')] at hj; cases hj
  rw [byteVals_get hjl] at hj
  cases hj
  rw [addr_add]; exact h j hjl

section
variable {P : Program} {w : World}

theorem run_app (t ty e : TypeId) (i : TypeInfo) (z : Value) (size bytes : Nat) (ht : P.underlying t = some (.slice e)) (hi : P.info? e = some i) (hz : i.zero = some z)
  (hsize : i.size = size) (hby : i.bytes = bytes) (hzs : z.cells.size = size) (hsz : 0 < size)
  (v : Value) (n : Nat) (xs : List Value) (hown : w.ownsRow 0 e size v n xs)
  (x : Value) (m : Nat) (news : List Value) (hx : Src w size x m news) (h1 : ∀ u ∈ news, u.oneCell' = true)
  (hb : n + m ≤ 140737488355328) (hbytes : (n + m) * bytes ≤ 140737488355328) :
  ∃ v' w', (Builtin.append_ #[t, t] ty #[v, x]).run P w = .ok v' w' ∧ w'.ownsRow 0 e size v' (n + m) (xs ++ news) ∧ w.grownBy w' v.ownBlock ∧
   (v' = .slice none 0 0 ↔ v = .slice none 0 0 ∧ m = 0) ∧ (v'.ownBlock = v.ownBlock ∨ v'.ownBlock = some w.heap.size) := by
 obtain ⟨hl, ⟨rfl, rfl⟩ | ⟨ad, c, rfl, hc⟩⟩ := hx
 ·have hn : news = [] := List.eq_nil_of_length_eq_zero (by simpa using hl)
  subst hn
  refine ⟨v, w, run_append_owned_none w 0 t ty e i size ht hi v n xs hown, by simpa using hown, ⟨rfl, rfl, rfl, Nat.le_refl _, fun _ _ _ => rfl⟩, by simp, .inl rfl⟩
 ·exact run_append_own_at w 0 t ty e i z size bytes ht hi hz hsize hby hzs hsz v n xs hown ad m c news hl hc h1 (by unfold maxLen; omega) hbytes (Nat.zero_le _)

theorem wp_app {o : Oper} {a : Act} {K : Act → World → Prop} {Q : Exit → Act → World → Prop} (s x : Operand) (t : TypeId)
  (ho : o.op = .call { callee := .builtin .append, args := #[s, x], argTypes := #[t, t] })
  (e : TypeId) (i : TypeInfo) (z : Value) (size bytes : Nat) (ht : P.underlying t = some (.slice e)) (hi : P.info? e = some i) (hz : i.zero = some z)
  (hsize : i.size = size) (hby : i.bytes = bytes) (hzs : z.cells.size = size) (hsz : 0 < size)
  (v : Value) (n : Nat) (xs : List Value) (hs : a.eval s = v) (hown : w.ownsRow 0 e size v n xs)
  (xv : Value) (m : Nat) (news : List Value) (hxv : a.eval x = xv) (hx : Src w size xv m news) (h1 : ∀ u ∈ news, u.oneCell' = true)
  (hb : n + m ≤ 140737488355328) (hbytes : (n + m) * bytes ≤ 140737488355328)
  (h : ∀ ad' c' w', w'.ownsRow 0 e size (.slice ad' (n + m) c') (n + m) (xs ++ news) → w.grownBy w' v.ownBlock → ((ad' = none ∧ n + m = 0 ∧ c' = 0) ↔ (v = .slice none 0 0 ∧ m = 0)) → ((Value.slice ad' (n + m) c').ownBlock = v.ownBlock ∨ (Value.slice ad' (n + m) c').ownBlock = some w.heap.size) → K (a.put o.dst (.slice ad' (n + m) c')) w') :
  o.wp P a w K Q := by
 obtain ⟨v', w', hr, h2, h3, h4, h5⟩ := run_app (P := P) t o.type e i z size bytes ht hi hz hsize hby hzs hsz v n xs hown xv m news hx h1 hb hbytes
 unfold Oper.wp execOp
 simp only [ho, resolve, invoke, builtin, Sem.run_bind, Sem.run_pure, Result.andThen_ok, List.map_toArray, List.map_cons, List.map_nil, hs, hxv, hr]
 have hform : ∃ ad' c', v' = .slice ad' (n + m) c' := by
  rcases h2.2 with ⟨rfl, h0⟩ | ⟨g, cap, cur, rfl, _⟩
  ·exact ⟨none, 0, by rw [h0]⟩
  ·exact ⟨_, cap, rfl⟩
 obtain ⟨ad', c', rfl⟩ := hform
 exact h ad' c' w' h2 h3 (by rw [← h4]; simp) h5

theorem wpList_app {ops : Array Oper} {rest : List Oper} {o : Oper} {a : Act} {Q : Exit → Act → World → Prop} (hgd : o.guard = none) (s x : Operand) (t : TypeId)
  (ho : o.op = .call { callee := .builtin .append, args := #[s, x], argTypes := #[t, t] })
  (e : TypeId) (i : TypeInfo) (z : Value) (size bytes : Nat) (ht : P.underlying t = some (.slice e)) (hi : P.info? e = some i) (hz : i.zero = some z)
  (hsize : i.size = size) (hby : i.bytes = bytes) (hzs : z.cells.size = size) (hsz : 0 < size)
  (v : Value) (n : Nat) (xs : List Value) (hs : a.eval s = v) (hown : w.ownsRow 0 e size v n xs)
  (xv : Value) (m : Nat) (news : List Value) (hxv : a.eval x = xv) (hx : Src w size xv m news) (h1 : ∀ u ∈ news, u.oneCell' = true)
  (hb : n + m ≤ 140737488355328) (hbytes : (n + m) * bytes ≤ 140737488355328)
  (h : ∀ ad' c' w', w'.ownsRow 0 e size (.slice ad' (n + m) c') (n + m) (xs ++ news) → w.grownBy w' v.ownBlock → ((ad' = none ∧ n + m = 0 ∧ c' = 0) ↔ (v = .slice none 0 0 ∧ m = 0)) → ((Value.slice ad' (n + m) c').ownBlock = v.ownBlock ∨ (Value.slice ad' (n + m) c').ownBlock = some w.heap.size) → wpList P ops Q rest (a.put o.dst (.slice ad' (n + m) c')) w') :
  wpList P ops Q (o :: rest) a w :=
 wpList_plain hgd fun _ hK => wp_app s x t ho e i z size bytes ht hi hz hsize hby hzs hsz v n xs hs hown xv m news hxv hx h1 hb hbytes fun ad' c' w' h2 h3 h4 h5 => hK _ _ (h ad' c' w' h2 h3 h4 h5)

theorem step_app {ops : Array Oper} {o : Oper} {a : Act} {K : Act → World → Prop} {Q : Exit → Act → World → Prop} {E : Prop} (hgd : o.guard = none) (s x : Operand) (t : TypeId)
  (ho : o.op = .call { callee := .builtin .append, args := #[s, x], argTypes := #[t, t] })
  (e : TypeId) (i : TypeInfo) (z : Value) (size bytes : Nat) (ht : P.underlying t = some (.slice e)) (hi : P.info? e = some i) (hz : i.zero = some z)
  (hsize : i.size = size) (hby : i.bytes = bytes) (hzs : z.cells.size = size) (hsz : 0 < size)
  (v : Value) (n : Nat) (xs : List Value) (hs : a.eval s = v) (hown : w.ownsRow 0 e size v n xs)
  (xv : Value) (m : Nat) (news : List Value) (hxv : a.eval x = xv) (hx : Src w size xv m news) (h1 : ∀ u ∈ news, u.oneCell' = true)
  (hb : n + m ≤ 140737488355328) (hbytes : (n + m) * bytes ≤ 140737488355328)
  (h : ∀ ad' c' w', w'.ownsRow 0 e size (.slice ad' (n + m) c') (n + m) (xs ++ news) → w.grownBy w' v.ownBlock → ((ad' = none ∧ n + m = 0 ∧ c' = 0) ↔ (v = .slice none 0 0 ∧ m = 0)) → ((Value.slice ad' (n + m) c').ownBlock = v.ownBlock ∨ (Value.slice ad' (n + m) c').ownBlock = some w.heap.size) → K (a.put o.dst (.slice ad' (n + m) c')) w') :
  if Region.wanted o (yielded ops a.tmps) = true then Oper.wp P o a w K Q else E := by
 have hw : Region.wanted o (yielded ops a.tmps) = true := by simp [Region.wanted, hgd]
 rw [if_pos hw]
 exact wp_app s x t ho e i z size bytes ht hi hz hsize hby hzs hsz v n xs hs hown xv m news hxv hx h1 hb hbytes h
end
end Go.Proofs.YtembpajlllnncaaGreatDoor
