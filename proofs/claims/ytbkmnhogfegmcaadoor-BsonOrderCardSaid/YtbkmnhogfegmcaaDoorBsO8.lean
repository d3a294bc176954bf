/- The plain law of BsonOrder: names and numbers, in the order in which they came. The law's map: its operations. -/
import Derived.Test.YtbkmnhogfegmcaaDoorBsO6
import Derived.Maps.OwnOps
import Derived.Maps.OwnSet
import Derived.Maps.Views
import Derived.StringKeys
set_option linter.unusedVariables false
set_option linter.unusedSimpArgs false
namespace Go.Proofs.YtbkmnhogfegmcaaDoor
open Go.RowKit

abbrev Ord := List (Bs × Int)
def i32V (n : Int) : Val := .mk 3 n [] [] [] []
def fO (o : Ord) : List (Bs × Val) := o.map fun p => (p.1, i32V p.2)
def docO (o : Ord) : Val := .mk 6 0 [] [] (fO o) []
def namesO (o : Ord) : List Bs := o.map (·.1)
def idxO (nm : Bs) (o : Ord) : Option Nat := o.findIdx? (fun p => decide (p.1 = nm))
def putO (nm : Bs) (n : Int) (o : Ord) : Ord := match idxO nm o with | some i => o.set i (nm, n) | none => o ++ [(nm, n)]
def delO (nm : Bs) (o : Ord) : Ord := o.filter (fun p => decide (p.1 ≠ nm))
/-- A name of the law's. -/
def nmO (c : UInt8) : Bs := [97 + c % 6]
structure OkO (o : Ord) : Prop where
  nodup : (namesO o).Nodup
  letter : ∀ p ∈ o, ∃ c, p.1 = nmO c
  range : ∀ p ∈ o, -128 ≤ p.2 ∧ p.2 ≤ 127
section
variable {nm : Bs} {n : Int} {o : Ord}
theorem fO_len : (fO o).length = o.length := by simp [fO]
theorem namesO_len : (namesO o).length = o.length := by simp [namesO]
theorem findN_fO : findN nm (fO o) = idxO nm o := by
  unfold findN fO idxO
  rw [List.findIdx?_map]
  rfl
theorem withF_fO : withF nm (i32V n) (fO o) = fO (putO nm n o) := by
  unfold withF putO
  rw [findN_fO]
  cases idxO nm o with
  | none => simp [fO]
  | some i => simp [fO, List.map_set]
theorem woF_fO : woF nm (fO o) = fO (delO nm o) := by
  unfold woF fO delO
  rw [List.filter_map]
  rfl
theorem withV_put : withV (docO o) nm (i32V n) = docO (putO nm n o) := by
  unfold withV docO
  rw [if_neg (by simp [Val.kind]), if_neg (by simp [i32V, Val.kind])]
  show Val.mk 6 0 [] [] (withF nm (i32V n) (fO o)) [] = _
  rw [withF_fO]
theorem withV_del : withV (docO o) nm (Val.bare 0) = docO (delO nm o) := by
  unfold withV docO
  rw [if_neg (by simp [Val.kind]), if_pos (by simp [Val.bare, Val.kind])]
  unfold woV
  rw [if_pos (by simp [Val.kind])]
  show Val.mk 6 0 [] [] (woF nm (fO o)) [] = _
  rw [woF_fO]
theorem idxO_none : idxO nm o = none ↔ nm ∉ namesO o := by
  unfold idxO namesO
  rw [List.findIdx?_eq_none_iff]
  simp only [List.mem_map, not_exists, not_and, decide_eq_false_iff_not]
theorem idxO_some {i : Nat} (h : idxO nm o = some i) : ∃ hi : i < o.length, o[i].1 = nm := by
  unfold idxO at h
  rw [List.findIdx?_eq_some_iff_getElem] at h
  obtain ⟨h1, h2, -⟩ := h
  exact ⟨h1, by simpa using h2⟩
theorem namesO_put : namesO (putO nm n o) = if nm ∈ namesO o then namesO o else namesO o ++ [nm] := by
  unfold putO
  cases h : idxO nm o with
  | none =>
    rw [if_neg (idxO_none.1 h)]
    simp [namesO]
  | some i =>
    obtain ⟨hi, he⟩ := idxO_some h
    have hm : nm ∈ namesO o := by
      unfold namesO
      rw [← he]
      exact List.mem_map_of_mem (List.getElem_mem hi)
    rw [if_pos hm]
    unfold namesO
    simp only [List.map_set]
    apply List.ext_getElem
    · simp
    · intro t h1 h2
      rw [List.getElem_set]
      split
      · rename_i e; subst e; simp [he]
      · rfl
theorem namesO_del : namesO (delO nm o) = (namesO o).filter (fun x => decide (x ≠ nm)) := by
  unfold namesO delO
  rw [List.filter_map]
  rfl
theorem delO_none (h : nm ∉ namesO o) : delO nm o = o := by
  unfold delO
  rw [List.filter_eq_self]
  intro p hp
  simp only [decide_eq_true_eq]
  intro e
  exact h (by rw [← e]; exact List.mem_map_of_mem hp)
theorem mem_put {p : Bs × Int} (h : p ∈ putO nm n o) : p = (nm, n) ∨ p ∈ o := by
  unfold putO at h
  cases hi : idxO nm o with
  | none => rw [hi] at h; simp at h; rcases h with h | h; exact .inr h; exact .inl h
  | some i =>
    rw [hi] at h
    rcases List.mem_or_eq_of_mem_set h with h | h
    · exact .inr h
    · exact .inl h
theorem mem_del {p : Bs × Int} (h : p ∈ delO nm o) : p ∈ o := (List.mem_filter.1 h).1
theorem OkO.put (h : OkO o) (hn : ∃ c, nm = nmO c) (hr : -128 ≤ n ∧ n ≤ 127) : OkO (putO nm n o) := by
  refine ⟨?_, fun p hp => ?_, fun p hp => ?_⟩
  · rw [namesO_put]
    split
    · exact h.nodup
    · rename_i hm
      rw [List.nodup_append]
      exact ⟨h.nodup, by simp, fun a ha b hb => by simp at hb; rw [hb]; intro e; exact hm (by rw [← e]; exact ha)⟩
  · rcases mem_put hp with rfl | hp
    · exact hn
    · exact h.letter p hp
  · rcases mem_put hp with rfl | hp
    · exact hr
    · exact h.range p hp
theorem OkO.del (h : OkO o) : OkO (delO nm o) := by
  refine ⟨?_, fun p hp => h.letter p (mem_del hp), fun p hp => h.range p (mem_del hp)⟩
  rw [namesO_del]
  exact h.nodup.filter _
theorem putO_len : (putO nm n o).length ≤ o.length + 1 := by
  unfold putO
  cases idxO nm o <;> simp
theorem delO_len : (delO nm o).length ≤ o.length := List.length_filter_le _ _

/-! the map -/
abbrev DU := DataW Unit
def zI : DU := .lit (.int .i64 0)
def nI (n : Int) : DU := .lit (.int .i64 n)
def getO (nm : Bs) (o : Ord) : Option Int := (o.find? (fun p => decide (p.1 = nm))).map (·.2)
structure RelM (D : DU) (o : Ord) : Prop where
  isMap : Maps.IsMap D
  at_ : ∀ (nm : Bs) (z : DU), D.atKey (.string nm) z = match getO nm o with | some n => nI n | none => z
theorem getO_none : getO nm o = none ↔ nm ∉ namesO o := by
  unfold getO namesO
  rw [Option.map_eq_none_iff, List.find?_eq_none]
  simp only [List.mem_map, not_exists, not_and, decide_eq_true_eq]
theorem getO_mem {n : Int} (h : getO nm o = some n) : (nm, n) ∈ o := by
  unfold getO at h
  rw [Option.map_eq_some_iff] at h
  obtain ⟨p, h1, rfl⟩ := h
  have h2 := List.find?_some h1
  simp only [decide_eq_true_eq] at h2
  rw [← h2]
  exact List.mem_of_find?_eq_some h1
theorem nodup_val {p q : Bs × Int} : ∀ {o : Ord}, (namesO o).Nodup → p ∈ o → q ∈ o → p.1 = q.1 → p = q
  | [], _, h, _, _ => by simp at h
  | x :: r, hn, hp, hq, e => by
    have hn2 : x.1 ∉ namesO r ∧ (namesO r).Nodup := by simpa [namesO] using hn
    rcases List.mem_cons.1 hp with e1 | h1 <;> rcases List.mem_cons.1 hq with e2 | h2
    · rw [e1, e2]
    · exact absurd (by rw [← e1, e]; exact List.mem_map_of_mem h2) hn2.1
    · exact absurd (by rw [← e2, ← e]; exact List.mem_map_of_mem h1) hn2.1
    · exact nodup_val hn2.2 h1 h2 e
theorem getO_of_mem (h : OkO o) {n : Int} (hm : (nm, n) ∈ o) : getO nm o = some n := by
  cases hg : getO nm o with
  | none => exact absurd (List.mem_map_of_mem (f := (·.1)) hm) (getO_none.1 hg)
  | some k =>
    have := nodup_val h.nodup (getO_mem hg) hm rfl
    injection this with _ e
    rw [e]
theorem mem_put_self : (nm, n) ∈ putO nm n o := by
  unfold putO
  cases h : idxO nm o with
  | none => simp
  | some i =>
    obtain ⟨hi, -⟩ := idxO_some h
    exact List.mem_set hi _
theorem mem_put_other {p : Bs × Int} (hp : p ∈ o) (hne : p.1 ≠ nm) : p ∈ putO nm n o := by
  unfold putO
  cases h : idxO nm o with
  | none => simp [hp]
  | some i =>
    obtain ⟨hi, he⟩ := idxO_some h
    obtain ⟨t, ht, rfl⟩ := List.getElem_of_mem hp
    have hti : t ≠ i := by rintro rfl; exact hne he
    have e : (o.set i (nm, n))[t]'(by simpa using ht) = o[t] := List.getElem_set_ne (by omega) _
    rw [← e]
    exact List.getElem_mem _
theorem getO_put (h : OkO o) (hn : ∃ c, nm = nmO c) (hr : -128 ≤ n ∧ n ≤ 127) (k : Bs) : getO k (putO nm n o) = if k = nm then some n else getO k o := by
  have h2 := h.put (n := n) hn hr
  split
  · rename_i e; subst e; exact getO_of_mem h2 mem_put_self
  · rename_i e
    cases hg : getO k o with
    | none =>
      rw [getO_none, namesO_put]
      have := getO_none.1 hg
      split
      · exact this
      · simp [this, e]
    | some m => exact getO_of_mem h2 (mem_put_other (getO_mem hg) e)
theorem getO_del (h : OkO o) (k : Bs) : getO k (delO nm o) = if k = nm then none else getO k o := by
  split
  · rename_i e; subst e
    rw [getO_none, namesO_del]
    simp
  · rename_i e
    cases hg : getO k o with
    | none =>
      rw [getO_none, namesO_del]
      have := getO_none.1 hg
      simp [this]
    | some m => exact getO_of_mem h.del (List.mem_filter.2 ⟨getO_mem hg, by simpa using e⟩)
theorem RelM.nil : RelM (.map []) [] := ⟨⟨[], rfl⟩, fun nm z => rfl⟩
theorem lit_ne {a b : Bs} (h : a ≠ b) : Lit.string a ≠ Lit.string b := fun e => h (by injection e)
theorem RelM.put {D : DU} (h : RelM D o) (ho : OkO o) (hn : ∃ c, nm = nmO c) (hr : -128 ≤ n ∧ n ≤ 127) : RelM (D.put (.string nm) (nI n)) (putO nm n o) := by
  refine ⟨h.isMap.put _ _, fun k z => ?_⟩
  rw [getO_put ho hn hr]
  by_cases e : k = nm
  · subst e
    rw [if_pos rfl, Maps.atKey_put_same h.isMap (by trivial)]
  · rw [if_neg e, Maps.atKey_put_other (lit_ne e), h.at_]
theorem RelM.del {D : DU} (h : RelM D o) (ho : OkO o) : RelM (D.del (.string nm)) (delO nm o) := by
  refine ⟨h.isMap.del _, fun k z => ?_⟩
  rw [getO_del ho]
  by_cases e : k = nm
  · subst e
    rw [if_pos rfl, Maps.atKey_del_same]
  · rw [if_neg e, Maps.atKey_del_other (lit_ne e), h.at_]
theorem RelM.has {D : DU} (h : RelM D o) : Maps.has D (.string nm) = decide (nm ∈ namesO o) := by
  cases hg : getO nm o with
  | none =>
    rw [decide_eq_false (getO_none.1 hg)]
    exact Maps.has_false_of_atKey (fun z => by rw [h.at_, hg])
  | some m =>
    rw [decide_eq_true (by exact Classical.byContradiction fun e => by rw [getO_none.2 e] at hg; cases hg)]
    exact Maps.has_true_of_atKey (y := nI m) (fun z => by rw [h.at_, hg])
theorem RelM.get {D : DU} (h : RelM D o) (ho : OkO o) {i : Nat} (hi : i < o.length) : D.atKey (.string o[i].1) zI = nI o[i].2 := by
  rw [h.at_, getO_of_mem ho (n := o[i].2) (by rw [Prod.eta]; exact List.getElem_mem hi)]

/-! such a document may be -/
theorem nmO_ok (c : UInt8) : nameOk (nmO c) = true := by
  have h : (97 + c % 6).toNat = 97 + c.toNat % 6 := by
    rw [UInt8.toNat_add, UInt8.toNat_mod]
    have : c.toNat < 256 := c.toNat_lt
    simp
    omega
  unfold nameOk nmO
  rw [utf8_ascii _ (fun x hx => by rw [List.mem_singleton] at hx; rw [hx, h]; omega)]
  have h0 : (0 : UInt8) ∉ [97 + c % 6] := by
    rw [List.mem_singleton]
    intro e
    have := congrArg UInt8.toNat e
    rw [h] at this
    have h3 : (0 : UInt8).toNat = 0 := rfl
    omega
  simp [h0]
theorem nmO_len (c : UInt8) : (nmO c).length = 1 := rfl
theorem okV_i32 {d : Nat} (h : -128 ≤ n ∧ n ≤ 127) : okV d (i32V n) = true := by
  unfold i32V
  rw [okV]
  have h1 : (-2147483648 ≤ n ∧ n ≤ 2147483647) := by omega
  simp [Val.plain, codeOf, h1]
theorem okFs_fO : ∀ (o : Ord) (seen : List Bs), (namesO o).Nodup → (∀ p ∈ o, ∃ c, p.1 = nmO c) → (∀ p ∈ o, -128 ≤ p.2 ∧ p.2 ≤ 127) → (∀ p ∈ o, p.1 ∉ seen) → okFs 1 seen (fO o) = true
  | [], seen, _, _, _, _ => by simp [fO, okFs]
  | p :: r, seen, h1, h2, h3, h4 => by
    have hn : p.1 ∉ namesO r ∧ (namesO r).Nodup := by simpa [namesO] using h1
    show okFs 1 seen ((p.1, i32V p.2) :: fO r) = true
    rw [okFs]
    obtain ⟨c, hc⟩ := h2 p (List.mem_cons_self ..)
    have ih := okFs_fO r (p.1 :: seen) hn.2 (fun q hq => h2 q (List.mem_cons_of_mem _ hq)) (fun q hq => h3 q (List.mem_cons_of_mem _ hq)) (fun q hq => by
      rw [List.mem_cons, not_or]
      exact ⟨fun e => hn.1 (by rw [← e]; exact List.mem_map_of_mem hq), h4 q (List.mem_cons_of_mem _ hq)⟩)
    rw [ih, okV_i32 (h3 p (List.mem_cons_self ..))]
    have hnm : nameOk p.1 = true := by rw [hc]; exact nmO_ok c
    rw [hnm]
    simp [h4 p (List.mem_cons_self ..)]
theorem encFs_fO : ∀ (o : Ord), (∀ p ∈ o, ∃ c, p.1 = nmO c) → (encFs (fO o)).length = 7 * o.length
  | [], _ => by simp [fO, encFs]
  | p :: r, h => by
    show (encFs ((p.1, i32V p.2) :: fO r)).length = _
    rw [encFs]
    obtain ⟨c, hc⟩ := h p (List.mem_cons_self ..)
    have ih := encFs_fO r (fun q hq => h q (List.mem_cons_of_mem _ hq))
    have e : encV (i32V p.2) = layI 4 p.2 := by unfold i32V; rw [encV, if_pos rfl]
    simp only [List.length_cons, List.length_append, ih, e, layI_length, hc, nmO_len]
    omega
theorem wrapDoc_len (l : Bs) : (wrapDoc l).length = l.length + 5 := by unfold wrapDoc; simp [layI_length]; omega
theorem okDoc_O (h : OkO o) (hl : o.length ≤ 60) : okDoc (docO o) = true := by
  unfold okDoc
  have h1 := okFs_fO o [] h.nodup h.letter h.range (fun _ _ => by simp)
  have h2 := encFs_fO o h.letter
  have e : (docO o).f = fO o := rfl
  rw [e, h1, wrapDoc_len, h2]
  simp [docO, Val.kind, Val.plain]
  omega
theorem zz_none (h : OkO o) : getV (docO o) [122, 122] = Val.bare 0 := by
  unfold getV
  rw [if_pos (by rfl)]
  refine getF_none ?_
  show findN _ (fO o) = none
  rw [findN_fO, idxO_none]
  intro hm
  unfold namesO at hm
  rw [List.mem_map] at hm
  obtain ⟨p, hp, he⟩ := hm
  obtain ⟨c, hc⟩ := h.letter p hp
  rw [hc] at he
  simp [nmO] at he
theorem getV_O (h : OkO o) {i : Nat} (hi : i < o.length) : getV (docO o) o[i].1 = i32V o[i].2 := by
  unfold getV
  rw [if_pos (by rfl)]
  show getF o[i].1 (fO o) = _
  unfold getF fO
  rw [List.find?_map]
  have : o.find? ((fun p : Bs × Val => decide (p.1 = o[i].1)) ∘ fun p => (p.1, i32V p.2)) = some o[i] := by
    have h1 := getO_of_mem h (nm := o[i].1) (n := o[i].2) (by rw [Prod.eta]; exact List.getElem_mem hi)
    unfold getO at h1
    rw [Option.map_eq_some_iff] at h1
    obtain ⟨p, hp, hp2⟩ := h1
    have hp1 := List.find?_some hp
    simp only [decide_eq_true_eq] at hp1
    have : p = o[i] := Prod.ext hp1 hp2
    rw [← this]
    rw [← hp]
    exact (by rw [this]; rfl)
  rw [this]
  rfl
end
end Go.Proofs.YtbkmnhogfegmcaaDoor
namespace Go.Proofs.YtbkmnhogfegmcaaDoor
open Go.RowKit

theorem wf_small {n : Int} (hn : -128 ≤ n ∧ n ≤ 127) : (Lit.int .i64 n).wf = true := by
  have h1 : IntKind.i64.min = -9223372036854775808 := by decide
  have h2 : IntKind.i64.max = 9223372036854775807 := by decide
  show (decide (IntKind.i64.min ≤ n) && decide (n ≤ IntKind.i64.max)) = true
  rw [h1, h2, decide_eq_true (by omega), decide_eq_true (by omega)]
  rfl
abbrev OwnM (w : World) (B n : Nat) (D : DU) : Prop := w.ownsMap Tryd.prog 9 (plainElem Tryd.prog 2) B n D
theorem strKeyed : Maps.Keyed Tryd.prog 9 := Maps.string_keyed Tryd.underlying9
theorem zero_i64 (w : World) : (zeroValue 2).run Tryd.prog w = .ok (.int .i64 0) w := by kernel_rfl
theorem key_of {nm : Bs} {S : ByteArray} (hS : S = strOf nm) (hl : nm.length ≤ 1000) : keyOf Tryd.prog 9 (.string S) = some (.string nm) := by
  rw [WideMaps.keyOf_string_mk Tryd.underlying9 (by rw [hS, strOf_size]; unfold maxLen; omega), hS]
  simp [strOf]
section
variable {w : World} {B k : Nat} {D : DU} {o : Ord} {nm : Bs} {S : ByteArray}
theorem map_lk_ok (h : OwnM w B k D) (hr : RelM D o) (hS : S = strOf nm) (hl : nm.length ≤ 1000) : ∃ c : Int, (Instr.lookup 52 (.map (some B)) (.string S) true).run Tryd.prog w = .ok (.tuple #[.int .i64 c, .bool (decide (nm ∈ namesO o))]) w := by
  obtain ⟨v, ps, hrun, hv⟩ := h.look_ok strKeyed Tryd.underlying52 (zero_i64 w) (plainElem_int Tryd.underlying2 (by decide)) (key_of hS hl)
  obtain ⟨c, rfl, -, -⟩ := plainElem_int_inv Tryd.underlying2 hv
  exact ⟨c, by rw [hrun, hr.has]⟩
set_option maxRecDepth 100000 in
theorem map_lk (h : OwnM w B k D) (hr : RelM D o) (ho : OkO o) {i : Nat} (hi : i < o.length) (hS : S = strOf o[i].1) (hl : o[i].1.length ≤ 1000) : (Instr.lookup 52 (.map (some B)) (.string S) false).run Tryd.prog w = .ok (.int .i64 o[i].2) w := by
  obtain ⟨c, hrun, hat, -⟩ := h.lookup_int strKeyed Tryd.underlying52 Tryd.underlying2 (zero_i64 w) (key_of hS hl)
  have h1 := hr.get ho hi
  unfold zI nI at h1
  rw [h1] at hat
  injection hat with hat
  injection hat with _ hat
  rw [hrun, hat]
theorem map_up (h : OwnM w B k D) (hk : k ≤ 1000) (hS : S = strOf nm) (hl : nm.length ≤ 1000) {n : Int} (hn : -128 ≤ n ∧ n ≤ 127) : ∃ w', (Instr.mapUpdate 52 (.map (some B)) (.string S) (.int .i64 n)).run Tryd.prog w = .ok () w' ∧ OwnM w' B (k + 1) (D.put (.string nm) (nI n)) ∧ w.grownBy w' (some B) :=
  h.update strKeyed Tryd.underlying52 (by unfold maxLen; omega) (key_of hS hl) (plainElem_int Tryd.underlying2 (wf_small hn))
theorem map_del (h : OwnM w B k D) (hS : S = strOf nm) (hl : nm.length ≤ 1000) (ty : TypeId) : ∃ w', (Builtin.delete_ #[52, 9] ty #[.map (some B), .string S]).run Tryd.prog w = .ok (.tuple #[]) w' ∧ OwnM w' B k (D.del (.string nm)) ∧ w.grownBy w' (some B) := by
  obtain ⟨w', h1, h2, h3⟩ := h.drop strKeyed Tryd.underlying52 (key_of hS hl) ty
  exact ⟨w', h1, h2, h3.grown⟩
theorem OwnM.step {w' : World} {T : List Nat} (h : OwnM w B k D) (hs : Step T id id w w') (hB : B ∉ T) : OwnM w' B k D := by
  obtain ⟨es, clock, hb, r⟩ := h
  exact ⟨es, clock, hs.at hb hB, r⟩
end
end Go.Proofs.YtbkmnhogfegmcaaDoor
