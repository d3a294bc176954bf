/- A map from int: what its operations come to, by the list of its entries. -/
import Derived.Test.YtlppoimdfclbaaaBase
set_option linter.unusedVariables false
set_option linter.unusedSimpArgs false
namespace Go.Proofs.Ytlppoimdfclbaaa
open Go.RowKit

/-- The entries es hold the keys and values kv, in their order. -/
def Ents (es : List MapEntry) (kv : List (Int × Value)) : Prop := es.map (fun e => (e.key, e.val)) = kv.map fun t => (Value.int .i64 t.1, t.2)

theorem Ents.length {es : List MapEntry} {kv : List (Int × Value)} (h : Ents es kv) : es.length = kv.length := by
  have := congrArg List.length h; simpa using this

theorem findNow_none : ∀ {es : List MapEntry} {kv : List (Int × Value)} (_ : Ents es kv) (n : Int) (_ : ∀ t ∈ kv, t.1 ≠ n) (i : Nat),
    Instr.findNow (.int .i64) (.int .i64 n) es i = some none
  | [], [], _, _, _, _ => rfl
  | [], _ :: _, h, _, _, _ => by simp [Ents] at h
  | _ :: _, [], h, _, _, _ => by simp [Ents] at h
  | e :: es, t :: kv, h, n, hn, i => by
    simp only [Ents, List.map_cons, List.cons.injEq, Prod.mk.injEq] at h
    have hk : ¬ n = t.1 := fun e' => hn t (List.mem_cons_self ..) e'.symm
    simp only [Instr.findNow, h.1.1, Instr.sameNow, if_true]
    rw [beq_eq_false_iff_ne.2 hk]
    exact findNow_none h.2 n (fun t ht => hn t (List.mem_cons_of_mem _ ht)) (i + 1)

theorem findNow_found (n : Int) (v : Value) (kpost : List (Int × Value)) : ∀ {es : List MapEntry} (kpre : List (Int × Value)) (_ : Ents es (kpre ++ (n, v) :: kpost)) (_ : ∀ t ∈ kpre, t.1 ≠ n) (i : Nat),
    Instr.findNow (.int .i64) (.int .i64 n) es i = some (some (i + kpre.length, v))
  | [], [], h, _, _ => by simp [Ents] at h
  | [], _ :: _, h, _, _ => by simp [Ents] at h
  | e :: es, [], h, _, i => by
    simp only [Ents, List.nil_append, List.map_cons, List.cons.injEq, Prod.mk.injEq] at h
    simp [Instr.findNow, h.1.1, h.1.2, Instr.sameNow]
  | e :: es, t :: kpre, h, hn, i => by
    simp only [Ents, List.cons_append, List.map_cons, List.cons.injEq, Prod.mk.injEq] at h
    have hk : ¬ n = t.1 := fun e' => hn t (List.mem_cons_self ..) e'.symm
    simp only [Instr.findNow, h.1.1, Instr.sameNow, if_true]
    rw [beq_eq_false_iff_ne.2 hk]
    have := findNow_found n v kpost kpre h.2 (fun t ht => hn t (List.mem_cons_of_mem _ ht)) (i + 1)
    simp only [this, List.length_cons]
    congr 3; omega

section
variable {P : Program} {w : World} {T K E : TypeId} {bm : Nat} {es : Array MapEntry} {clock : Nat}

theorem run_checkKey_int (hK : P.underlying K = some (.int .i64)) (b : Bool) (n : Int) : (Instr.checkKey b 10000 K (.int .i64 n)).run P w = .ok () w := by
  have h : ∀ d : Nat, (Instr.checkKey b (d + 1) K (.int .i64 n)).run P w = .ok () w := fun d => by
    simp only [Instr.checkKey, Sem.run_bind, run_underlying hK, Result.andThen_ok, Sem.run_pure]
  exact h 9999

theorem run_findKey_none (hK : P.underlying K = some (.int .i64)) {kv : List (Int × Value)} (he : Ents es.toList kv) {n : Int} (hn : ∀ t ∈ kv, t.1 ≠ n) :
    (Instr.findKey K (.int .i64 n) es.toList).run P w = .ok none w := by
  simp [Instr.findKey, run_underlying hK, findNow_none he n hn]
theorem run_findKey_found (hK : P.underlying K = some (.int .i64)) {kpre kpost : List (Int × Value)} {n : Int} {v : Value} (he : Ents es.toList (kpre ++ (n, v) :: kpost)) (hn : ∀ t ∈ kpre, t.1 ≠ n) :
    (Instr.findKey K (.int .i64 n) es.toList).run P w = .ok (some (kpre.length, v)) w := by
  simp [Instr.findKey, run_underlying hK, findNow_found n v kpost kpre he hn]

theorem run_lookup_found (hT : P.underlying T = some (.map K E)) (hK : P.underlying K = some (.int .i64)) (hm : w.heap[bm]? = some (.map es clock))
    {kpre kpost : List (Int × Value)} {n : Int} {v : Value} (he : Ents es.toList (kpre ++ (n, v) :: kpost)) (hn : ∀ t ∈ kpre, t.1 ≠ n) :
    (Instr.lookup T (.map (some bm)) (.int .i64 n) true).run P w = .ok (.tuple #[v, .bool true]) w := by
  simp [Instr.lookup, run_underlying hT, getObj, Sem.run, hm, run_checkKey_int hK, run_findKey_found hK he hn]

theorem run_lookup_none (hT : P.underlying T = some (.map K E)) (hK : P.underlying K = some (.int .i64)) (hm : w.heap[bm]? = some (.map es clock))
    {z : Value} (hz : (zeroValue E).run P w = .ok z w) {kv : List (Int × Value)} {n : Int} (he : Ents es.toList kv) (hn : ∀ t ∈ kv, t.1 ≠ n) :
    (Instr.lookup T (.map (some bm)) (.int .i64 n) true).run P w = .ok (.tuple #[z, .bool false]) w := by
  simp [Instr.lookup, run_underlying hT, getObj, Sem.run, hm, run_checkKey_int hK, run_findKey_none hK he hn, hz]

/-- Block b holds o now. -/
def putObj (w : World) (b : Nat) (o : Obj) : World := { w with heap := w.heap.setIfInBounds b o }
theorem putObj_same {b : Nat} {o o' : Obj} (h : w.heap[b]? = some o') : (putObj w b o).heap[b]? = some o := by
  have := lt_of_block h
  simp [putObj, this]
theorem putObj_grown (b : Nat) (o : Obj) : w.grownBy (putObj w b o) (some b) :=
  ⟨rfl, rfl, rfl, by simp [putObj], fun k _ hk => by
    have : b ≠ k := fun e => hk (by rw [e])
    simp [putObj, Array.getElem?_setIfInBounds, this]⟩
theorem putObj_size (b : Nat) (o : Obj) : (putObj w b o).heap.size = w.heap.size := by simp [putObj]

theorem run_update_new (hT : P.underlying T = some (.map K E)) (hK : P.underlying K = some (.int .i64)) (hm : w.heap[bm]? = some (.map es clock))
    {kv : List (Int × Value)} {n : Int} (v : Value) (he : Ents es.toList kv) (hn : ∀ t ∈ kv, t.1 ≠ n) :
    (Instr.mapUpdate T (.map (some bm)) (.int .i64 n) v).run P w = .ok () (putObj w bm (.map (es.push { key := .int .i64 n, val := v, born := clock }) (clock + 1))) := by
  simp [Instr.mapUpdate, run_underlying hT, getObj, setObj, Sem.run, hm, run_checkKey_int hK, run_findKey_none hK he hn, putObj]

theorem run_update_found (hT : P.underlying T = some (.map K E)) (hK : P.underlying K = some (.int .i64)) (hm : w.heap[bm]? = some (.map es clock))
    {kpre kpost : List (Int × Value)} {n : Int} {v0 : Value} (v : Value) (he : Ents es.toList (kpre ++ (n, v0) :: kpost)) (hn : ∀ t ∈ kpre, t.1 ≠ n) :
    (Instr.mapUpdate T (.map (some bm)) (.int .i64 n) v).run P w = .ok () (putObj w bm (.map (es.modify kpre.length fun e => { e with key := .int .i64 n, val := v }) clock)) := by
  have hk : (es[kpre.length]?.map (·.key)).getD (.int .i64 n) = .int .i64 n := by
    have h1 := congrArg (fun l : List (Value × Value) => l[kpre.length]?) he
    simp only [List.getElem?_map] at h1
    rw [List.getElem?_append_right (Nat.le_refl _)] at h1
    simp only [Nat.sub_self, List.getElem?_cons_zero, Option.map_some, Array.getElem?_toList] at h1
    cases hx : es[kpre.length]? with
    | none => rfl
    | some e => rw [hx] at h1; simp only [Option.map_some, Option.some.injEq, Prod.mk.injEq] at h1; simp [h1.1]
  simp [Instr.mapUpdate, run_underlying hT, getObj, setObj, Sem.run, hm, run_checkKey_int hK, run_findKey_found hK he hn, putObj, hk, Instr.keyThatStays, Instr.sameBits]

theorem Ents.push {kv : List (Int × Value)} {n : Int} {v : Value} {c : Nat} (he : Ents es.toList kv) : Ents (es.push { key := .int .i64 n, val := v, born := c }).toList (kv ++ [(n, v)]) := by
  unfold Ents at *
  simp [he]
theorem ents_modify {n : Int} {v0 v : Value} {kpost : List (Int × Value)} : ∀ (kpre : List (Int × Value)) (l : List MapEntry), Ents l (kpre ++ (n, v0) :: kpost) →
    Ents (l.modify kpre.length fun e => { e with key := .int .i64 n, val := v }) (kpre ++ (n, v) :: kpost)
  | [], [], h => by simp [Ents] at h
  | [], e :: l, h => by
    simp only [Ents, List.nil_append, List.map_cons, List.cons.injEq] at h
    simp [Ents, h.2]
  | t :: kpre, [], h => by simp [Ents] at h
  | t :: kpre, e :: l, h => by
    simp only [Ents, List.cons_append, List.map_cons, List.cons.injEq] at h
    have := ents_modify (v := v) kpre l h.2
    simp only [Ents] at this
    simp [Ents, this, h.1]
theorem ents_erase {n : Int} {v0 : Value} {kpost : List (Int × Value)} : ∀ (kpre : List (Int × Value)) (l : List MapEntry), Ents l (kpre ++ (n, v0) :: kpost) → Ents (l.eraseIdx kpre.length) (kpre ++ kpost)
  | [], [], h => by simp [Ents] at h
  | [], e :: l, h => by
    simp only [Ents, List.nil_append, List.map_cons, List.cons.injEq] at h
    simp [Ents, h.2]
  | t :: kpre, [], h => by simp [Ents] at h
  | t :: kpre, e :: l, h => by
    simp only [Ents, List.cons_append, List.map_cons, List.cons.injEq] at h
    have := ents_erase kpre l h.2
    simp only [Ents] at this
    simp [Ents, this, h.1]
theorem Ents.update {kpre kpost : List (Int × Value)} {n : Int} {v0 v : Value} (he : Ents es.toList (kpre ++ (n, v0) :: kpost)) :
    Ents (es.modify kpre.length fun e => { e with key := .int .i64 n, val := v }).toList (kpre ++ (n, v) :: kpost) := by
  rw [Array.toList_modify]; exact ents_modify kpre _ he
theorem Ents.erase {kpre kpost : List (Int × Value)} {n : Int} {v0 : Value} (he : Ents es.toList (kpre ++ (n, v0) :: kpost)) : Ents (es.eraseIdxIfInBounds kpre.length).toList (kpre ++ kpost) := by
  have hlen : es.toList.length = kpre.length + 1 + kpost.length := by
    have := he.length; simp at this; simp; omega
  have hin : kpre.length < es.size := by simp at hlen; omega
  have h1 : (es.eraseIdxIfInBounds kpre.length).toList = es.toList.eraseIdx kpre.length := by
    unfold Array.eraseIdxIfInBounds; rw [dif_pos hin]; simp
  rw [h1]; exact ents_erase kpre _ he

theorem run_delete_found (hT : P.underlying T = some (.map K E)) (hK : P.underlying K = some (.int .i64)) (hm : w.heap[bm]? = some (.map es clock))
    {kpre kpost : List (Int × Value)} {n : Int} {v0 : Value} (he : Ents es.toList (kpre ++ (n, v0) :: kpost)) (hn : ∀ t ∈ kpre, t.1 ≠ n) (tys : Array TypeId) (ty : TypeId) (h0 : tys[0]? = some T) :
    (Builtin.delete_ tys ty #[.map (some bm), .int .i64 n]).run P w = .ok (.tuple #[]) (putObj w bm (.map (es.eraseIdxIfInBounds kpre.length) clock)) := by
  simp [Builtin.delete_, h0, run_underlying hT, getObj, setObj, Sem.run, hm, run_checkKey_int hK, run_findKey_found hK he hn, putObj]

theorem run_len_map (hT : P.underlying T = some (.map K E)) (hm : w.heap[bm]? = some (.map es clock)) (tys : Array TypeId) (ty : TypeId) (h0 : tys[0]? = some T) :
    (Builtin.len_ tys ty #[.map (some bm)]).run P w = .ok (goInt es.size) w := by
  simp [Builtin.len_, h0, run_underlying hT, getObj, Sem.run, hm]

theorem wpList_delete_map {ops : Array Oper} {rest : List Oper} {o : Oper} {a : Act} {Q : Exit → Act → World → Prop} (hgd : o.guard = none) (m k : Operand) (T' : TypeId)
    (ho : o.op = .call { callee := .builtin .delete, args := #[m, k], argTypes := #[T, T'] }) (hT : P.underlying T = some (.map K E)) (hK : P.underlying K = some (.int .i64)) (hm : w.heap[bm]? = some (.map es clock))
    {kpre kpost : List (Int × Value)} {n : Int} {v0 : Value} (he : Ents es.toList (kpre ++ (n, v0) :: kpost)) (hn : ∀ t ∈ kpre, t.1 ≠ n)
    (h1 : a.eval m = .map (some bm)) (h2 : a.eval k = .int .i64 n)
    (h : wpList P ops Q rest (a.put o.dst (.tuple #[])) (putObj w bm (.map (es.eraseIdxIfInBounds kpre.length) clock))) : wpList P ops Q (o :: rest) a w := by
  refine wpList_plain hgd fun K' hK' => ?_
  have hr := run_delete_found (P := P) (w := w) hT hK hm he hn #[T, T'] o.type rfl
  unfold Oper.wp execOp
  simp only [ho, resolve, invoke, builtin, Sem.run_bind, Sem.run_pure, Result.andThen_ok, List.map_toArray, List.map_cons, List.map_nil, h1, h2, hr]
  exact hK' _ _ h
theorem wpList_len_map {ops : Array Oper} {rest : List Oper} {o : Oper} {a : Act} {Q : Exit → Act → World → Prop} (hgd : o.guard = none) (m : Operand)
    (ho : o.op = .call { callee := .builtin .len, args := #[m], argTypes := #[T] }) (hT : P.underlying T = some (.map K E)) (hm : w.heap[bm]? = some (.map es clock)) (h1 : a.eval m = .map (some bm))
    (h : wpList P ops Q rest (a.put o.dst (goInt es.size)) w) : wpList P ops Q (o :: rest) a w := by
  refine wpList_plain hgd fun K' hK' => ?_
  have hr := run_len_map (P := P) (w := w) hT hm #[T] o.type rfl
  unfold Oper.wp execOp
  simp only [ho, resolve, invoke, builtin, Sem.run_bind, Sem.run_pure, Result.andThen_ok, List.map_toArray, List.map_cons, List.map_nil, h1, hr]
  exact hK' _ _ h
end
end Go.Proofs.Ytlppoimdfclbaaa
