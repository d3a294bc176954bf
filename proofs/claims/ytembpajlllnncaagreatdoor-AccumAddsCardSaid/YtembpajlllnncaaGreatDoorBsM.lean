/- A set of names: a map from texts to nothing. -/
import Derived.Test.YtembpajlllnncaaGreatDoorBsW
import Derived.Laws.Strings
set_option linter.unusedVariables false
set_option linter.unusedSimpArgs false
namespace Go.Proofs.YtembpajlllnncaaGreatDoor
open Go.RowKit

/-- The entries are these names, in their order. -/
def Names (es : List MapEntry) (ns : List Bs) : Prop := es.map (fun e => (e.key, e.val)) = ns.map fun s => (Value.string (strOf s), Value.agg #[])

theorem beq_strOf (a b : ByteArray) : (a == b) = true ↔ a = b := by
 cases a with | mk x => cases b with | mk y =>
 show (x == y) = true ↔ _
 rw [beq_iff_eq, ByteArray.mk.injEq]
theorem strOf_beq {a b : Bs} (h : a ≠ b) : (strOf a == strOf b) = false := by
 cases e : strOf a == strOf b
 ·rfl
 ·exact absurd (strOf_inj ((beq_strOf _ _).1 e)) h
theorem strOf_beq_self (a : Bs) : (strOf a == strOf a) = true := (beq_strOf _ _).2 rfl
theorem findNames_none (s : Bs) : ∀ {es : List MapEntry} {ns : List Bs} (_ : Names es ns) (_ : s ∉ ns) (i : Nat), Instr.findNow .string (.string (strOf s)) es i = some none
 | [], [], _, _, _ => rfl
 | [], _ :: _, h, _, _ => by simp [Names] at h
 | _ :: _, [], h, _, _ => by simp [Names] at h
 | e :: es, t :: ns, h, hn, i => by
  simp only [Names, List.map_cons, List.cons.injEq, Prod.mk.injEq] at h
  simp only [List.mem_cons, not_or] at hn
  simp only [Instr.findNow, h.1.1, Instr.sameNow]
  rw [strOf_beq hn.1]
  exact findNames_none s h.2 hn.2 (i + 1)
theorem findNames_some (s : Bs) : ∀ {es : List MapEntry} {ns : List Bs} (_ : Names es ns) (_ : s ∈ ns) (i : Nat), ∃ j, Instr.findNow .string (.string (strOf s)) es i = some (some (j, .agg #[]))
 | _, [], _, hn, _ => by cases hn
 | [], _ :: _, h, _, _ => by simp [Names] at h
 | e :: es, t :: ns, h, hn, i => by
  simp only [Names, List.map_cons, List.cons.injEq, Prod.mk.injEq] at h
  by_cases hst : s = t
  ·subst hst
   exact ⟨i, by simp [Instr.findNow, h.1.1, h.1.2, Instr.sameNow, strOf_beq_self]⟩
  ·simp only [Instr.findNow, h.1.1, Instr.sameNow]
   rw [strOf_beq hst]
   exact findNames_some s h.2 (List.mem_of_ne_of_mem hst hn) (i + 1)

section
variable {P : Program} {w : World} {T K E : TypeId} {bm : Nat} {es : Array MapEntry} {clock : Nat} {ns : List Bs}
theorem run_checkKey_str (hK : P.underlying K = some .string) (b : Bool) (s : ByteArray) : (Instr.checkKey b 10000 K (.string s)).run P w = .ok () w := by
 have h : ∀ d : Nat, (Instr.checkKey b (d + 1) K (.string s)).run P w = .ok () w := fun d => by
  simp only [Instr.checkKey, Sem.run_bind, run_underlying hK, Result.andThen_ok, Sem.run_pure]
 exact h 9999
theorem run_lookup_names (hT : P.underlying T = some (.map K E)) (hK : P.underlying K = some .string) (hm : w.heap[bm]? = some (.map es clock)) (hz : (zeroValue E).run P w = .ok (.agg #[]) w) (he : Names es.toList ns) (s : Bs) :
  (Instr.lookup T (.map (some bm)) (.string (strOf s)) true).run P w = .ok (.tuple #[.agg #[], .bool (decide (s ∈ ns))]) w := by
 by_cases hs : s ∈ ns
 ·obtain ⟨j, hj⟩ := findNames_some s he hs 0
  simp [Instr.lookup, run_underlying hT, getObj, Sem.run, hm, run_checkKey_str hK, Instr.findKey, run_underlying hK, hj, hs]
 ·simp [Instr.lookup, run_underlying hT, getObj, Sem.run, hm, run_checkKey_str hK, Instr.findKey, run_underlying hK, findNames_none s he hs 0, hs, hz]
/-- Block b holds o now. -/
def putObj (w : World) (b : Nat) (o : Obj) : World := { w with heap := w.heap.setIfInBounds b o }
theorem putObj_same {b : Nat} {o o' : Obj} (h : w.heap[b]? = some o') : (putObj w b o).heap[b]? = some o := by
 have := lt_of_block h
 simp [putObj, this]
theorem putObj_grown (b : Nat) (o : Obj) : w.grownBy (putObj w b o) (some b) :=
 ⟨rfl, rfl, rfl, by simp [putObj], fun k _ hk => by
  have : b ≠ k := fun e => hk (by rw [e])
  simp [putObj, Array.getElem?_setIfInBounds, this]⟩
theorem run_update_names (hT : P.underlying T = some (.map K E)) (hK : P.underlying K = some .string) (hm : w.heap[bm]? = some (.map es clock)) (he : Names es.toList ns) {s : Bs} (hs : s ∉ ns) :
  (Instr.mapUpdate T (.map (some bm)) (.string (strOf s)) (.agg #[])).run P w = .ok () (putObj w bm (.map (es.push { key := .string (strOf s), val := .agg #[], born := clock }) (clock + 1))) := by
 simp [Instr.mapUpdate, run_underlying hT, getObj, setObj, Sem.run, hm, run_checkKey_str hK, Instr.findKey, run_underlying hK, findNames_none s he hs 0, putObj]
theorem Names.push {s : Bs} {c : Nat} (he : Names es.toList ns) : Names (es.push { key := .string (strOf s), val := .agg #[], born := c }).toList (ns ++ [s]) := by
 unfold Names at *
 simp [he]
end
end Go.Proofs.YtembpajlllnncaaGreatDoor
