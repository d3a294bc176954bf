/- Accumulators, plain: what a state comes to. -/
import Derived.Test.YtembpajlllnncaaGreatDoorAcO
set_option linter.unusedVariables false
set_option linter.unusedSimpArgs false
namespace Go.Proofs.YtembpajlllnncaaGreatDoor

/-- A value's own bytes; below 0: it may not be. -/
def ownV (x : Val) : Int := (sizeOf_ (.mk 6 0 [] [] [([], x)] []) : Int) - 7
def listV (l : List Val) : Val := .mk 7 0 [] [] [] l
def noneV : Val := .mk 0 0 [] [] [] []
def nullV : Val := .mk 2 0 [] [] [] []
theorem own_none : ownV noneV = -7 := by decide
theorem own_list0 : ownV (listV []) = 5 := by decide
/-- What a value adds to a list of so many. -/
def moreV (x : Val) (n : Nat) : Int := ownV (listV [x]) + (itoa n).length - 1 - 5
/-- What a state keeps: how many came, its value, a list's bytes. -/
structure ASt where
 many : Nat
 v : Val
 size : Int
def startA (K : Int) : ASt := ⟨0, if K = 1 then .mk 3 0 [] [] [] [] else if K = 6 ∨ K = 7 then listV [] else noneV, if K = 6 ∨ K = 7 then 5 else 0⟩
/-- A value is pushed: an error (7: too long), and the state. -/
def pushA (st : ASt) (x : Val) : Int × ASt :=
 if x.kind = 0 then (0, st)
 else if ownV (listV [x]) < 0 then (3, st)
 else if st.size + moreV x st.v.l.length + 7 > 65536 then (3, st)
 else (0, { st with v := listV (st.v.l ++ [x]), size := st.size + moreV x st.v.l.length })
def betterA (st : ASt) (x : Val) (m : Int) : ASt :=
 if x.kind = 0 ∨ x.kind = 2 then st else if st.v.kind = 0 ∨ cmpV x st.v = m then { st with v := x } else st
/-- A value comes. -/
def stepA (K : Int) (st : ASt) (x : Val) : Int × ASt :=
 if K = 1 then
  if x.kind = 3 ∨ x.kind = 4 then
   if inR (st.v.num + x.num) then (0, { st with v := .mk (if st.v.kind = 4 ∨ x.kind = 4 then 4 else kindI (st.v.num + x.num)) (st.v.num + x.num) [] [] [] [] }) else (10, st)
  else (0, st)
 else if K = 2 then (0, betterA st x (-1))
 else if K = 3 then (0, betterA st x 1)
 else if K = 4 then (0, if st.many = 0 then { st with v := x } else st)
 else if K = 5 then (0, { st with v := x })
 else if K = 6 then pushA st x
 else if K = 7 then (if x.kind ≠ 0 ∧ st.v.l.any (fun y => cmpV y x == 0) then (0, st) else pushA st x)
 else (0, st)
def addA (K : Int) (st : ASt) (x : Val) : Int × ASt :=
 let r := stepA K st x
 if r.1 = 0 then (0, { r.2 with many := r.2.many + 1 }) else r
/-- What it comes to. -/
def valueA (K : Int) (st : ASt) : Val := if K = 8 then ofI st.many else if st.v.kind = 0 then nullV else st.v
def sizeA (K : Int) (st : ASt) : Int := if st.size > 0 then 16 + st.size else 16 + max 0 (ownV st.v)
end Go.Proofs.YtembpajlllnncaaGreatDoor
