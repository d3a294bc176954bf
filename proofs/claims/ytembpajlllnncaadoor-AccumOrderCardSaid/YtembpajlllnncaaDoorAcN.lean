/- Accumulators, plain: ranks, how values compare, sums, states. Accumulators: how numbers and ranks compare. -/
import Derived.Test.YtembpajlllnncaaDoorBsD
import Derived.Test.YtembpajlllnncaaDoorAcX
set_option linter.unusedVariables false
set_option linter.unusedSimpArgs false
namespace Go.Proofs.YtembpajlllnncaaDoor

/-- How two numbers compare. -/
def sgnI (a b : Int) : Int := if a < b then -1 else if b < a then 1 else 0
/-- A kind's rank. -/
def clsOf (k : Int) : Int := if k = 0 ∨ k = 1 ∨ k = 2 then k else if k = 3 ∨ k = 4 then 3 else if 5 ≤ k ∧ k ≤ 12 then k - 1 else -1
/-- The first that is not 0. -/
def orI (a b : Int) : Int := if a ≠ 0 then a else b
/-- Bytes, one after another. -/
def cmpB : Bs → Bs → Int
  | [], [] => 0
  | [], _ :: _ => -1
  | _ :: _, [] => 1
  | a :: r, b :: s => if a < b then -1 else if b < a then 1 else cmpB r s
mutual
/-- How two values compare. -/
def cmpV : Val → Val → Int
  | .mk k n s b f l, y =>
    orI (sgnI (clsOf k) (clsOf y.kind))
      (if k = 3 ∨ k = 4 ∨ k = 10 ∨ k = 11 then sgnI n y.num else if k = 5 then cmpB s y.s else if k = 6 then cmpFs f y.f else if k = 7 then cmpLs l y.l
       else if k = 8 then orI (sgnI b.length y.b.length) (cmpB b y.b) else if k = 9 then cmpB b y.b else 0)
def cmpFs : List (Bs × Val) → List (Bs × Val) → Int
  | [], [] => 0
  | [], _ :: _ => -1
  | _ :: _, [] => 1
  | (nm, v) :: r, (nm2, v2) :: r2 => orI (orI (sgnI (clsOf v.kind) (clsOf v2.kind)) (orI (cmpB nm nm2) (cmpV v v2))) (cmpFs r r2)
def cmpLs : List Val → List Val → Int
  | [], [] => 0
  | [], _ :: _ => -1
  | _ :: _, [] => 1
  | v :: r, v2 :: r2 => orI (cmpV v v2) (cmpLs r r2)
end
/-- A number as a value. -/
def ofI (n : Int) : Val := if -2147483648 ≤ n ∧ n ≤ 2147483647 then .mk 3 n [] [] [] [] else .mk 4 n [] [] [] []
/-- A sum of two numbers, or its error (10: out of range; 11: no number). -/
def isNum (v : Val) : Bool := decide (v.kind = 3 ∨ v.kind = 4)
theorem sgnI_self (a : Int) : sgnI a a = 0 := by unfold sgnI; simp
theorem cmpB_self : ∀ l : Bs, cmpB l l = 0
  | [] => rfl
  | a :: r => by
    rw [cmpB, if_neg (UInt8.lt_irrefl a), if_neg (UInt8.lt_irrefl a)]
    exact cmpB_self r
mutual
theorem cmpV_self : ∀ v : Val, cmpV v v = 0
  | .mk k n s b f l => by
    rw [cmpV]
    simp only [Val.kind, Val.num, Val.s, Val.b, Val.f, Val.l, sgnI_self, cmpB_self, cmpFs_self f, cmpLs_self l, orI]
    simp
theorem cmpFs_self : ∀ f : List (Bs × Val), cmpFs f f = 0
  | [] => by rw [cmpFs]
  | (nm, v) :: r => by
    rw [cmpFs, cmpV_self v, cmpFs_self r, sgnI_self, cmpB_self]; rfl
theorem cmpLs_self : ∀ l : List Val, cmpLs l l = 0
  | [] => by rw [cmpLs]
  | v :: r => by rw [cmpLs, cmpV_self v, cmpLs_self r]; rfl
end
end Go.Proofs.YtembpajlllnncaaDoor
namespace Go.Proofs.YtembpajlllnncaaDoor
open Go.RowKit

set_option maxRecDepth 100000 in
theorem nan_int (n : Int) (w : World) : Calls Tryd.prog 64 #[.int .i64 n] w fun e w' => e = .returned (.bool false) ∧ w = w' := by
  go_enter Tryd.func64, Tryd.ntmps64
  go_wp2
  go_ret
  simp
set_option maxRecDepth 100000 in
theorem nan_int64 (n : Int) (w : World) : Calls Tryd.prog 89 #[.int .i64 n] w fun e w' => e = .returned (.bool false) ∧ w = w' := by
  go_enter Tryd.func89, Tryd.ntmps89
  go_wp2
  go_ret
  simp
set_option maxRecDepth 100000 in
set_option maxHeartbeats 2000000 in
theorem cmp_int (a b : Int) (w : World) : Calls Tryd.prog 46 #[.int .i64 a, .int .i64 b] w fun e w' => e = .returned (.int .i64 (sgnI a b)) ∧ w = w' := by
  have hn1 := Lib.hid (fun (n : Int) (w : World) => nan_int n w)
  unfold sgnI
  by_cases h1 : a < b
  · rw [if_pos h1]
    go_enter Tryd.func46, Tryd.ntmps46
    go_wp2_with (go_at_call 64; refine (hn1.out _ _).mono ?_; rintro e w' ⟨rfl, rfl⟩)
    go_ret
    exact ⟨rfl, rfl⟩
  rw [if_neg h1]
  by_cases h2 : b < a
  · rw [if_pos h2]
    go_enter Tryd.func46, Tryd.ntmps46
    go_wp2_with (go_at_call 64; refine (hn1.out _ _).mono ?_; rintro e w' ⟨rfl, rfl⟩)
    go_ret
    exact ⟨rfl, rfl⟩
  · rw [if_neg h2]
    go_enter Tryd.func46, Tryd.ntmps46
    go_wp2_with (go_at_call 64; refine (hn1.out _ _).mono ?_; rintro e w' ⟨rfl, rfl⟩)
    go_ret
    exact ⟨rfl, rfl⟩
set_option maxRecDepth 100000 in
set_option maxHeartbeats 2000000 in
theorem cmp_int64 (a b : Int) (w : World) : Calls Tryd.prog 66 #[.int .i64 a, .int .i64 b] w fun e w' => e = .returned (.int .i64 (sgnI a b)) ∧ w = w' := by
  have hn1 := Lib.hid (fun (n : Int) (w : World) => nan_int64 n w)
  unfold sgnI
  by_cases h1 : a < b
  · rw [if_pos h1]
    go_enter Tryd.func66, Tryd.ntmps66
    go_wp2_with (go_at_call 89; refine (hn1.out _ _).mono ?_; rintro e w' ⟨rfl, rfl⟩)
    go_ret
    exact ⟨rfl, rfl⟩
  rw [if_neg h1]
  by_cases h2 : b < a
  · rw [if_pos h2]
    go_enter Tryd.func66, Tryd.ntmps66
    go_wp2_with (go_at_call 89; refine (hn1.out _ _).mono ?_; rintro e w' ⟨rfl, rfl⟩)
    go_ret
    exact ⟨rfl, rfl⟩
  · rw [if_neg h2]
    go_enter Tryd.func66, Tryd.ntmps66
    go_wp2_with (go_at_call 89; refine (hn1.out _ _).mono ?_; rintro e w' ⟨rfl, rfl⟩)
    go_ret
    exact ⟨rfl, rfl⟩
set_option maxRecDepth 100000 in
set_option maxHeartbeats 1000000 in
theorem or_class (k : Int) (w : World) : Calls Tryd.prog 47 #[.int .i64 k] w fun e w' => e = .returned (.int .i64 (clsOf k)) ∧ w = w' := by
  by_cases h0 : k = 0
  · subst h0; go_enter Tryd.func47, Tryd.ntmps47; go_wp2; go_ret; exact ⟨rfl, rfl⟩
  by_cases h1 : k = 1
  · subst h1; go_enter Tryd.func47, Tryd.ntmps47; go_wp2; go_ret; exact ⟨rfl, rfl⟩
  by_cases h2 : k = 2
  · subst h2; go_enter Tryd.func47, Tryd.ntmps47; go_wp2; go_ret; exact ⟨rfl, rfl⟩
  by_cases h3 : k = 3
  · subst h3; go_enter Tryd.func47, Tryd.ntmps47; go_wp2; go_ret; exact ⟨rfl, rfl⟩
  by_cases h4 : k = 4
  · subst h4; go_enter Tryd.func47, Tryd.ntmps47; go_wp2; go_ret; exact ⟨rfl, rfl⟩
  by_cases h5 : k = 5
  · subst h5; go_enter Tryd.func47, Tryd.ntmps47; go_wp2; go_ret; exact ⟨rfl, rfl⟩
  by_cases h6 : k = 6
  · subst h6; go_enter Tryd.func47, Tryd.ntmps47; go_wp2; go_ret; exact ⟨rfl, rfl⟩
  by_cases h7 : k = 7
  · subst h7; go_enter Tryd.func47, Tryd.ntmps47; go_wp2; go_ret; exact ⟨rfl, rfl⟩
  by_cases h8 : k = 8
  · subst h8; go_enter Tryd.func47, Tryd.ntmps47; go_wp2; go_ret; exact ⟨rfl, rfl⟩
  by_cases h9 : k = 9
  · subst h9; go_enter Tryd.func47, Tryd.ntmps47; go_wp2; go_ret; exact ⟨rfl, rfl⟩
  by_cases h10 : k = 10
  · subst h10; go_enter Tryd.func47, Tryd.ntmps47; go_wp2; go_ret; exact ⟨rfl, rfl⟩
  by_cases h11 : k = 11
  · subst h11; go_enter Tryd.func47, Tryd.ntmps47; go_wp2; go_ret; exact ⟨rfl, rfl⟩
  by_cases h12 : k = 12
  · subst h12; go_enter Tryd.func47, Tryd.ntmps47; go_wp2; go_ret; exact ⟨rfl, rfl⟩
  have hc : clsOf k = -1 := by
    unfold clsOf
    rw [if_neg (by omega), if_neg (by omega), if_neg (by omega)]
  rw [hc]
  clear hc
  go_enter Tryd.func47, Tryd.ntmps47
  go_wp2
  go_ret
  exact ⟨rfl, rfl⟩
/-- How values of a kind compare: the function. -/
def wayOf (k : Int) : FuncId :=
  if k = 3 ∨ k = 4 ∨ k = 10 ∨ k = 11 then 65 else if k = 5 then 67 else if k = 6 then 69 else if k = 7 then 72
  else if k = 8 then 74 else if k = 9 then 77 else 78
set_option maxRecDepth 100000 in
set_option maxHeartbeats 1000000 in
theorem or_way (k : Int) (w : World) : Calls Tryd.prog 48 #[.int .i64 k] w fun e w' => e = .returned (.func (.func (wayOf k)) #[] #[]) ∧ w = w' := by
  by_cases h3 : k = 3
  · subst h3; go_enter Tryd.func48, Tryd.ntmps48; go_wp2; go_ret; exact ⟨rfl, rfl⟩
  by_cases h4 : k = 4
  · subst h4; go_enter Tryd.func48, Tryd.ntmps48; go_wp2; go_ret; exact ⟨rfl, rfl⟩
  by_cases h5 : k = 5
  · subst h5; go_enter Tryd.func48, Tryd.ntmps48; go_wp2; go_ret; exact ⟨rfl, rfl⟩
  by_cases h6 : k = 6
  · subst h6; go_enter Tryd.func48, Tryd.ntmps48; go_wp2; go_ret; exact ⟨rfl, rfl⟩
  by_cases h7 : k = 7
  · subst h7; go_enter Tryd.func48, Tryd.ntmps48; go_wp2; go_ret; exact ⟨rfl, rfl⟩
  by_cases h8 : k = 8
  · subst h8; go_enter Tryd.func48, Tryd.ntmps48; go_wp2; go_ret; exact ⟨rfl, rfl⟩
  by_cases h9 : k = 9
  · subst h9; go_enter Tryd.func48, Tryd.ntmps48; go_wp2; go_ret; exact ⟨rfl, rfl⟩
  by_cases h10 : k = 10
  · subst h10; go_enter Tryd.func48, Tryd.ntmps48; go_wp2; go_ret; exact ⟨rfl, rfl⟩
  by_cases h11 : k = 11
  · subst h11; go_enter Tryd.func48, Tryd.ntmps48; go_wp2; go_ret; exact ⟨rfl, rfl⟩
  have hc : wayOf k = 78 := by
    unfold wayOf
    rw [if_neg (by omega), if_neg (by omega), if_neg (by omega), if_neg (by omega), if_neg (by omega), if_neg (by omega)]
  rw [hc]
  clear hc
  go_enter Tryd.func48, Tryd.ntmps48
  go_wp2
  go_ret
  exact ⟨rfl, rfl⟩
end Go.Proofs.YtembpajlllnncaaDoor
