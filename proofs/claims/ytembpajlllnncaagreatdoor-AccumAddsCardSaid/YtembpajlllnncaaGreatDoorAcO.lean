/- Accumulators, plain: ranks, how values compare, sums, states. Accumulators: how numbers and ranks compare. Accumulators: numbers: Of, Add. Accumulators: how values compare that have no parts. -/
import Derived.Test.YtembpajlllnncaaGreatDoorBsD
import Derived.Test.YtembpajlllnncaaGreatDoorAcX
import Derived.Test.YtembpajlllnncaaGreatDoorBsE2
set_option linter.unusedVariables false
set_option linter.unusedSimpArgs false
namespace Go.Proofs.YtembpajlllnncaaGreatDoor

/-- How two numbers compare. -/
def sgnI (a b : Int) : Int := if a < b then -1 else if b < a then 1 else 0
/-- A kind's rank. -/
def clsOf (k : Int) : Int := if k = 0 ∨ k = 1 ∨ k = 2 then k else if k = 3 ∨ k = 4 then 3 else if 5 ≤ k ∧ k ≤ 12 then k - 1 else -1
/-- The first that is not 0. -/
def orI (a b : Int) : Int := if a ≠ 0 then a else b
/-- Bytes, one after another. -/
def cmpB : Bs → Bs → Int
 | [], [] => 0
 | [], _ :: _ => -1
 | _ :: _, [] => 1
 | a :: r, b :: s => if a < b then -1 else if b < a then 1 else cmpB r s
mutual
/-- How two values compare. -/
def cmpV : Val → Val → Int
 | .mk k n s b f l, y =>
  orI (sgnI (clsOf k) (clsOf y.kind))
   (if k = 3 ∨ k = 4 ∨ k = 10 ∨ k = 11 then sgnI n y.num else if k = 5 then cmpB s y.s else if k = 6 then cmpFs f y.f else if k = 7 then cmpLs l y.l
    else if k = 8 then orI (sgnI b.length y.b.length) (cmpB b y.b) else if k = 9 then cmpB b y.b else 0)
def cmpFs : List (Bs × Val) → List (Bs × Val) → Int
 | [], [] => 0
 | [], _ :: _ => -1
 | _ :: _, [] => 1
 | (nm, v) :: r, (nm2, v2) :: r2 => orI (orI (sgnI (clsOf v.kind) (clsOf v2.kind)) (orI (cmpB nm nm2) (cmpV v v2))) (cmpFs r r2)
def cmpLs : List Val → List Val → Int
 | [], [] => 0
 | [], _ :: _ => -1
 | _ :: _, [] => 1
 | v :: r, v2 :: r2 => orI (cmpV v v2) (cmpLs r r2)
end
/-- A number as a value. -/
def ofI (n : Int) : Val := if -2147483648 ≤ n ∧ n ≤ 2147483647 then .mk 3 n [] [] [] [] else .mk 4 n [] [] [] []
/-- A sum of two numbers, or its error (10: out of range; 11: no number). -/
def isNum (v : Val) : Bool := decide (v.kind = 3 ∨ v.kind = 4)
theorem sgnI_self (a : Int) : sgnI a a = 0 := by unfold sgnI; simp
theorem cmpB_self : ∀ l : Bs, cmpB l l = 0
 | [] => rfl
 | a :: r => by
  rw [cmpB, if_neg (UInt8.lt_irrefl a), if_neg (UInt8.lt_irrefl a)]
  exact cmpB_self r
mutual
theorem cmpV_self : ∀ v : Val, cmpV v v = 0
 | .mk k n s b f l => by
  rw [cmpV]
  simp only [Val.kind, Val.num, Val.s, Val.b, Val.f, Val.l, sgnI_self, cmpB_self, cmpFs_self f, cmpLs_self l, orI]
  simp
theorem cmpFs_self : ∀ f : List (Bs × Val), cmpFs f f = 0
 | [] => by rw [cmpFs]
 | (nm, v) :: r => by
  rw [cmpFs, cmpV_self v, cmpFs_self r, sgnI_self, cmpB_self]; rfl
theorem cmpLs_self : ∀ l : List Val, cmpLs l l = 0
 | [] => by rw [cmpLs]
 | v :: r => by rw [cmpLs, cmpV_self v, cmpLs_self r]; rfl
end
end Go.Proofs.YtembpajlllnncaaGreatDoor
namespace Go.Proofs.YtembpajlllnncaaGreatDoor
open Go.RowKit

set_option maxRecDepth 100000 in
theorem nan_int (n : Int) (w : World) : Calls Tryz.prog 77 #[.int .i64 n] w fun e w' => e = .returned (.bool false) ∧ w = w' := by
 go_enter Tryz.func77, Tryz.ntmps77
 go_wp2
 go_ret
 simp
set_option maxRecDepth 100000 in
theorem nan_int64 (n : Int) (w : World) : Calls Tryz.prog 102 #[.int .i64 n] w fun e w' => e = .returned (.bool false) ∧ w = w' := by
 go_enter Tryz.func102, Tryz.ntmps102
 go_wp2
 go_ret
 simp
set_option maxRecDepth 100000 in
set_option maxHeartbeats 2000000 in
theorem cmp_int (a b : Int) (w : World) : Calls Tryz.prog 59 #[.int .i64 a, .int .i64 b] w fun e w' => e = .returned (.int .i64 (sgnI a b)) ∧ w = w' := by
 have hn1 := Lib.hid (fun (n : Int) (w : World) => nan_int n w)
 unfold sgnI
 by_cases h1 : a < b
 ·rw [if_pos h1]
  go_enter Tryz.func59, Tryz.ntmps59
  go_wp2_with (go_at_call 77; refine (hn1.out _ _).mono ?_; rintro e w' ⟨rfl, rfl⟩)
  go_ret
  exact ⟨rfl, rfl⟩
 rw [if_neg h1]
 by_cases h2 : b < a
 ·rw [if_pos h2]
  go_enter Tryz.func59, Tryz.ntmps59
  go_wp2_with (go_at_call 77; refine (hn1.out _ _).mono ?_; rintro e w' ⟨rfl, rfl⟩)
  go_ret
  exact ⟨rfl, rfl⟩
 ·rw [if_neg h2]
  go_enter Tryz.func59, Tryz.ntmps59
  go_wp2_with (go_at_call 77; refine (hn1.out _ _).mono ?_; rintro e w' ⟨rfl, rfl⟩)
  go_ret
  exact ⟨rfl, rfl⟩
set_option maxRecDepth 100000 in
set_option maxHeartbeats 2000000 in
theorem cmp_int64 (a b : Int) (w : World) : Calls Tryz.prog 79 #[.int .i64 a, .int .i64 b] w fun e w' => e = .returned (.int .i64 (sgnI a b)) ∧ w = w' := by
 have hn1 := Lib.hid (fun (n : Int) (w : World) => nan_int64 n w)
 unfold sgnI
 by_cases h1 : a < b
 ·rw [if_pos h1]
  go_enter Tryz.func79, Tryz.ntmps79
  go_wp2_with (go_at_call 102; refine (hn1.out _ _).mono ?_; rintro e w' ⟨rfl, rfl⟩)
  go_ret
  exact ⟨rfl, rfl⟩
 rw [if_neg h1]
 by_cases h2 : b < a
 ·rw [if_pos h2]
  go_enter Tryz.func79, Tryz.ntmps79
  go_wp2_with (go_at_call 102; refine (hn1.out _ _).mono ?_; rintro e w' ⟨rfl, rfl⟩)
  go_ret
  exact ⟨rfl, rfl⟩
 ·rw [if_neg h2]
  go_enter Tryz.func79, Tryz.ntmps79
  go_wp2_with (go_at_call 102; refine (hn1.out _ _).mono ?_; rintro e w' ⟨rfl, rfl⟩)
  go_ret
  exact ⟨rfl, rfl⟩
set_option maxRecDepth 100000 in
set_option maxHeartbeats 1000000 in
theorem or_class (k : Int) (w : World) : Calls Tryz.prog 60 #[.int .i64 k] w fun e w' => e = .returned (.int .i64 (clsOf k)) ∧ w = w' := by
 by_cases h0 : k = 0
 ·subst h0; go_enter Tryz.func60, Tryz.ntmps60; go_wp2; go_ret; exact ⟨rfl, rfl⟩
 by_cases h1 : k = 1
 ·subst h1; go_enter Tryz.func60, Tryz.ntmps60; go_wp2; go_ret; exact ⟨rfl, rfl⟩
 by_cases h2 : k = 2
 ·subst h2; go_enter Tryz.func60, Tryz.ntmps60; go_wp2; go_ret; exact ⟨rfl, rfl⟩
 by_cases h3 : k = 3
 ·subst h3; go_enter Tryz.func60, Tryz.ntmps60; go_wp2; go_ret; exact ⟨rfl, rfl⟩
 by_cases h4 : k = 4
 ·subst h4; go_enter Tryz.func60, Tryz.ntmps60; go_wp2; go_ret; exact ⟨rfl, rfl⟩
 by_cases h5 : k = 5
 ·subst h5; go_enter Tryz.func60, Tryz.ntmps60; go_wp2; go_ret; exact ⟨rfl, rfl⟩
 by_cases h6 : k = 6
 ·subst h6; go_enter Tryz.func60, Tryz.ntmps60; go_wp2; go_ret; exact ⟨rfl, rfl⟩
 by_cases h7 : k = 7
 ·subst h7; go_enter Tryz.func60, Tryz.ntmps60; go_wp2; go_ret; exact ⟨rfl, rfl⟩
 by_cases h8 : k = 8
 ·subst h8; go_enter Tryz.func60, Tryz.ntmps60; go_wp2; go_ret; exact ⟨rfl, rfl⟩
 by_cases h9 : k = 9
 ·subst h9; go_enter Tryz.func60, Tryz.ntmps60; go_wp2; go_ret; exact ⟨rfl, rfl⟩
 by_cases h10 : k = 10
 ·subst h10; go_enter Tryz.func60, Tryz.ntmps60; go_wp2; go_ret; exact ⟨rfl, rfl⟩
 by_cases h11 : k = 11
 ·subst h11; go_enter Tryz.func60, Tryz.ntmps60; go_wp2; go_ret; exact ⟨rfl, rfl⟩
 by_cases h12 : k = 12
 ·subst h12; go_enter Tryz.func60, Tryz.ntmps60; go_wp2; go_ret; exact ⟨rfl, rfl⟩
 have hc : clsOf k = -1 := by
  unfold clsOf
  rw [if_neg (by omega), if_neg (by omega), if_neg (by omega)]
 rw [hc]
 clear hc
 go_enter Tryz.func60, Tryz.ntmps60
 go_wp2
 go_ret
 exact ⟨rfl, rfl⟩
/-- How values of a kind compare: the function. -/
def wayOf (k : Int) : FuncId :=
 if k = 3 ∨ k = 4 ∨ k = 10 ∨ k = 11 then 78 else if k = 5 then 80 else if k = 6 then 82 else if k = 7 then 85
 else if k = 8 then 87 else if k = 9 then 90 else 91
set_option maxRecDepth 100000 in
set_option maxHeartbeats 1000000 in
theorem or_way (k : Int) (w : World) : Calls Tryz.prog 61 #[.int .i64 k] w fun e w' => e = .returned (.func (.func (wayOf k)) #[] #[]) ∧ w = w' := by
 by_cases h3 : k = 3
 ·subst h3; go_enter Tryz.func61, Tryz.ntmps61; go_wp2; go_ret; exact ⟨rfl, rfl⟩
 by_cases h4 : k = 4
 ·subst h4; go_enter Tryz.func61, Tryz.ntmps61; go_wp2; go_ret; exact ⟨rfl, rfl⟩
 by_cases h5 : k = 5
 ·subst h5; go_enter Tryz.func61, Tryz.ntmps61; go_wp2; go_ret; exact ⟨rfl, rfl⟩
 by_cases h6 : k = 6
 ·subst h6; go_enter Tryz.func61, Tryz.ntmps61; go_wp2; go_ret; exact ⟨rfl, rfl⟩
 by_cases h7 : k = 7
 ·subst h7; go_enter Tryz.func61, Tryz.ntmps61; go_wp2; go_ret; exact ⟨rfl, rfl⟩
 by_cases h8 : k = 8
 ·subst h8; go_enter Tryz.func61, Tryz.ntmps61; go_wp2; go_ret; exact ⟨rfl, rfl⟩
 by_cases h9 : k = 9
 ·subst h9; go_enter Tryz.func61, Tryz.ntmps61; go_wp2; go_ret; exact ⟨rfl, rfl⟩
 by_cases h10 : k = 10
 ·subst h10; go_enter Tryz.func61, Tryz.ntmps61; go_wp2; go_ret; exact ⟨rfl, rfl⟩
 by_cases h11 : k = 11
 ·subst h11; go_enter Tryz.func61, Tryz.ntmps61; go_wp2; go_ret; exact ⟨rfl, rfl⟩
 have hc : wayOf k = 91 := by
  unfold wayOf
  rw [if_neg (by omega), if_neg (by omega), if_neg (by omega), if_neg (by omega), if_neg (by omega), if_neg (by omega)]
 rw [hc]
 clear hc
 go_enter Tryz.func61, Tryz.ntmps61
 go_wp2
 go_ret
 exact ⟨rfl, rfl⟩
end Go.Proofs.YtembpajlllnncaaGreatDoor
namespace Go.Proofs.YtembpajlllnncaaGreatDoor
open Go.RowKit

/-- The kind of a number as a value. -/
def kindI (n : Int) : Int := if -2147483648 ≤ n ∧ n ≤ 2147483647 then 3 else 4
theorem ofI_eq (n : Int) : ofI n = .mk (kindI n) n [] [] [] [] := by unfold ofI kindI; split <;> rfl
/-- A number goes into 64 bits. -/
def inR (n : Int) : Prop := -9223372036854775808 ≤ n ∧ n ≤ 9223372036854775807
instance (n : Int) : Decidable (inR n) := by unfold inR; infer_instance
theorem results_v {fn : Func} {tmps : Array Value} {w : World} {S V : Nat} {v0 v1 v2 v3 v4 v5 : Value} {t : TypeId} (hfn : fn.results = #[.cell S 35]) (ht : tmps.getD S undef = .pointer (some ⟨V, 0, none⟩)) (hb : w.heap[V]? = some (.cells #[v0, v1, v2, v3, v4, v5] t (0, 0))) :
  (results fn tmps).run Tryz.prog w = .ok (.agg #[v0, v1, v2, v3, v4, v5]) w := by
 have p0 := cell_blk hb (i := 0) rfl
 have p1 := cell_blk hb (i := 1) rfl
 have p2 := cell_blk hb (i := 2) rfl
 have p3 := cell_blk hb (i := 3) rfl
 have p4 := cell_blk hb (i := 4) rfl
 have p5 := cell_blk hb (i := 5) rfl
 simp at p0 p1 p2 p3 p4 p5
 have ht' : tmps[S]?.getD undef = .pointer (some ⟨V, 0, none⟩) := by simpa using ht
 simp [results, hfn, ht', go_sem, p0, p1, p2, p3, p4, p5]
theorem results_v2 {fn : Func} {tmps : Array Value} {w : World} {S Q V : Nat} {x v0 v1 v2 v3 v4 v5 : Value} {t : TypeId} (hfn : fn.results = #[.cell S 35, .tmp Q]) (ht : tmps.getD S undef = .pointer (some ⟨V, 0, none⟩)) (hq : tmps.getD Q undef = x) (hb : w.heap[V]? = some (.cells #[v0, v1, v2, v3, v4, v5] t (0, 0))) :
  (results fn tmps).run Tryz.prog w = .ok (.tuple #[.agg #[v0, v1, v2, v3, v4, v5], x]) w := by
 have p0 := cell_blk hb (i := 0) rfl
 have p1 := cell_blk hb (i := 1) rfl
 have p2 := cell_blk hb (i := 2) rfl
 have p3 := cell_blk hb (i := 3) rfl
 have p4 := cell_blk hb (i := 4) rfl
 have p5 := cell_blk hb (i := 5) rfl
 simp at p0 p1 p2 p3 p4 p5
 have ht' : tmps[S]?.getD undef = .pointer (some ⟨V, 0, none⟩) := by simpa using ht
 have hq' : tmps[Q]?.getD undef = x := by simpa using hq
 simp [results, hfn, ht', hq', go_sem, p0, p1, p2, p3, p4, p5]
set_option maxRecDepth 100000 in
set_option maxHeartbeats 2000000 in
theorem num_of (n : Int) (w : World) (hn : inR n) : Calls Tryz.prog 22 #[.int .i64 n] w fun e w' => e = .returned (.agg #[.int .i64 (kindI n), .int .i64 n, (.string ⟨#[]⟩), (.slice none 0 0), (.slice none 0 0), (.slice none 0 0)]) ∧ Step [] id id w w' := by
 unfold kindI
 by_cases h : -2147483648 ≤ n ∧ n ≤ 2147483647
 ·rw [if_pos h]
  have h2 : wrap64 (wrap32 n) = n := by rw [IntWalk.wrap32_in n h]; exact IntWalk.wrap64_in n hn
  have h3 : (n == wrap64 (wrap32 n)) = true := by rw [h2]; simp
  clear h2
  go_enter Tryz.func22, Tryz.ntmps22
  go_wp2_with fail
  have hvb := heap_alloc_new w (.cells #[.int .i64 3, .int .i64 n, (.string ⟨#[]⟩), (.slice none 0 0), (.slice none 0 0), (.slice none 0 0)] 35)
  exact bodyPost_ret (results_v rfl rfl hvb) rfl ⟨rfl, Step.alloc _⟩
 ·rw [if_neg h]
  have h2 : wrap64 (wrap32 n) ≠ n := by
   intro e
   have : -2147483648 ≤ wrap32 n ∧ wrap32 n ≤ 2147483647 := by unfold wrap32; omega
   rw [IntWalk.wrap64_in _ (by omega)] at e
   rw [e] at this
   exact h this
  have h3 : (n == wrap64 (wrap32 n)) = false := by rw [beq_eq_false_iff_ne]; exact fun e => h2 e.symm
  clear h2
  go_enter Tryz.func22, Tryz.ntmps22
  go_wp2_with fail
  have hvb := heap_alloc_new w (.cells #[.int .i64 4, .int .i64 n, (.string ⟨#[]⟩), (.slice none 0 0), (.slice none 0 0), (.slice none 0 0)] 35)
  exact bodyPost_ret (results_v rfl rfl hvb) rfl ⟨rfl, Step.alloc _⟩
set_option maxRecDepth 100000 in
set_option maxHeartbeats 2000000 in
theorem num_within (n : Int) (b : Bool) (w : World) : Calls Tryz.prog 69 #[.int .i64 n, .bool b] w fun e w' => e = .returned (.tuple #[.int .i64 (if b then n else 0), .int .i64 (if b then 0 else 10)]) ∧ w = w' := by
 cases b
 ·go_enter Tryz.func69, Tryz.ntmps69
  go_wp2_with fail
  go_ret2
  exact ⟨rfl, rfl⟩
 ·go_enter Tryz.func69, Tryz.ntmps69
  go_wp2_with fail
  go_ret2
  exact ⟨rfl, rfl⟩
theorem add_fits {x y : Int} (hx : inR x) (hy : inR y) : (decide (x < wrap64 (x + y)) == decide (0 < y)) = decide (inR (x + y)) := by
 obtain ⟨x0, x1⟩ := hx
 obtain ⟨y0, y1⟩ := hy
 by_cases hr : inR (x + y)
 ·rw [decide_eq_true hr, IntWalk.wrap64_in _ hr, beq_iff_eq, decide_eq_decide]
  omega
 ·rw [decide_eq_false hr, beq_eq_false_iff_ne]
  intro h
  rw [decide_eq_decide] at h
  have hc : 9223372036854775807 < x + y ∨ x + y < -9223372036854775808 := by
   rcases Classical.em (-9223372036854775808 ≤ x + y) with h1 | h1
   ·exact .inl (by rcases Classical.em (x + y ≤ 9223372036854775807) with h2 | h2; exact absurd ⟨h1, h2⟩ hr; omega)
   ·exact .inr (by omega)
  rcases hc with hc | hc
  ·have e : wrap64 (x + y) = x + y - 18446744073709551616 := by unfold wrap64; omega
   rw [e] at h
   have := h.2 (by omega)
   omega
  ·have e : wrap64 (x + y) = x + y + 18446744073709551616 := by unfold wrap64; omega
   rw [e] at h
   have := h.1 (by omega)
   omega
set_option maxRecDepth 100000 in
set_option maxHeartbeats 2000000 in
theorem num_add1 (x y : Int) (w : World) (hx : inR x) (hy : inR y) : Calls Tryz.prog 53 #[.int .i64 x, .int .i64 y] w fun e w' => e = .returned (.tuple #[.int .i64 (if inR (x + y) then x + y else 0), .int .i64 (if inR (x + y) then 0 else 10)]) ∧ w = w' := by
 have hf := add_fits hx hy
 obtain ⟨r, hr⟩ : ∃ r, r = decide (inR (x + y)) := ⟨_, rfl⟩
 rw [← hr] at hf
 have hfH := Lib.hid hf
 have hrH := Lib.hid hr
 clear hf hr
 have hres : (if inR (x + y) then x + y else 0) = (if r then wrap64 (x + y) else 0) ∧ (if inR (x + y) then (0 : Int) else 10) = (if r then 0 else 10) := by
  rw [hrH.out]
  by_cases h : inR (x + y)
  ·simp only [h, if_true, decide_true]
   exact ⟨(IntWalk.wrap64_in _ h).symm, trivial⟩
  ·simp [h]
 rw [hres.1, hres.2]
 clear hres
 go_enter Tryz.func53, Tryz.ntmps53
 go_wp2_with fail
 rw [hfH.out]
 refine (num_within _ _ _).mono ?_
 rintro e w' ⟨rfl, rfl⟩
 cases r
 ·go_wp2_with fail
  go_ret2
  exact ⟨rfl, rfl⟩
 ·go_wp2_with fail
  go_ret2
  exact ⟨rfl, rfl⟩
set_option maxRecDepth 100000 in
set_option maxHeartbeats 2000000 in
theorem num_none {k n : Int} {s b f l : Value} (w : World) (hk : k = 3 ∨ k = 4) : Calls Tryz.prog 67 #[.agg #[.int .i64 k, .int .i64 n, s, b, f, l]] w fun e w' => e = .returned (.bool false) ∧ Step [] id id w w' := by
 by_cases h : k = 3
 ·subst h; go_enter Tryz.func67, Tryz.ntmps67; go_wp2; go_ret; exact ⟨rfl, Step.alloc _⟩
 ·obtain rfl : k = 4 := by omega
  go_enter Tryz.func67, Tryz.ntmps67; go_wp2; go_ret; exact ⟨rfl, Step.alloc _⟩
set_option maxRecDepth 100000 in
set_option maxHeartbeats 2000000 in
theorem num_number {k n : Int} {s b f l : Value} (w : World) (hk : k = 3 ∨ k = 4) : Calls Tryz.prog 68 #[.agg #[.int .i64 k, .int .i64 n, s, b, f, l]] w fun e w' => e = .returned (.bool true) ∧ Step [] id id w w' := by
 by_cases h : k = 3
 ·subst h; go_enter Tryz.func68, Tryz.ntmps68; go_wp2; go_ret; exact ⟨rfl, Step.alloc _⟩
 ·obtain rfl : k = 4 := by omega
  go_enter Tryz.func68, Tryz.ntmps68; go_wp2; go_ret; exact ⟨rfl, Step.alloc _⟩
/-- A sum as a value. -/
def sumC (k1 n1 k2 n2 : Int) : Array Value := if inR (n1 + n2) then #[.int .i64 (if k1 = 4 ∨ k2 = 4 then 4 else kindI (n1 + n2)), .int .i64 (n1 + n2), (.string ⟨#[]⟩), (.slice none 0 0), (.slice none 0 0), (.slice none 0 0)] else #[.int .i64 0, .int .i64 0, (.string ⟨#[]⟩), (.slice none 0 0), (.slice none 0 0), (.slice none 0 0)]
def SumP (k1 n1 k2 n2 : Int) (w : World) (e : Ending) (w' : World) : Prop := e = .returned (.tuple #[.agg (sumC k1 n1 k2 n2), .int .i64 (if inR (n1 + n2) then 0 else 10)]) ∧ Step [] id id w w'
theorem cells6A {w : World} {V : Nat} {v0 v1 v2 v3 v4 v5 : Value} {t : TypeId} (h : w.heap[V]? = some (.cells #[v0, v1, v2, v3, v4, v5] t (0, 0))) :
  w.cell? ⟨V, 0, none⟩ = some v0 ∧ w.cell? ⟨V, 1, none⟩ = some v1 ∧ w.cell? ⟨V, 2, none⟩ = some v2 ∧ w.cell? ⟨V, 3, none⟩ = some v3 ∧ w.cell? ⟨V, 4, none⟩ = some v4 ∧ w.cell? ⟨V, 5, none⟩ = some v5 :=
 ⟨cell_blk h (i := 0) rfl, cell_blk h (i := 1) rfl, cell_blk h (i := 2) rfl, cell_blk h (i := 3) rfl, cell_blk h (i := 4) rfl, cell_blk h (i := 5) rfl⟩
set_option maxRecDepth 100000 in
set_option maxHeartbeats 4000000 in
theorem num_reckoned {k1 n1 k2 n2 : Int} {s1 b1 f1 l1 s2 b2 f2 l2 : Value} (w : World) (h1 : k1 = 3 ∨ k1 = 4) (h2 : k2 = 3 ∨ k2 = 4) (hx : inR n1) (hy : inR n2) :
  Calls Tryz.prog 52 #[.agg #[.int .i64 k1, .int .i64 n1, s1, b1, f1, l1], .agg #[.int .i64 k2, .int .i64 n2, s2, b2, f2, l2], .func (.func 53) #[] #[]] w (SumP k1 n1 k2 n2 w) := by
 have hcf : ∀ (args : Array Value) (w : World), (callFunc 53 args).run Tryz.prog w = .ok (.enter 53 args) w := fun _ _ => by kernel_rfl
 obtain ⟨W3, hW3⟩ : ∃ W3, W3 = ((w.alloc (.cells #[.int .i64 k1, .int .i64 n1, s1, b1, f1, l1] 35)).alloc (.cells #[.int .i64 k2, .int .i64 n2, s2, b2, f2, l2] 35)).alloc (.cells #[.int .i64 0, .int .i64 0, (.string ⟨#[]⟩), (.slice none 0 0), (.slice none 0 0), (.slice none 0 0)] 35) := ⟨_, rfl⟩
 have hW3H := Lib.hid hW3
 go_enter Tryz.func52, Tryz.ntmps52
 go_wp2_with fail
 rw [← hW3H.out]
 have hA : Step [] id id w W3 := by rw [hW3]; exact ((Step.alloc _).tail (Step.alloc _)).tail (Step.alloc _)
 have hb0 : W3.heap[w.heap.size]? = some (.cells #[.int .i64 k1, .int .i64 n1, s1, b1, f1, l1] 35 (0, 0)) := by rw [hW3]; exact alloc_old (alloc_old (heap_alloc_new w _))
 have hb1 : W3.heap[w.heap.size + 1]? = some (.cells #[.int .i64 k2, .int .i64 n2, s2, b2, f2, l2] 35 (0, 0)) := by
  rw [hW3]; refine alloc_old ?_
  have := heap_alloc_new (w.alloc (.cells #[.int .i64 k1, .int .i64 n1, s1, b1, f1, l1] 35)) (.cells #[.int .i64 k2, .int .i64 n2, s2, b2, f2, l2] 35)
  rwa [show (w.alloc (.cells #[.int .i64 k1, .int .i64 n1, s1, b1, f1, l1] 35)).heap.size = w.heap.size + 1 by simp] at this
 have hb2 : W3.heap[w.heap.size + 1 + 1]? = some (.cells #[.int .i64 0, .int .i64 0, (.string ⟨#[]⟩), (.slice none 0 0), (.slice none 0 0), (.slice none 0 0)] 35 (0, 0)) := by
  rw [hW3]
  have := heap_alloc_new ((w.alloc (.cells #[.int .i64 k1, .int .i64 n1, s1, b1, f1, l1] 35)).alloc (.cells #[.int .i64 k2, .int .i64 n2, s2, b2, f2, l2] 35)) (.cells #[.int .i64 0, .int .i64 0, (.string ⟨#[]⟩), (.slice none 0 0), (.slice none 0 0), (.slice none 0 0)] 35)
  rwa [show ((w.alloc (.cells #[.int .i64 k1, .int .i64 n1, s1, b1, f1, l1] 35)).alloc (.cells #[.int .i64 k2, .int .i64 n2, s2, b2, f2, l2] 35)).heap.size = w.heap.size + 1 + 1 by simp] at this
 have hAH := Lib.hid hA
 have hb0H := Lib.hid hb0
 have hb1H := Lib.hid hb1
 have hb2H := Lib.hid hb2
 clear hW3 hA hb0 hb1 hb2
 refine (num_none W3 h1).mono ?_
 rintro e w4 ⟨rfl, hs4⟩
 have hA2 := hAH.out.tail hs4
 have hb0 := hs4.at hb0H.out (by simp)
 have hb1 := hs4.at hb1H.out (by simp)
 have hb2 := hs4.at hb2H.out (by simp)
 (try clear a0 a1 a2 a3 a4 a5)
 (try clear c0 c1 c2 c3 c4 c5)
 (try clear z0 z1 z2 z3 z4 z5)
 (try clear fz)
 (try clear lt0 lt1 lt2)
 clear hAH hb0H hb1H hb2H
 have hAH := Lib.hid hA2
 have hb0H := Lib.hid hb0
 have hb1H := Lib.hid hb1
 have hb2H := Lib.hid hb2
 have lt0 := lt_of_block hb0
 have lt1 := lt_of_block hb1
 have lt2 := lt_of_block hb2
 obtain ⟨a0, a1, a2, a3, a4, a5⟩ := cells6A hb0
 obtain ⟨c0, c1, c2, c3, c4, c5⟩ := cells6A hb1
 obtain ⟨z0, z1, z2, z3, z4, z5⟩ := cells6A hb2
 have fz := free_blk hb2
 clear hA2 hb0 hb1 hb2 hs4
 go_wp2_with fail
 refine (num_none w4 h2).mono ?_
 rintro e w5 ⟨rfl, hs5⟩
 have hA2 := hAH.out.tail hs5
 have hb0 := hs5.at hb0H.out (by simp)
 have hb1 := hs5.at hb1H.out (by simp)
 have hb2 := hs5.at hb2H.out (by simp)
 (try clear a0 a1 a2 a3 a4 a5)
 (try clear c0 c1 c2 c3 c4 c5)
 (try clear z0 z1 z2 z3 z4 z5)
 (try clear fz)
 (try clear lt0 lt1 lt2)
 clear hAH hb0H hb1H hb2H
 have hAH := Lib.hid hA2
 have hb0H := Lib.hid hb0
 have hb1H := Lib.hid hb1
 have hb2H := Lib.hid hb2
 have lt0 := lt_of_block hb0
 have lt1 := lt_of_block hb1
 have lt2 := lt_of_block hb2
 obtain ⟨a0, a1, a2, a3, a4, a5⟩ := cells6A hb0
 obtain ⟨c0, c1, c2, c3, c4, c5⟩ := cells6A hb1
 obtain ⟨z0, z1, z2, z3, z4, z5⟩ := cells6A hb2
 have fz := free_blk hb2
 clear hA2 hb0 hb1 hb2 hs5
 go_wp2_with fail
 refine (num_number w5 h1).mono ?_
 rintro e w6 ⟨rfl, hs6⟩
 have hA2 := hAH.out.tail hs6
 have hb0 := hs6.at hb0H.out (by simp)
 have hb1 := hs6.at hb1H.out (by simp)
 have hb2 := hs6.at hb2H.out (by simp)
 (try clear a0 a1 a2 a3 a4 a5)
 (try clear c0 c1 c2 c3 c4 c5)
 (try clear z0 z1 z2 z3 z4 z5)
 (try clear fz)
 (try clear lt0 lt1 lt2)
 clear hAH hb0H hb1H hb2H
 have hAH := Lib.hid hA2
 have hb0H := Lib.hid hb0
 have hb1H := Lib.hid hb1
 have hb2H := Lib.hid hb2
 have lt0 := lt_of_block hb0
 have lt1 := lt_of_block hb1
 have lt2 := lt_of_block hb2
 obtain ⟨a0, a1, a2, a3, a4, a5⟩ := cells6A hb0
 obtain ⟨c0, c1, c2, c3, c4, c5⟩ := cells6A hb1
 obtain ⟨z0, z1, z2, z3, z4, z5⟩ := cells6A hb2
 have fz := free_blk hb2
 clear hA2 hb0 hb1 hb2 hs6
 go_wp2_with fail
 refine (num_number w6 h2).mono ?_
 rintro e w7 ⟨rfl, hs7⟩
 have hA2 := hAH.out.tail hs7
 have hb0 := hs7.at hb0H.out (by simp)
 have hb1 := hs7.at hb1H.out (by simp)
 have hb2 := hs7.at hb2H.out (by simp)
 (try clear a0 a1 a2 a3 a4 a5)
 (try clear c0 c1 c2 c3 c4 c5)
 (try clear z0 z1 z2 z3 z4 z5)
 (try clear fz)
 (try clear lt0 lt1 lt2)
 clear hAH hb0H hb1H hb2H
 have hAH := Lib.hid hA2
 have hb0H := Lib.hid hb0
 have hb1H := Lib.hid hb1
 have hb2H := Lib.hid hb2
 have lt0 := lt_of_block hb0
 have lt1 := lt_of_block hb1
 have lt2 := lt_of_block hb2
 obtain ⟨a0, a1, a2, a3, a4, a5⟩ := cells6A hb0
 obtain ⟨c0, c1, c2, c3, c4, c5⟩ := cells6A hb1
 obtain ⟨z0, z1, z2, z3, z4, z5⟩ := cells6A hb2
 have fz := free_blk hb2
 clear hA2 hb0 hb1 hb2 hs7
 go_wp2_with fail
 have hN := num_add1 n1 n2 w7 hx hy
 by_cases hr : inR (n1 + n2)
 ·rw [if_pos hr, if_pos hr] at hN
  have hres := Lib.hid hr
  refine hN.mono ?_
  clear hN
  rintro e w' ⟨rfl, rfl⟩
  go_wp2_with fail
  refine (num_of (n1 + n2) w7 hr).mono ?_
  rintro e w8 ⟨rfl, hs8⟩
  have hA2 := hAH.out.tail hs8
  have hb0 := hs8.at hb0H.out (by simp)
  have hb1 := hs8.at hb1H.out (by simp)
  have hb2 := hs8.at hb2H.out (by simp)
  (try clear a0 a1 a2 a3 a4 a5)
  (try clear c0 c1 c2 c3 c4 c5)
  (try clear z0 z1 z2 z3 z4 z5)
  (try clear fz)
  (try clear lt0 lt1 lt2)
  clear hAH hb0H hb1H hb2H
  have hAH := Lib.hid hA2
  have hb0H := Lib.hid hb0
  have hb1H := Lib.hid hb1
  have hb2H := Lib.hid hb2
  have lt0 := lt_of_block hb0
  have lt1 := lt_of_block hb1
  have lt2 := lt_of_block hb2
  obtain ⟨a0, a1, a2, a3, a4, a5⟩ := cells6A hb0
  obtain ⟨c0, c1, c2, c3, c4, c5⟩ := cells6A hb1
  obtain ⟨z0, z1, z2, z3, z4, z5⟩ := cells6A hb2
  have fz := free_blk hb2
  clear hA2 hb0 hb1 hb2 hs8
  obtain ⟨K, hK⟩ : ∃ K, K = kindI (n1 + n2) := ⟨_, rfl⟩
  rw [← hK]
  have hKH := Lib.hid hK
  clear hK
  rcases h1 with rfl | rfl
  ·rcases h2 with rfl | rfl
   ·go_wp2_with fail
    change bodyPost _ _ _ _ _ ((set6 w8 (w.heap.size + 1 + 1) (.int .i64 K) (.int .i64 (n1 + n2)) (.string ⟨#[]⟩) (.slice none 0 0) (.slice none 0 0) (.slice none 0 0)).alloc (.cells #[.int .i64 K, .int .i64 (n1 + n2), (.string ⟨#[]⟩), (.slice none 0 0), (.slice none 0 0), (.slice none 0 0)] 35))
    refine bodyPost_ret (results_v2 rfl rfl rfl (alloc_old (set6_heap hb2H.out))) rfl ?_
    have hs : Step [] id id w ((set6 w8 (w.heap.size + 1 + 1) (.int .i64 K) (.int .i64 (n1 + n2)) (.string ⟨#[]⟩) (.slice none 0 0) (.slice none 0 0) (.slice none 0 0)).alloc (.cells #[.int .i64 K, .int .i64 (n1 + n2), (.string ⟨#[]⟩), (.slice none 0 0), (.slice none 0 0), (.slice none 0 0)] 35)) := (hAH.out.tailNew (T2 := [w.heap.size + 1 + 1]) (.grown set6_grown (fun k hk => by cases hk; simp)) (by simp; omega)).tail (Step.alloc _)
    unfold SumP sumC
    rw [if_pos hres.out, if_pos hres.out]
    rw [if_neg (by omega), ← hKH.out]
    exact ⟨rfl, hs⟩
   ·go_wp2_with fail
    change bodyPost _ _ _ _ _ ((set6 w8 (w.heap.size + 1 + 1) (.int .i64 4) (.int .i64 (n1 + n2)) (.string ⟨#[]⟩) (.slice none 0 0) (.slice none 0 0) (.slice none 0 0)).alloc (.cells #[.int .i64 4, .int .i64 (n1 + n2), (.string ⟨#[]⟩), (.slice none 0 0), (.slice none 0 0), (.slice none 0 0)] 35))
    refine bodyPost_ret (results_v2 rfl rfl rfl (alloc_old (set6_heap hb2H.out))) rfl ?_
    have hs : Step [] id id w ((set6 w8 (w.heap.size + 1 + 1) (.int .i64 4) (.int .i64 (n1 + n2)) (.string ⟨#[]⟩) (.slice none 0 0) (.slice none 0 0) (.slice none 0 0)).alloc (.cells #[.int .i64 4, .int .i64 (n1 + n2), (.string ⟨#[]⟩), (.slice none 0 0), (.slice none 0 0), (.slice none 0 0)] 35)) := (hAH.out.tailNew (T2 := [w.heap.size + 1 + 1]) (.grown set6_grown (fun k hk => by cases hk; simp)) (by simp; omega)).tail (Step.alloc _)
    unfold SumP sumC
    rw [if_pos hres.out, if_pos hres.out]
    rw [if_pos (.inr rfl)]
    exact ⟨rfl, hs⟩
  ·go_wp2_with fail
   change bodyPost _ _ _ _ _ ((set6 w8 (w.heap.size + 1 + 1) (.int .i64 4) (.int .i64 (n1 + n2)) (.string ⟨#[]⟩) (.slice none 0 0) (.slice none 0 0) (.slice none 0 0)).alloc (.cells #[.int .i64 4, .int .i64 (n1 + n2), (.string ⟨#[]⟩), (.slice none 0 0), (.slice none 0 0), (.slice none 0 0)] 35))
   refine bodyPost_ret (results_v2 rfl rfl rfl (alloc_old (set6_heap hb2H.out))) rfl ?_
   have hs : Step [] id id w ((set6 w8 (w.heap.size + 1 + 1) (.int .i64 4) (.int .i64 (n1 + n2)) (.string ⟨#[]⟩) (.slice none 0 0) (.slice none 0 0) (.slice none 0 0)).alloc (.cells #[.int .i64 4, .int .i64 (n1 + n2), (.string ⟨#[]⟩), (.slice none 0 0), (.slice none 0 0), (.slice none 0 0)] 35)) := (hAH.out.tailNew (T2 := [w.heap.size + 1 + 1]) (.grown set6_grown (fun k hk => by cases hk; simp)) (by simp; omega)).tail (Step.alloc _)
   unfold SumP sumC
   rw [if_pos hres.out, if_pos hres.out]
   rw [if_pos (.inl rfl)]
   exact ⟨rfl, hs⟩
 ·rw [if_neg hr, if_neg hr] at hN
  have hres := Lib.hid hr
  refine hN.mono ?_
  clear hN
  rintro e w' ⟨rfl, rfl⟩
  go_wp2_with fail
  change bodyPost _ _ _ _ _ (set6 w7 (w.heap.size + 1 + 1) (.int .i64 0) (.int .i64 0) (.string ⟨#[]⟩) (.slice none 0 0) (.slice none 0 0) (.slice none 0 0))
  refine bodyPost_ret (results_v2 rfl rfl rfl (set6_heap hb2H.out)) rfl ?_
  unfold SumP sumC
  rw [if_neg hres.out, if_neg hres.out]
  exact ⟨rfl, hAH.out.tailNew (T2 := [w.heap.size + 1 + 1]) (.grown set6_grown (fun k hk => by cases hk; simp)) (by simp; omega)⟩
set_option maxRecDepth 100000 in
set_option maxHeartbeats 4000000 in
theorem num_add {k1 n1 k2 n2 : Int} {s1 b1 f1 l1 s2 b2 f2 l2 : Value} (w : World) (h1 : k1 = 3 ∨ k1 = 4) (h2 : k2 = 3 ∨ k2 = 4) (hx : inR n1) (hy : inR n2) :
  Calls Tryz.prog 38 #[.agg #[.int .i64 k1, .int .i64 n1, s1, b1, f1, l1], .agg #[.int .i64 k2, .int .i64 n2, s2, b2, f2, l2]] w (SumP k1 n1 k2 n2 w) := by
 have hc := Lib.hid (fun W => num_reckoned (s1 := s1) (b1 := b1) (f1 := f1) (l1 := l1) (s2 := s2) (b2 := b2) (f2 := f2) (l2 := l2) W h1 h2 hx hy)
 clear h1 h2 hx hy
 go_enter Tryz.func38, Tryz.ntmps38
 go_wp2_with fail
 obtain ⟨W3, hW3⟩ : ∃ W3, W3 = ((w.alloc (.cells #[.int .i64 k1, .int .i64 n1, s1, b1, f1, l1] 35)).alloc (.cells #[.int .i64 k2, .int .i64 n2, s2, b2, f2, l2] 35)).alloc (.cells #[.int .i64 0, .int .i64 0, (.string ⟨#[]⟩), (.slice none 0 0), (.slice none 0 0), (.slice none 0 0)] 35) := ⟨_, rfl⟩
 rw [← hW3]
 have hA : Step [] id id w W3 := by rw [hW3]; exact ((Step.alloc _).tail (Step.alloc _)).tail (Step.alloc _)
 have hb2 : W3.heap[w.heap.size + 1 + 1]? = some (.cells #[.int .i64 0, .int .i64 0, (.string ⟨#[]⟩), (.slice none 0 0), (.slice none 0 0), (.slice none 0 0)] 35 (0, 0)) := by
  rw [hW3]
  have := heap_alloc_new ((w.alloc (.cells #[.int .i64 k1, .int .i64 n1, s1, b1, f1, l1] 35)).alloc (.cells #[.int .i64 k2, .int .i64 n2, s2, b2, f2, l2] 35)) (.cells #[.int .i64 0, .int .i64 0, (.string ⟨#[]⟩), (.slice none 0 0), (.slice none 0 0), (.slice none 0 0)] 35)
  rwa [show ((w.alloc (.cells #[.int .i64 k1, .int .i64 n1, s1, b1, f1, l1] 35)).alloc (.cells #[.int .i64 k2, .int .i64 n2, s2, b2, f2, l2] 35)).heap.size = w.heap.size + 1 + 1 by simp] at this
 refine (hc.out W3).mono ?_
 rintro e w4 ⟨rfl, hs4⟩
 have hb4 := hs4.at hb2 (by simp)
 have hAH := Lib.hid (hA.tail hs4)
 have lt2 := lt_of_block hb4
 obtain ⟨z0, z1, z2, z3, z4, z5⟩ := cells6A hb4
 have fz := free_blk hb4
 have hb4H := Lib.hid hb4
 clear hW3 hA hb2 hs4 hb4 hc
 unfold SumP sumC
 by_cases hr : inR (n1 + n2)
 ·simp only [if_pos hr]
  have hrH := Lib.hid hr
  obtain ⟨K, hK⟩ : ∃ K : Int, K = if k1 = 4 ∨ k2 = 4 then 4 else kindI (n1 + n2) := ⟨_, rfl⟩
  rw [← hK]
  have hKH := Lib.hid hK
  clear hr hK
  go_wp2_with fail
  change bodyPost _ _ _ _ _ (set6 w4 (w.heap.size + 1 + 1) (.int .i64 K) (.int .i64 (n1 + n2)) (.string ⟨#[]⟩) (.slice none 0 0) (.slice none 0 0) (.slice none 0 0))
  refine bodyPost_ret (results_v2 rfl rfl rfl (set6_heap hb4H.out)) rfl ?_
  unfold SumP sumC
  rw [if_pos hrH.out, if_pos hrH.out, ← hKH.out]
  exact ⟨rfl, hAH.out.tailNew (T2 := [w.heap.size + 1 + 1]) (.grown set6_grown (fun k hk => by cases hk; simp)) (by simp; omega)⟩
 ·simp only [if_neg hr]
  have hrH := Lib.hid hr
  clear hr
  go_wp2_with fail
  change bodyPost _ _ _ _ _ (set6 w4 (w.heap.size + 1 + 1) (.int .i64 0) (.int .i64 0) (.string ⟨#[]⟩) (.slice none 0 0) (.slice none 0 0) (.slice none 0 0))
  refine bodyPost_ret (results_v2 rfl rfl rfl (set6_heap hb4H.out)) rfl ?_
  unfold SumP sumC
  rw [if_neg hrH.out, if_neg hrH.out]
  exact ⟨rfl, hAH.out.tailNew (T2 := [w.heap.size + 1 + 1]) (.grown set6_grown (fun k hk => by cases hk; simp)) (by simp; omega)⟩
end Go.Proofs.YtembpajlllnncaaGreatDoor
namespace Go.Proofs.YtembpajlllnncaaGreatDoor
open Go.RowKit

/-- How two values without parts compare. -/
def cmpK (k1 n1 k2 n2 : Int) : Int := orI (sgnI (clsOf k1) (clsOf k2)) (if k1 = 3 ∨ k1 = 4 ∨ k1 = 10 ∨ k1 = 11 then sgnI n1 n2 else 0)
set_option maxRecDepth 100000 in
set_option maxHeartbeats 2000000 in
theorem or_nums {k1 n1 k2 n2 : Int} {s1 b1 f1 l1 s2 b2 f2 l2 : Value} (w : World) :
  Calls Tryz.prog 78 #[.agg #[.int .i64 k1, .int .i64 n1, s1, b1, f1, l1], .agg #[.int .i64 k2, .int .i64 n2, s2, b2, f2, l2]] w fun e w' => e = .returned (.int .i64 (sgnI n1 n2)) ∧ Step [] id id w w' := by
 have hc := Lib.hid (fun W => cmp_int64 n1 n2 W)
 obtain ⟨S, hS⟩ : ∃ S, S = sgnI n1 n2 := ⟨_, rfl⟩
 rw [← hS] at hc ⊢
 clear hS
 go_enter Tryz.func78, Tryz.ntmps78
 go_wp2_with fail
 refine (hc.out _).mono ?_
 rintro e w' ⟨rfl, rfl⟩
 go_wp2_with fail
 go_ret
 exact ⟨rfl, (Step.alloc _).tail (Step.alloc _)⟩
set_option maxRecDepth 100000 in
set_option maxHeartbeats 2000000 in
theorem or_none {x y : Array Value} (w : World) : Calls Tryz.prog 91 #[.agg x, .agg y] w fun e w' => e = .returned (.int .i64 0) ∧ Step [] id id w w' := by
 go_enter Tryz.func91, Tryz.ntmps91
 go_wp2_with fail
 go_ret
 exact ⟨rfl, (Step.alloc _).tail (Step.alloc _)⟩
set_option maxRecDepth 100000 in
set_option maxHeartbeats 4000000 in
theorem or_flat {k1 n1 k2 n2 : Int} {s1 b1 f1 l1 s2 b2 f2 l2 : Value} (w : World) (hk : clsOf k1 ≠ clsOf k2 ∨ ¬ (5 ≤ k1 ∧ k1 ≤ 9)) :
  Calls Tryz.prog 42 #[.agg #[.int .i64 k1, .int .i64 n1, s1, b1, f1, l1], .agg #[.int .i64 k2, .int .i64 n2, s2, b2, f2, l2]] w fun e w' => e = .returned (.int .i64 (cmpK k1 n1 k2 n2)) ∧ Step [] id id w w' := by
 have hcf1 : ∀ (args : Array Value) (w : World), (callFunc 78 args).run Tryz.prog w = .ok (.enter 78 args) w := fun _ _ => by kernel_rfl
 have hcf7 : ∀ (args : Array Value) (w : World), (callFunc 91 args).run Tryz.prog w = .ok (.enter 91 args) w := fun _ _ => by kernel_rfl
 have hcl := Lib.hid (fun k W => or_class k W)
 have hci := Lib.hid (fun a b W => cmp_int a b W)
 obtain ⟨c1, hc1⟩ : ∃ c, c = clsOf k1 := ⟨_, rfl⟩
 obtain ⟨c2, hc2⟩ : ∃ c, c = clsOf k2 := ⟨_, rfl⟩
 obtain ⟨S, hS⟩ : ∃ S, S = sgnI c1 c2 := ⟨_, rfl⟩
 have hc1H := Lib.hid hc1
 have hc2H := Lib.hid hc2
 have hSH := Lib.hid hS
 have hkH := Lib.hid hk
 clear hc1 hc2 hS hk
 go_enter Tryz.func42, Tryz.ntmps42
 go_wp2_with fail
 go_quiet ((first | (go_at_call 60; exact quietL (hcl.out _ _)) | (go_at_call 59; exact quietL (hci.out _ _ _))))
 rw [← hc1H.out, ← hc2H.out, ← hSH.out]
 obtain ⟨W3, hW3⟩ : ∃ W3, W3 = (((w.alloc (.cells #[.int .i64 k1, .int .i64 n1, s1, b1, f1, l1] 35)).alloc (.cells #[.int .i64 k2, .int .i64 n2, s2, b2, f2, l2] 35)).drewN nq) := ⟨_, rfl⟩
 rw [← hW3]
 have hA : Step [] id id w W3 := by rw [hW3]; exact ((Step.alloc _).tail (Step.alloc _)).tail (Step.drewN _ _)
 have hb0 : W3.heap[w.heap.size]? = some (.cells #[.int .i64 k1, .int .i64 n1, s1, b1, f1, l1] 35 (0, 0)) := by rw [hW3]; exact drewN_blk (alloc_old (heap_alloc_new w _))
 have hb1 : W3.heap[w.heap.size + 1]? = some (.cells #[.int .i64 k2, .int .i64 n2, s2, b2, f2, l2] 35 (0, 0)) := by
  rw [hW3]; refine drewN_blk ?_
  have := heap_alloc_new (w.alloc (.cells #[.int .i64 k1, .int .i64 n1, s1, b1, f1, l1] 35)) (.cells #[.int .i64 k2, .int .i64 n2, s2, b2, f2, l2] 35)
  rwa [show (w.alloc (.cells #[.int .i64 k1, .int .i64 n1, s1, b1, f1, l1] 35)).heap.size = w.heap.size + 1 by simp] at this
 obtain ⟨a0, a1, a2, a3, a4, a5⟩ := cells6A hb0
 obtain ⟨d0, d1, d2, d3, d4, d5⟩ := cells6A hb1
 have lt0 := lt_of_block hb0
 have lt1 := lt_of_block hb1
 have hAH := Lib.hid hA
 clear hW3 hA hb0 hb1
 by_cases hS0 : S = 0
 rotate_left
 ·have hSb : (S != 0) = true := by rw [bne_iff_ne]; exact hS0
  have hres := Lib.hid (show cmpK k1 n1 k2 n2 = S by unfold cmpK orI; rw [← hc1H.out, ← hc2H.out, ← hSH.out, if_pos hS0])
  clear hS0
  go_wp2_with fail
  go_ret
  exact ⟨by rw [hres.out]; rfl, hAH.out⟩
 have hcls : clsOf k1 = clsOf k2 := by
  have h := hSH.out
  rw [hS0, hc1H.out, hc2H.out] at h
  unfold sgnI at h
  split at h
  ·omega
  ·split at h
   ·omega
   ·omega
 have hk5 : ¬ (5 ≤ k1 ∧ k1 ≤ 9) := hkH.out.resolve_left (fun h => h hcls)
 have hres := Lib.hid (show cmpK k1 n1 k2 n2 = if k1 = 3 ∨ k1 = 4 ∨ k1 = 10 ∨ k1 = 11 then sgnI n1 n2 else 0 by unfold cmpK orI; rw [← hc1H.out, ← hc2H.out, ← hSH.out, hS0]; simp)
 have hwy := Lib.hid (fun W => or_way k1 W)
 clear hcls
 subst hS0
 by_cases hnum : k1 = 3 ∨ k1 = 4 ∨ k1 = 10 ∨ k1 = 11
 ·have hw1 : wayOf k1 = 78 := by unfold wayOf; rw [if_pos hnum]
  rw [hw1] at hwy
  have hres := Lib.hid (hres.out.trans (if_pos hnum))
  clear hk5 hnum hw1
  go_wp2_with fail
  refine (hwy.out _).mono ?_
  rintro e w' ⟨rfl, rfl⟩
  go_wp2_with fail
  refine (or_nums _).mono ?_
  rintro e w5 ⟨rfl, hs5⟩
  have hs5H := Lib.hid (hAH.out.tail hs5)
  clear hs5
  go_wp2_with fail
  go_ret
  exact ⟨by rw [hres.out]; rfl, hs5H.out⟩
 ·have hw1 : wayOf k1 = 91 := by
   unfold wayOf
   rw [if_neg hnum, if_neg (by omega), if_neg (by omega), if_neg (by omega), if_neg (by omega), if_neg (by omega)]
  rw [hw1] at hwy
  have hres := Lib.hid (hres.out.trans (if_neg hnum))
  clear hk5 hnum hw1
  go_wp2_with fail
  refine (hwy.out _).mono ?_
  rintro e w' ⟨rfl, rfl⟩
  go_wp2_with fail
  refine (or_none _).mono ?_
  rintro e w5 ⟨rfl, hs5⟩
  have hs5H := Lib.hid (hAH.out.tail hs5)
  clear hs5
  go_wp2_with fail
  go_ret
  exact ⟨by rw [hres.out]; rfl, hs5H.out⟩
end Go.Proofs.YtembpajlllnncaaGreatDoor
