/- Worlds with tables; weights. -/
import Derived.Test.YtembpajlllnncaaGreatDoorAcS6
set_option linter.unusedVariables false
set_option linter.unusedSimpArgs false
namespace Go.Proofs.YtembpajlllnncaaGreatDoor
open Go.RowKit

/-- The tables are there. -/
abbrev Tw (w : World) : Prop := Tabs (fun k => k < w.heap.size) w
section
variable {w w' : World}
theorem Tw.step (h : Tw w) (hs : Step [] id id w w') : Tw w' := (h.quiet hs).more (fun k hk => Nat.lt_of_lt_of_le hk hs.size) (fun _ h => h)
theorem Row.some {v : Value} {l : Bs} (h : Row w v l) (hl : l ≠ []) : ∃ b c, v = .slice (Option.some ⟨b, 0, none⟩) l.length c ∧ Lie w ⟨b, 0, none⟩ l ∧ l.length ≤ c ∧ b < w.heap.size := by
 rcases h.2 with ⟨e, hn⟩ | ⟨g, cap, cur, e, _, hg, hn, hc, hs, ht⟩
 ·exact absurd (List.eq_nil_of_length_eq_zero hn) hl
 ·refine ⟨g, cap, e, ?_, hn, lt_of_block hg⟩
  rcases h.bytes with ⟨e2, _⟩ | ⟨b, o, c, e2, h1, h2, h3⟩
  ·rw [e] at e2; cases e2
  ·rw [e] at e2
   injection e2 with e3 e4 e5
   injection e3 with e6
   injection e6 with e7 e8
   subst e7 e8
   exact fun i hi => by rw [addr_add]; exact h3 i hi
theorem Row.bin {v : Value} {l : Bs} (h : Row w v l) : BIn (fun k => k < w.heap.size) w v l := by
 rcases h.bytes with ⟨rfl, rfl⟩ | ⟨b, o, cap, rfl, hc, hbl, hcell⟩
 ·exact .inl ⟨none, 0, rfl, rfl, fun _ => rfl⟩
 ·exact .inr ⟨b, o, cap, rfl, hc, hbl, hcell⟩
theorem VIs.low {P : Nat → Prop} {x : Val} {cs : List Value} (h : VIs P w x cs) : VIs (fun k => k < w.heap.size) w x cs := (VIs.below x cs h).keep (fun k hk => hk.2) (fun _ _ _ => rfl)
theorem VIs.onto {x : Val} {cs : List Value} (h : VIs (fun k => k < w.heap.size) w x cs) (hs : Step [] id id w w') : VIs (fun k => k < w'.heap.size) w' x cs :=
 h.keep (fun k hk => Nat.lt_of_lt_of_le hk hs.size) (fun k hk hl => (hs.keep k hl (by simp)).2)
end
mutual
/-- How many values there are, and their bytes. -/
def weightV : Val → Nat
 | .mk _ _ s b f l => 1 + s.length + b.length + weightFs f + weightLs l
def weightFs : List (Bs × Val) → Nat
 | [] => 0
 | (nm, v) :: r => nm.length + weightV v + weightFs r
def weightLs : List Val → Nat
 | [] => 0
 | v :: r => weightV v + weightLs r
end
theorem weightV_eq (x : Val) : weightV x = 1 + x.s.length + x.b.length + weightFs x.f + weightLs x.l := by cases x; rw [weightV]; rfl
theorem weightFs_append : ∀ (a b : List (Bs × Val)), weightFs (a ++ b) = weightFs a + weightFs b
 | [], b => by simp [weightFs]
 | (nm, v) :: r, b => by simp [weightFs, weightFs_append r b]; omega
theorem weightLs_append : ∀ (a b : List Val), weightLs (a ++ b) = weightLs a + weightLs b
 | [], b => by simp [weightLs]
 | v :: r, b => by simp [weightLs, weightLs_append r b]; omega
theorem weightFs_take (f : List (Bs × Val)) (j : Nat) (h : j < f.length) : weightFs (f.take (j + 1)) = weightFs (f.take j) + f[j].1.length + weightV f[j].2 := by
 rw [List.take_succ_eq_append_getElem h, weightFs_append]
 cases f[j] with
 | mk nm v => simp [weightFs]; omega
theorem weightLs_take (l : List Val) (j : Nat) (h : j < l.length) : weightLs (l.take (j + 1)) = weightLs (l.take j) + weightV l[j] := by
 rw [List.take_succ_eq_append_getElem h, weightLs_append]
 simp [weightLs]
theorem f_size {f : List (Bs × Val)} {j : Nat} (h : j < f.length) {k n : Int} {s b : Bs} {l : List Val} : SizeOf.sizeOf f[j].2 < SizeOf.sizeOf (Val.mk k n s b f l) := by
 have h1 := List.sizeOf_lt_of_mem (List.getElem_mem h)
 have h2 : SizeOf.sizeOf f[j].2 < SizeOf.sizeOf f[j] := by cases f[j]; simp; omega
 simp only [Val.mk.sizeOf_spec]; omega
theorem l_size {l : List Val} {j : Nat} (h : j < l.length) {k n : Int} {s b : Bs} {f : List (Bs × Val)} : SizeOf.sizeOf l[j] < SizeOf.sizeOf (Val.mk k n s b f l) := by
 have h1 := List.sizeOf_lt_of_mem (List.getElem_mem h)
 simp only [Val.mk.sizeOf_spec]; omega
theorem weightV_pos (v : Val) : 1 ≤ weightV v := by cases v; rw [weightV]; omega
theorem weightLs_len : ∀ l : List Val, l.length ≤ weightLs l
 | [] => by simp
 | v :: r => by have := weightV_pos v; have := weightLs_len r; simp [weightLs]; omega
theorem Grew.fresh {w w' : World} {v v' : Value} (h : Grew w v w' v') (hv : ∀ k, v.ownBlock = some k → w.heap.size ≤ k) : Step [] id id w w' :=
 Step.tailNew (T2 := v.ownBlock.toList) (Step.refl _ _ _) (h.step fun k hk => by rw [hk]; simp) (fun r hr => .inr (hv r (by cases hv : v.ownBlock <;> rw [hv] at hr <;> simp at hr; rw [hr])))
theorem row_made0 (w : World) {B : Nat} (hB : B = w.heap.size) : Row (w.alloc (.cells #[] 5)) (.slice (some ⟨B, 0, none⟩) 0 0) [] := by subst hB; exact World.ownsRow_made w #[] 0 (Nat.zero_le _) (Nat.zero_le _) rfl
theorem BIn.onto {w w' : World} {v : Value} {l : Bs} (h : BIn (fun k => k < w.heap.size) w v l) (hs : Step [] id id w w') : BIn (fun k => k < w'.heap.size) w' v l :=
 h.keep (fun k hk => Nat.lt_of_lt_of_le hk hs.size) (fun k hk hl => (hs.keep k hl (by simp)).2)
theorem val_eq (x y : Val) : x = y ↔ x.kind = y.kind ∧ x.num = y.num ∧ x.s = y.s ∧ x.b = y.b ∧ x.f = y.f ∧ x.l = y.l := by
 cases x; cases y; simp [Val.kind, Val.num, Val.s, Val.b, Val.f, Val.l]
theorem strOf_eq {l m : Bs} : strOf l = strOf m ↔ l = m := ⟨strOf_inj, fun h => by rw [h]⟩
theorem strOf_toList (l : Bs) : (strOf l).toList = l := by simp [strOf, ByteArray.toList_eq]
theorem str_cmp (a b : ByteArray) : (a.toList == b.toList) = decide (a = b) := by
 rw [Bool.eq_iff_iff, beq_iff_eq, decide_eq_true_eq, ByteArray.toList_eq, ByteArray.toList_eq]
 constructor
 ·intro h; cases a; cases b; simp at h; rw [h]
 ·intro h; rw [h]
/-- The bytes as a text. -/
theorem BIn.str {P : Nat → Prop} {w : World} {v : Value} {l : Bs} (h : BIn P w v l) : (convert 32 9 v).run Tryz.prog w = .ok (.string (strOf l)) w := by
 rcases h with ⟨a, c, rfl, rfl, _⟩ | ⟨b, o, c, rfl, _, _, h⟩
 ·cases a with
  | none => exact run_convert_bytes_nil (P := Tryz.prog) w 32 5 Tryz.underlying32 Tryz.underlying5 0 c 9 Tryz.underlying9
  | some a => exact run_convert_bytes_back (P := Tryz.prog) w 32 9 5 a c [] Tryz.underlying32 Tryz.underlying5 Tryz.underlying9 (fun j hj => by simp at hj)
 ·exact bs_str b o l.length c l w rfl (fun i hi => by rw [addr_add]; exact h i hi)
end Go.Proofs.YtembpajlllnncaaGreatDoor
