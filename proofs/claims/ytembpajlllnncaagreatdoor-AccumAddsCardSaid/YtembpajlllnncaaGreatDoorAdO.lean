/- AccumAdds, plain: a list's bytes, value by value. AccumAdds, plain: what always holds of a state. AccumAdds: the reference: OwnSize; a state's value, its size. -/
import Derived.Test.YtembpajlllnncaaGreatDoorAcY
import Derived.Test.YtembpajlllnncaaGreatDoorAcK1
import Derived.Test.YtembpajlllnncaaGreatDoorAqMy
import Derived.Test.YtembpajlllnncaaGreatDoorAdR
import Derived.Test.YtembpajlllnncaaGreatDoorAcL
import Derived.Test.YtembpajlllnncaaGreatDoorAcZ
set_option linter.unusedVariables false
set_option linter.unusedSimpArgs false
namespace Go.Proofs.YtembpajlllnncaaGreatDoor

theorem ownV_eq (v : Val) : ownV v = if okV 1 v = true ∧ (encV v).length + 7 ≤ 65536 then ((encV v).length : Int) else -7 := by
 have hw : (wrapDoc (encFs [(([] : Bs), v)])).length = (encV v).length + 7 := by
  rw [wrapDoc_length]
  simp only [encFs, List.length_cons, List.length_append, List.length_nil]; omega
 have hok : okFs 1 [] [(([] : Bs), v)] = okV 1 v := by simp [okFs, nameOk, utf8]
 have hp : (Val.mk 6 0 [] [] [(([] : Bs), v)] []).plain = true := by simp [Val.plain]
 unfold ownV sizeOf_ okDoc
 simp only [Val.f, hw, hok, Val.kind, hp]
 by_cases h1 : okV 1 v = true
 ·by_cases h2 : (encV v).length + 7 ≤ 65536
  ·simp [h1, h2]
  ·simp [h1, h2]
 ·simp [h1]
theorem encLs_snoc : ∀ (i : Nat) (l : List Val) (x : Val), encLs i (l ++ [x]) = encLs i l ++ encLs (i + l.length) [x]
 | i, [], x => by simp [encLs]
 | i, v :: r, x => by
  rw [List.cons_append, encLs, encLs, encLs_snoc (i + 1) r x, List.length_cons, show i + 1 + r.length = i + (r.length + 1) by omega]
  simp
theorem okLs_snoc (d : Nat) (x : Val) : ∀ l : List Val, okLs d (l ++ [x]) = (okLs d l && okV d x)
 | [] => by simp [okLs]
 | v :: r => by rw [List.cons_append, okLs, okLs, okLs_snoc d x r, Bool.and_assoc]
theorem okV_listV (l : List Val) : okV 1 (listV l) = okLs 2 l := by
 unfold listV
 rw [okV]
 simp [Val.plain, codeOf]
theorem encV_listV (l : List Val) : (encV (listV l)).length = (encLs 0 l).length + 5 := by
 unfold listV
 rw [encV, if_neg (by omega), if_neg (by omega), if_neg (by omega), if_neg (by omega), if_neg (by omega), if_neg (by omega), if_pos rfl, wrapDoc_length]
/-- A list with one more: the bytes are reckoned as the program does. -/
theorem own_snoc {l : List Val} {x : Val} (hl : 0 ≤ ownV (listV l)) :
  ownV (listV (l ++ [x])) = if ownV (listV [x]) < 0 then -7 else if ownV (listV l) + moreV x l.length + 7 > 65536 then -7 else ownV (listV l) + moreV x l.length := by
 have hm : moreV x l.length = ownV (listV [x]) + (itoa l.length).length - 1 - 5 := rfl
 have e0 := ownV_eq (listV l)
 have e1 := ownV_eq (listV (l ++ [x]))
 have e2 := ownV_eq (listV [x])
 have h0 : (itoa 0).length = 1 := by unfold itoa; simp
 have hD : 1 ≤ (itoa l.length).length := by unfold itoa; split <;> simp
 have h1 : (encLs 0 (l ++ [x])).length = (encLs 0 l).length + (2 + (itoa l.length).length + (encV x).length) := by
  rw [encLs_snoc, List.length_append, Nat.zero_add]
  simp only [encLs, List.length_cons, List.length_append, List.length_nil]; omega
 have h2 : (encLs 0 [x]).length = 3 + (encV x).length := by
  simp only [encLs, List.length_cons, List.length_append, List.length_nil, h0]; omega
 have hk1 : okLs 2 (l ++ [x]) = (okLs 2 l && okV 2 x) := okLs_snoc 2 x l
 have hk2 : okLs 2 [x] = okV 2 x := by simp [okLs]
 rw [okV_listV, encV_listV] at e0 e1 e2
 rw [h1, hk1] at e1
 rw [h2, hk2] at e2
 rw [hm]
 generalize ownV (listV l) = o0 at *
 generalize ownV (listV (l ++ [x])) = o1 at *
 generalize ownV (listV [x]) = o2 at *
 generalize (encLs 0 l).length = A at *
 generalize (itoa l.length).length = D at *
 generalize (encV x).length = V at *
 clear h0 h1 h2 hk1 hk2 hm
 cases hx : okV 2 x <;> cases hy : okLs 2 l <;> simp only [hx, hy, Bool.and_true, Bool.and_false, Bool.true_and, Bool.false_and, true_and, false_and, if_false, Bool.false_eq_true] at e0 e1 e2
 ·omega
 ·rw [if_pos (by omega)]; omega
 ·omega
 ·split at e0
  ·split at e2
   ·split at e1
    ·rw [if_neg (by omega), if_neg (by omega)]; omega
    ·rw [if_neg (by omega), if_pos (by omega)]; omega
   ·split at e1
    ·omega
    ·rw [if_pos (by omega)]; omega
  ·omega
end Go.Proofs.YtembpajlllnncaaGreatDoor
namespace Go.Proofs.YtembpajlllnncaaGreatDoor

/-- What holds of a state when so many have come. -/
def InvA (K : Int) (st : ASt) (i : Nat) : Prop := st.many ≤ i ∧
 ((K = 6 ∨ K = 7) → st.v = listV st.v.l ∧ st.size = ownV st.v ∧ 5 ≤ st.size ∧ st.v.l.length ≤ i ∧ ∀ y ∈ st.v.l, weightV y ≤ 3000) ∧
 (¬ (K = 6 ∨ K = 7) → st.size = 0 ∧ weightV st.v ≤ 3000)
theorem inv_start (K : Int) : InvA K (startA K) 0 := by
 refine ⟨Nat.le_refl _, fun h => ?_, fun h => ?_⟩
 ·have h1 : K ≠ 1 := by omega
  unfold startA
  simp only [h, h1, if_true, if_false]
  exact ⟨rfl, own_list0.symm, Int.le_refl _, Nat.le_refl _, fun y hy => by simp [listV, Val.l] at hy⟩
 ·unfold startA
  simp only [h, if_false]
  refine ⟨trivial, ?_⟩
  split <;> decide
theorem push_eq {K : Int} {st : ASt} {i : Nat} {x : Val} (h : InvA K st i) (hK : K = 6 ∨ K = 7) (hx : x.kind ≠ 0) :
  pushA st x = if ownV (listV (st.v.l ++ [x])) < 0 then (3, st) else (0, { st with v := listV (st.v.l ++ [x]), size := ownV (listV (st.v.l ++ [x])) }) := by
 obtain ⟨hv, hs, h5, -, -⟩ := h.2.1 hK
 have h0 : 0 ≤ ownV (listV st.v.l) := by rw [← hv, ← hs]; omega
 have hsn := own_snoc (x := x) h0
 rw [← hv, ← hs] at hsn
 unfold pushA
 rw [if_neg hx, hsn]
 have h9 := ownV_eq (listV (st.v.l ++ [x]))
 by_cases h1 : ownV (listV [x]) < 0
 ·rw [if_pos h1, if_pos h1, if_pos (by omega)]
 ·rw [if_neg h1, if_neg h1]
  by_cases h2 : st.size + moreV x st.v.l.length + 7 > 65536
  ·rw [if_pos h2, if_pos h2, if_pos (by omega)]
  ·rw [if_neg h2, if_neg h2]
   rw [if_neg h1, if_neg h2] at hsn
   have h10 := ownV_eq (listV [x])
   have h11 := encV_listV [x]
   have h12 : 1 ≤ (itoa st.v.l.length).length := by unfold itoa; split <;> simp
   have h13 : moreV x st.v.l.length = ownV (listV [x]) + (itoa st.v.l.length).length - 1 - 5 := rfl
   rw [if_neg (by split at h10 <;> omega)]
theorem inv_push {K : Int} {st : ASt} {i : Nat} {x : Val} (h : InvA K st i) (hK : K = 6 ∨ K = 7) (hx : weightV x ≤ 3000) : InvA K (pushA st x).2 (i + 1) ∧ (pushA st x).2.many = st.many := by
 obtain ⟨hm, h1, h2⟩ := h
 obtain ⟨hv, hs, h5, hl, hy⟩ := h1 hK
 have hsame : InvA K st (i + 1) := ⟨by omega, fun _ => ⟨hv, hs, h5, by omega, hy⟩, fun hn => absurd hK hn⟩
 by_cases h0 : x.kind = 0
 ·unfold pushA; rw [if_pos h0]; exact ⟨hsame, rfl⟩
 rw [push_eq ⟨hm, h1, h2⟩ hK h0]
 split
 ·exact ⟨hsame, rfl⟩
 ·rename_i hn
  refine ⟨⟨by simp only; omega, fun _ => ⟨rfl, rfl, ?_, ?_, ?_⟩, fun hn => absurd hK hn⟩, rfl⟩
  ·have h9 := ownV_eq (listV (st.v.l ++ [x]))
   have h10 := encV_listV (st.v.l ++ [x])
   simp only
   split at h9 <;> omega
  ·show (st.v.l ++ [x]).length ≤ i + 1
   rw [List.length_append, List.length_singleton]; omega
  ·intro y hy'
   have hy' : y ∈ st.v.l ++ [x] := hy'
   rw [List.mem_append, List.mem_singleton] at hy'
   rcases hy' with h | rfl
   ·exact hy y h
   ·exact hx
theorem inv_step {K : Int} {st : ASt} {i : Nat} {x : Val} (hK : 1 ≤ K ∧ K ≤ 8) (h : InvA K st i) (hx : weightV x ≤ 3000) : InvA K (stepA K st x).2 (i + 1) ∧ (stepA K st x).2.many = st.many := by
 have hm := h.1
 have hsame : InvA K st (i + 1) := ⟨by omega, fun hK => by obtain ⟨a, b, c, d, e⟩ := h.2.1 hK; exact ⟨a, b, c, by omega, e⟩, h.2.2⟩
 have hflat : ∀ v, weightV v ≤ 3000 → ¬ (K = 6 ∨ K = 7) → InvA K { st with v := v } (i + 1) := fun v hv hn => ⟨by simp only; omega, fun h => absurd h hn, fun _ => ⟨(h.2.2 hn).1, hv⟩⟩
 unfold stepA
 obtain rfl | rfl | rfl | rfl | rfl | rfl | rfl | rfl : K = 1 ∨ K = 2 ∨ K = 3 ∨ K = 4 ∨ K = 5 ∨ K = 6 ∨ K = 7 ∨ K = 8 := by omega
 ·rw [if_pos rfl]
  split
  ·split
   ·exact ⟨hflat _ (by simp [weightV, weightFs, weightLs]) (by omega), rfl⟩
   ·exact ⟨hsame, rfl⟩
  ·exact ⟨hsame, rfl⟩
 ·rw [if_neg (by decide), if_pos rfl]
  unfold betterA
  simp only
  split
  ·exact ⟨hsame, rfl⟩
  ·split
   ·exact ⟨hflat _ hx (by omega), rfl⟩
   ·exact ⟨hsame, rfl⟩
 ·rw [if_neg (by decide), if_neg (by decide), if_pos rfl]
  unfold betterA
  simp only
  split
  ·exact ⟨hsame, rfl⟩
  ·split
   ·exact ⟨hflat _ hx (by omega), rfl⟩
   ·exact ⟨hsame, rfl⟩
 ·rw [if_neg (by decide), if_neg (by decide), if_neg (by decide), if_pos rfl]
  simp only
  split
  ·exact ⟨hflat _ hx (by omega), rfl⟩
  ·exact ⟨hsame, rfl⟩
 ·rw [if_neg (by decide), if_neg (by decide), if_neg (by decide), if_neg (by decide), if_pos rfl]
  exact ⟨hflat _ hx (by omega), rfl⟩
 ·rw [if_neg (by decide), if_neg (by decide), if_neg (by decide), if_neg (by decide), if_neg (by decide), if_pos rfl]
  exact inv_push h (.inl rfl) hx
 ·rw [if_neg (by decide), if_neg (by decide), if_neg (by decide), if_neg (by decide), if_neg (by decide), if_neg (by decide), if_pos rfl]
  split
  ·exact ⟨hsame, rfl⟩
  ·exact inv_push h (.inr rfl) hx
 ·rw [if_neg (by decide), if_neg (by decide), if_neg (by decide), if_neg (by decide), if_neg (by decide), if_neg (by decide), if_neg (by decide)]
  exact ⟨hsame, rfl⟩
theorem inv_add {K : Int} {st : ASt} {i : Nat} {x : Val} (hK : 1 ≤ K ∧ K ≤ 8) (h : InvA K st i) (hx : weightV x ≤ 3000) : InvA K (addA K st x).2 (i + 1) := by
 obtain ⟨h1, h2⟩ := inv_step hK h hx
 unfold addA
 simp only
 split
 ·exact ⟨by simp only [h2]; have := h.1; omega, h1.2.1, h1.2.2⟩
 ·exact h1
theorem size_inv {K : Int} {st : ASt} {i : Nat} (h : InvA K st i) : sizeA K st = if st.v.kind = 0 then 16 else 16 + max 0 (ownV st.v) := by
 have h9 := ownV_eq st.v
 unfold sizeA
 by_cases hK : K = 6 ∨ K = 7
 ·obtain ⟨hv, hs, h5, -, -⟩ := h.2.1 hK
  rw [if_pos (by omega), if_neg (by rw [hv]; show ¬ (7 : Int) = 0; decide), ← hs]
  omega
 ·obtain ⟨hs, -⟩ := h.2.2 hK
  rw [if_neg (by omega)]
  by_cases h0 : st.v.kind = 0
  ·rw [if_pos h0]
   have hno : okV 1 st.v = false := by
    generalize st.v = v at h0
    cases v with
    | mk k n s b f l => obtain rfl : k = 0 := h0; rw [okV]; simp [codeOf]
   rw [if_neg (by rw [hno]; simp)] at h9
   omega
  ·rw [if_neg h0]
theorem weightLs_all : ∀ (l : List Val), (∀ y ∈ l, weightV y ≤ 3000) → weightLs l ≤ l.length * 3000
 | [], _ => by simp [weightLs]
 | v :: r, h => by
  have h1 := weightLs_all r (fun y hy => h y (List.mem_cons_of_mem _ hy))
  have h2 := h v (by simp)
  rw [weightLs, List.length_cons]; omega
theorem inv_weight {K : Int} {st : ASt} {i : Nat} (h : InvA K st i) (hi : i ≤ 1000) : weightV st.v ≤ 100000000 := by
 by_cases hK : K = 6 ∨ K = 7
 ·obtain ⟨hv, hs, h5, hl, hy⟩ := h.2.1 hK
  have := weightLs_all _ hy
  rw [hv]
  simp only [listV, weightV, weightFs, List.length_nil]
  omega
 ·have := (h.2.2 hK).2; omega
end Go.Proofs.YtembpajlllnncaaGreatDoor
namespace Go.Proofs.YtembpajlllnncaaGreatDoor
open Go.RowKit

/-- The document that has a value alone, in a field of no name. -/
def inDoc (v : Val) : Val := .mk 6 0 [] [] [([], v)] []
/-- What OwnSize tells. -/
def ownR (v : Val) : Int := if ownV v < 0 then -1 else ownV v
theorem ownR_no {v : Val} (h : okDoc (inDoc v) = false) : ownR v = -1 := by
 have h1 : ownV v = -7 := by unfold ownV sizeOf_; unfold inDoc at h; rw [h]; rfl
 unfold ownR; rw [h1]; rfl
theorem ownR_ok {v : Val} (h : okDoc (inDoc v) = true) : ownR v = ((wrapDoc (encFs (inDoc v).f)).length : Int) - 7 := by
 have h1 : ownV v = ((wrapDoc (encFs (inDoc v).f)).length : Int) - 7 := by unfold ownV sizeOf_; unfold inDoc at h ⊢; rw [h]; rfl
 have h2 : (wrapDoc (encFs (inDoc v).f)).length = (encV v).length + 7 := by
  rw [wrapDoc_length]
  simp only [inDoc, Val.f, encFs, List.length_cons, List.length_append, List.length_nil]; omega
 unfold ownR; rw [if_neg (by omega), h1]
theorem inDoc_own {v : Val} (h : OwnQC v 1) : OwnQC (inDoc v) 0 :=
 own_docQ rfl (fun _ j hj => by
  obtain rfl : j = 0 := by simpa using hj
  exact h) (by simp) (fun j hj => by
  obtain rfl : j = 0 := by simpa using hj
  simp) (by omega)
set_option maxRecDepth 100000 in
set_option maxHeartbeats 4000000 in
theorem ref_own {P : Nat → Prop} {w : World} {v : Val} {cs : List Value} (hx : VIs P w v cs) (hq : OwnQC v 1) :
  Calls Tryz.prog 35 #[.agg cs.toArray] w fun e w' => e = .returned (.int .i64 (ownR v)) ∧ Step [] id id w w' := by
 obtain ⟨s0, ba, bn, bc, fa, fn, fc, la, ln, lc, hcs, -⟩ := hx.six
 obtain ⟨n0, hn0⟩ : ∃ k, k = v.num := ⟨_, rfl⟩
 obtain ⟨k0, hk0⟩ : ∃ k, k = v.kind := ⟨_, rfl⟩
 rw [← hk0, ← hn0] at hcs
 subst hcs
 clear hn0 hk0
 obtain ⟨W1, hW1⟩ : ∃ W1, W1 = w.alloc (.cells #[.int .i64 k0, .int .i64 n0, .string s0, .slice ba bn bc, .slice fa fn fc, .slice la ln lc] 35) := ⟨_, rfl⟩
 have hs1 : Step [] id id w W1 := by rw [hW1]; exact Step.alloc _
 obtain ⟨W2, hW2⟩ : ∃ W2, W2 = W1.alloc (.cells #[(.string ⟨#[]⟩), .int .i64 k0, .int .i64 n0, .string s0, .slice ba bn bc, .slice fa fn fc, .slice la ln lc] 38) := ⟨_, rfl⟩
 have hs2 : Step [] id id W1 W2 := by rw [hW2]; exact Step.alloc _
 have hB : W2.heap[W1.heap.size]? = some (.cells #[(.string ⟨#[]⟩), .int .i64 k0, .int .i64 n0, .string s0, .slice ba bn bc, .slice fa fn fc, .slice la ln lc] 38 (0, 0)) := by rw [hW2]; exact heap_alloc_new _ _
 have hx2 : VIs (fun _ => True) W2 v [.int .i64 k0, .int .i64 n0, .string s0, .slice ba bn bc, .slice fa fn fc, .slice la ln lc] := hx.keep (fun _ _ => trivial) (fun k hP hk => ((hs1.tail hs2).keep k hk (by simp)).2)
 have hdoc : VIs (fun _ => True) W2 (inDoc v) [.int .i64 6, .int .i64 0, (.string ⟨#[]⟩), (.slice none 0 0), .slice (some ⟨W1.heap.size, 0, none⟩) 1 1, (.slice none 0 0)] := by
  unfold inDoc
  rw [VIs]
  refine ⟨(.slice none 0 0), some ⟨W1.heap.size, 0, none⟩, 1, none, 0, rfl, .inl ⟨none, 0, rfl, rfl, fun _ => rfl⟩, ⟨by simp, by simp, (fun h => by cases h), fun _ => rfl⟩, by omega, by simp, ?_, by simp [LIs]⟩
  rw [FIs]
  refine ⟨⟨_, 0, _, rfl, trivial, by simp, fun j u hj => ?_, hx2⟩, by simp [FIs]⟩
  simp only [Nat.zero_mul, Nat.zero_add]
  exact cell_blk hB (by rw [← hj]; simp [strOf])
 have e1 : W1.heap.size = w.heap.size + 1 := by rw [hW1]; exact alloc_size w _
 rw [e1] at hdoc
 have henc := Lib.hid (ref_encodeQ hdoc (inDoc_own hq))
 have hs2H := Lib.hid (hs1.tail hs2)
 have hW1H := Lib.hid hW1
 have hW2H := Lib.hid hW2
 clear hx hx2 hdoc hs1 hs2 hB hq hW1 hW2 e1
 go_enter Tryz.func35, Tryz.ntmps35
 go_wp2_with fail
 rw [← hW1H.out]
 rw [← hW2H.out]
 refine henc.out.mono ?_
 rintro e w3 ⟨xa, xn, xc, hs3, ⟨hok, rfl, hxn, -⟩ | ⟨hok, rfl⟩⟩
 ·have hres := ownR_ok hok
  have hb : (wrapDoc (encFs (inDoc v).f)).length ≤ 65536 := by
   have h := sizeOf_le (inDoc v)
   unfold sizeOf_ at h
   rw [if_pos hok] at h
   exact h
  rw [← hxn] at hres hb
  have hresH := Lib.hid hres
  have hs3H := Lib.hid hs3
  have hwr : IntKind.i64.wrap ((xn : Int) - 7) = (xn : Int) - 7 := IntWalk.i64_in _ (by omega)
  clear hs3 hxn hres hok
  go_wp2_with fail
  go_ret
  exact ⟨by rw [hresH.out]; rfl, hs2H.out.tail hs3H.out⟩
 ·have hresH := Lib.hid (ownR_no hok)
  have hs3H := Lib.hid hs3
  clear hs3 hok
  go_wp2_with fail
  go_ret
  exact ⟨by rw [hresH.out]; rfl, hs2H.out.tail hs3H.out⟩
theorem ownR_range (v : Val) : -1 ≤ ownR v ∧ ownR v ≤ 65536 := by
 have h := ownV_eq v
 unfold ownR
 split
 ·omega
 ·split at h <;> omega
set_option maxRecDepth 100000 in
set_option maxHeartbeats 4000000 in
theorem ref_size {P : Nat → Prop} {w : World} {M : Nat} {K N : Int} {x : Val} {v0 v1 v2 v3 v4 v5 : Value} (h : StR w M K N v0 v1 v2 v3 v4 v5) (hx : VIs P w x [v0, v1, v2, v3, v4, v5]) (hq : OwnQC x 1) :
  Calls Tryz.prog 17 #[.pointer (some ⟨M, 0, none⟩)] w fun e w' => e = .returned (.int .i64 (if x.kind = 0 then 16 else 16 + max 0 (ownV x))) ∧ Step [] id id w w' := by
 obtain ⟨s0, ba, bn, bc, fa, fn, fc, la, ln, lc, hcs, -⟩ := hx.six
 obtain ⟨n0, hn0⟩ : ∃ k, k = x.num := ⟨_, rfl⟩
 obtain ⟨k0, hk0⟩ : ∃ k, k = x.kind := ⟨_, rfl⟩
 rw [← hk0, ← hn0] at hcs
 injection hcs with q0 hcs
 injection hcs with q1 hcs
 injection hcs with q2 hcs
 injection hcs with q3 hcs
 injection hcs with q4 hcs
 injection hcs with q5 hcs
 subst q0 q1 q2 q3 q4 q5
 have hl := lt_of_block h
 have c0 := cell_blk h (i := 0) rfl
 have c1 := cell_blk h (i := 1) rfl
 have c2 := cell_blk h (i := 2) rfl
 have c3 := cell_blk h (i := 3) rfl
 have c4 := cell_blk h (i := 4) rfl
 have c5 := cell_blk h (i := 5) rfl
 have c6 := cell_blk h (i := 6) rfl
 have c7 := cell_blk h (i := 7) rfl
 have hown := Lib.hid (ref_own hx hq)
 have hrg := ownR_range x
 by_cases hk : k0 = 0
 ·have hkb : (k0 == 0) = true := by rw [beq_iff_eq]; exact hk
  rw [if_pos (by rw [← hk0]; exact hk)]
  clear h hx hq hk hn0 hk0 hcs hrg
  go_enter Tryz.func17, Tryz.ntmps17
  go_wp2_with fail
  go_ret
  exact ⟨rfl, Step.refl _ _ _⟩
 ·have hkb : (k0 == 0) = false := by rw [beq_eq_false_iff_ne]; exact hk
  rw [if_neg (by rw [← hk0]; exact hk)]
  have hm : 16 + max 0 (ownV x) = 16 + max 0 (ownR x) := by unfold ownR; split <;> omega
  rw [hm]
  obtain ⟨Z, hZ⟩ : ∃ Z, Z = ownR x := ⟨_, rfl⟩
  rw [← hZ] at hown hrg ⊢
  obtain ⟨Y, hY⟩ : ∃ Y, Y = max 0 Z := ⟨_, rfl⟩
  rw [← hY]
  have hY2 := hY.symm
  have hwr : IntKind.i64.wrap (16 + Y) = 16 + Y := IntWalk.i64_in _ (by omega)
  clear h hx hq hk hn0 hk0 hcs hZ hm hY hrg
  go_enter Tryz.func17, Tryz.ntmps17
  go_wp2_with fail
  refine hown.out.mono ?_
  rintro e w3 ⟨rfl, hs3⟩
  have hs3H := Lib.hid hs3
  clear hs3
  go_wp2_with fail
  go_ret
  exact ⟨rfl, hs3H.out⟩
theorem ofI_vis (N : Int) (hN : inR N) (W : World) : VIs (fun _ => True) W (ofI N) [.int .i64 (kindI N), .int .i64 N, (.string ⟨#[]⟩), (.slice none 0 0), (.slice none 0 0), (.slice none 0 0)] := by
 unfold ofI kindI
 split
 ·exact VIs.flat (k := 3) (n := N) [] (by omega) hN (by simp)
 ·exact VIs.flat (k := 4) (n := N) [] (by omega) hN (by simp)
/-- What a state comes to, in memory. -/
def ValR (x : Val) (w : World) (e : Ending) (w' : World) : Prop := ∃ ds : List Value, e = .returned (.agg ds.toArray) ∧ VIs (fun _ => True) w' x ds ∧ Step [] id id w w'
set_option maxRecDepth 100000 in
set_option maxHeartbeats 4000000 in
theorem refv_count {w : World} {M : Nat} {N : Int} {v0 v1 v2 v3 v4 v5 : Value} (h : StR w M 8 N v0 v1 v2 v3 v4 v5) (hN : inR N) : Calls Tryz.prog 15 #[.pointer (some ⟨M, 0, none⟩)] w (ValR (ofI N) w) := by
 have hl := lt_of_block h
 have c0 := cell_blk h (i := 0) rfl
 have c1 := cell_blk h (i := 1) rfl
 have c2 := cell_blk h (i := 2) rfl
 have c3 := cell_blk h (i := 3) rfl
 have c4 := cell_blk h (i := 4) rfl
 have c5 := cell_blk h (i := 5) rfl
 have c6 := cell_blk h (i := 6) rfl
 have c7 := cell_blk h (i := 7) rfl
 obtain ⟨W1, hW1⟩ : ∃ W1, W1 = w.alloc (.cells #[.int .i64 0, .int .i64 0, (.string ⟨#[]⟩), (.slice none 0 0), (.slice none 0 0), (.slice none 0 0)] 35) := ⟨_, rfl⟩
 have hs1 : Step [] id id w W1 := by rw [hW1]; exact Step.alloc _
 have hZ := Lib.hid (show W1.heap[w.heap.size]? = some (.cells #[.int .i64 0, .int .i64 0, (.string ⟨#[]⟩), (.slice none 0 0), (.slice none 0 0), (.slice none 0 0)] 35 (0, 0)) by rw [hW1]; exact heap_alloc_new w _)
 have hW1H := Lib.hid hW1
 have hs1H := Lib.hid hs1
 clear hW1 hs1
 have hof := Lib.hid (ref_of N W1)
 have hflat := Lib.hid (fun W => ofI_vis N hN W)
 clear h hN
 go_enter Tryz.func15, Tryz.ntmps15
 go_wp2_with fail
 rw [← hW1H.out]
 refine hof.out.mono ?_
 rintro e w2 ⟨rfl, hs2⟩
 have hZ2 := hs2.at hZ.out (by simp)
 obtain ⟨z0, z1, z2, z3, z4, z5⟩ := cells6A hZ2
 have fz := free_blk hZ2
 have lz := lt_of_block hZ2
 have hZ2H := Lib.hid hZ2
 have hs2H := Lib.hid (hs1H.out.tail hs2)
 clear hZ2 hs2
 go_wp2_with fail
 change bodyPost _ _ _ _ _ (set6 w2 w.heap.size (.int .i64 (kindI N)) (.int .i64 N) (.string ⟨#[]⟩) (.slice none 0 0) (.slice none 0 0) (.slice none 0 0))
 refine bodyPost_ret (results_v rfl rfl (set6_heap hZ2H.out)) rfl ?_
 exact ⟨_, rfl, hflat.out _, hs2H.out.tailNew (T2 := [w.heap.size]) (.grown set6_grown (fun k hk => by cases hk; simp)) (by simp)⟩
set_option maxRecDepth 100000 in
set_option maxHeartbeats 4000000 in
theorem refv_none {w : World} {M : Nat} {K N n : Int} {v2 v3 v4 v5 : Value} (h : StR w M K N (.int .i64 0) (.int .i64 n) v2 v3 v4 v5) (hK : K ≠ 8) : Calls Tryz.prog 15 #[.pointer (some ⟨M, 0, none⟩)] w (ValR nullV w) := by
 have v0 : Value := (.slice none 0 0)
 have hl := lt_of_block h
 have c0 := cell_blk h (i := 0) rfl
 have c2 := cell_blk h (i := 2) rfl
 have hKb : (K == 8) = false := by rw [beq_eq_false_iff_ne]; exact hK
 have hflat := Lib.hid (fun W => VIs.flat (P := fun _ => True) (w := W) (k := 2) (n := 0) [] (by omega) (by omega) (by simp))
 clear h hK
 go_enter Tryz.func15, Tryz.ntmps15
 go_wp2_with fail
 have hvb := heap_alloc_new w (.cells #[.int .i64 2, .int .i64 0, (.string ⟨#[]⟩), (.slice none 0 0), (.slice none 0 0), (.slice none 0 0)] 35)
 exact bodyPost_ret (results_v rfl rfl hvb) rfl ⟨_, rfl, hflat.out _, Step.alloc _⟩
set_option maxRecDepth 100000 in
set_option maxHeartbeats 4000000 in
theorem refv_else {P : Nat → Prop} {w : World} {M : Nat} {K N : Int} {x : Val} {v0 v1 v2 v3 v4 v5 : Value} (h : StR w M K N v0 v1 v2 v3 v4 v5) (hx : VIs P w x [v0, v1, v2, v3, v4, v5]) (hK : K ≠ 8) (hk : x.kind ≠ 0) : Calls Tryz.prog 15 #[.pointer (some ⟨M, 0, none⟩)] w (ValR x w) := by
 obtain ⟨s0, ba, bn, bc, fa, fn, fc, la, ln, lc, hcs, -⟩ := hx.six
 obtain ⟨n0, hn0⟩ : ∃ k, k = x.num := ⟨_, rfl⟩
 obtain ⟨k0, hk0⟩ : ∃ k, k = x.kind := ⟨_, rfl⟩
 rw [← hk0, ← hn0] at hcs
 injection hcs with q0 hcs
 injection hcs with q1 hcs
 injection hcs with q2 hcs
 injection hcs with q3 hcs
 injection hcs with q4 hcs
 injection hcs with q5 hcs
 subst q0 q1 q2 q3 q4 q5
 have hl := lt_of_block h
 have c0 := cell_blk h (i := 0) rfl
 have c1 := cell_blk h (i := 1) rfl
 have c2 := cell_blk h (i := 2) rfl
 have c3 := cell_blk h (i := 3) rfl
 have c4 := cell_blk h (i := 4) rfl
 have c5 := cell_blk h (i := 5) rfl
 have c6 := cell_blk h (i := 6) rfl
 have c7 := cell_blk h (i := 7) rfl
 have hKb : (K == 8) = false := by rw [beq_eq_false_iff_ne]; exact hK
 have hkb : (k0 == 0) = false := by rw [beq_eq_false_iff_ne, hk0]; exact hk
 have hxH := Lib.hid hx
 clear h hK hk hx hn0 hk0 hcs
 go_enter Tryz.func15, Tryz.ntmps15
 go_wp2_with fail
 have hvb := heap_alloc_new w (.cells #[.int .i64 k0, .int .i64 n0, .string s0, .slice ba bn bc, .slice fa fn fc, .slice la ln lc] 35)
 exact bodyPost_ret (results_v rfl rfl hvb) rfl ⟨_, rfl, hxH.out.keep (fun _ _ => trivial) (fun k hP hk => ((Step.alloc (T := []) (g := id) _).keep k hk (by simp)).2), Step.alloc _⟩
end Go.Proofs.YtembpajlllnncaaGreatDoor
