/- The reference: fields. The reference: own: values without parts. The reference: own: Int32, Bool, Id. -/
import Derived.Test.YtembpajlllnncaaGreatDoorAqP4
import Derived.Test.YtembpajlllnncaaGreatDoorAcOp
set_option linter.unusedVariables false
set_option linter.unusedSimpArgs false
namespace Go.Proofs.YtembpajlllnncaaGreatDoor
open Go.RowKit

/-- A value's own bytes, or that it may not be. -/
def OwnP (P : Nat → Prop) (x : Val) (d : Nat) (w : World) (e : Ending) (w' : World) : Prop :=
 ∃ ba bn bc, e = .returned (.tuple #[.slice ba bn bc, .bool (okV d x)]) ∧ (okV d x = true → bn = (encV x).length ∧ BIn (fun k => P k ∨ w.heap.size ≤ k) w' (.slice ba bn bc) (encV x)) ∧ Step [] id id w w'
/-- Fields as a document's bytes. -/
def FldP (f : List (Bs × Val)) (d : Nat) (w : World) (e : Ending) (w' : World) : Prop :=
 ∃ ba bn bc, e = .returned (.tuple #[.slice ba bn bc, .bool (okFs d [] f)]) ∧ (okFs d [] f = true → Row w' (.slice ba bn bc) (wrapDoc (encFs f)) ∧ ∀ k, (Value.slice ba bn bc).ownBlock = some k → w.heap.size ≤ k) ∧ Step [] id id w w'
theorem strOf_eqP {l m : Bs} : strOf l = strOf m ↔ l = m := ⟨strOf_inj, fun h => by rw [h]⟩
theorem str_cmpP (a b : ByteArray) : (a.toList == b.toList) = decide (a = b) := by
 rw [Bool.eq_iff_iff, beq_iff_eq, decide_eq_true_eq, ByteArray.toList_eq, ByteArray.toList_eq]
 constructor
 ·intro h; cases a; cases b; simp at h; rw [h]
 ·intro h; rw [h]
def OwnC (N : Nat) : Prop := ∀ (P : Nat → Prop) (x : Val) (cs : List Value) (w : World) (d : Nat), SizeOf.sizeOf x < N → weightV x ≤ 3001 → d ≤ 40 → VIs P w x cs → Calls Tryz.prog 43 #[.agg cs.toArray, .int .i64 ((d : Int) + 1)] w (OwnP P x d w)

/-! the names, one after another -/
theorem okFs_append (d : Nat) : ∀ (a b : List (Bs × Val)) (seen : List Bs), okFs d seen (a ++ b) = (okFs d seen a && okFs d ((a.map (·.1)).reverse ++ seen) b)
 | [], b, seen => by simp [okFs]
 | (nm, v) :: r, b, seen => by
  rw [List.cons_append, okFs, okFs, okFs_append d r b (nm :: seen)]
  simp [Bool.and_assoc]
theorem okFs_one (d : Nat) (seen : List Bs) (nm : Bs) (v : Val) : okFs d seen [(nm, v)] = (nameOk nm && decide (nm ∉ seen) && okV d v) := by
 rw [okFs, okFs]; simp
theorem okFs_take {d : Nat} {f : List (Bs × Val)} {j : Nat} (hj : j < f.length) : okFs d [] (f.take (j + 1)) = (okFs d [] (f.take j) && (nameOk f[j].1 && decide (f[j].1 ∉ (f.take j).map (·.1)) && okV d f[j].2)) := by
 rw [List.take_succ_eq_append_getElem hj, okFs_append]
 congr 1
 rw [show [f[j]] = [(f[j].1, f[j].2)] from rfl, okFs_one]
 simp
theorem okFs_upto {d : Nat} {f : List (Bs × Val)} {j : Nat} (h : okFs d [] f = true) : okFs d [] (f.take j) = true := by
 have := okFs_append d (f.take j) (f.drop j) []
 rw [List.take_append_drop, h] at this
 simp only [Bool.true_eq, Bool.and_eq_true] at this
 exact this.1
theorem okFs_no {d : Nat} {f : List (Bs × Val)} {j : Nat} (hj : j < f.length) (h : nameOk f[j].1 = false ∨ okV d f[j].2 = false ∨ f[j].1 ∈ (f.take j).map (·.1)) : okFs d [] f = false := by
 cases e : okFs d [] f with
 | false => rfl
 | true =>
  have h1 := okFs_upto (j := j + 1) e
  rw [okFs_take hj] at h1
  simp only [Bool.and_eq_true, decide_eq_true_eq] at h1
  rcases h with h | h | h
  ·rw [h] at h1; exact absurd h1.2.1.1 (by simp)
  ·rw [h] at h1; exact absurd h1.2.2 (by simp)
  ·exact absurd h h1.2.1.2
theorem weightFs_lenP : ∀ f : List (Bs × Val), f.length ≤ weightFs f
 | [] => by simp
 | (nm, v) :: r => by
  have := weightFs_lenP r
  have := weightV_pos v
  simp [weightFs]; omega
theorem weightFs_getP : ∀ (f : List (Bs × Val)) (i : Nat) (h : i < f.length), weightV f[i].2 ≤ weightFs f
 | (nm, v) :: r, 0, _ => by simp [weightFs]; omega
 | (nm, v) :: r, i + 1, h => by
  have := weightFs_getP r i (by simpa using h)
  simp [weightFs]; omega
theorem weightFs_name2 : ∀ (f : List (Bs × Val)) (i : Nat) (h : i < f.length), f[i].1.length + weightV f[i].2 ≤ weightFs f
 | (nm, v) :: r, 0, _ => by simp [weightFs]
 | (nm, v) :: r, i + 1, h => by
  have := weightFs_name2 r i (by simpa using h)
  simp [weightFs]; omega
/-! the walk -/
section
variable {w : World} {v : Value} {l m : Bs} {o : Oper} {a : Act} {K : Act → World → Prop} {Q : Exit → Act → World → Prop}
theorem wp_put_str (s x : Operand) (ho : o.op = .call { callee := .builtin .append, args := #[s, x], argTypes := #[32, 9] })
  (hs : a.eval s = v) (h : Row w v l) (m : Bs) (hx : a.eval x = .string (strOf m)) (hm : l.length + m.length ≤ 1000000000)
  (hK : ∀ ad N c w', Row w' (.slice ad N c) (l ++ m) → Grew w v w' (.slice ad N c) → K (a.put o.dst (.slice ad N c)) w') :
  o.wp Tryz.prog a w K Q := by
 obtain ⟨ad, c, w', hr, h2, h3⟩ := run_put_str o.type h hm
 unfold Oper.wp execOp
 simp only [ho, resolve, invoke, builtin, Sem.run_bind, Sem.run_pure, Result.andThen_ok, List.map_toArray, List.map_cons, List.map_nil, hs, hx, hr]
 exact hK ad _ c w' h2 h3
theorem wp_put_src (s x : Operand) (ho : o.op = .call { callee := .builtin .append, args := #[s, x], argTypes := #[32, 32] })
  (hs : a.eval s = v) (h : Row w v l) (m : Bs) {xv : Value} (hx : a.eval x = xv) (hsrc : Src w 1 xv m.length (byteVals m)) (hm : l.length + m.length ≤ 1000000000)
  (hK : ∀ ad N c w', Row w' (.slice ad N c) (l ++ m) → Grew w v w' (.slice ad N c) → K (a.put o.dst (.slice ad N c)) w') :
  o.wp Tryz.prog a w K Q := by
 obtain ⟨ad, c, w', hr, h2, h3⟩ := run_put_src o.type h hm hsrc
 unfold Oper.wp execOp
 simp only [ho, resolve, invoke, builtin, Sem.run_bind, Sem.run_pure, Result.andThen_ok, List.map_toArray, List.map_cons, List.map_nil, hs, hx, hr]
 exact hK ad _ c w' h2 h3
end
theorem alloc_size (w : World) (o : Obj) : (w.alloc o).heap.size = w.heap.size + 1 := by simp
/-- What holds while a field is written behind the others. -/
structure AppI (w wo w8 W : World) (v : Value) (L : Bs) : Prop where
 row : Row W v L
 own : ∀ k, v.ownBlock = some k → w.heap.size ≤ k ∧ (k < wo.heap.size ∨ w8.heap.size ≤ k)
 keep : ∀ k, k < w.heap.size ∨ (wo.heap.size ≤ k ∧ k < w8.heap.size) → W.heap[k]? = w8.heap[k]?
 step : Step [] id id w W
 size : w8.heap.size ≤ W.heap.size
section
variable {w wo w8 W W' : World} {v v' : Value} {L L' : Bs}
theorem AppI.on (h : AppI w wo w8 W v L) (hs : Step [] id id W W') (hw : w.heap.size ≤ w8.heap.size) : AppI w wo w8 W' v L :=
 ⟨ownsRow_step h.row hs (fun k _ => by simp), h.own, fun k hk => ((hs.keep k (by have := h.size; rcases hk with h | h <;> omega) (by simp)).2).trans (h.keep k hk), h.step.tail hs, Nat.le_trans h.size hs.size⟩
theorem AppI.grew (h : AppI w wo w8 W v L) (hr : Row W' v' L') (hg : Grew W v W' v') (hw : w.heap.size ≤ w8.heap.size) : AppI w wo w8 W' v' L' :=
 ⟨hr, fun k hk => by
  rcases hg.own k hk with e | e
  ·exact h.own k e
  ·have := h.size; exact ⟨by omega, .inr (by omega)⟩, fun k hk => (hg.grown.block k (by have := h.size; rcases hk with h | h <;> omega) (fun e => by
   have := h.own k e.symm
   rcases hk with h | h <;> omega)).trans (h.keep k hk), h.step.tailNew (.grown (T := v.ownBlock.toList) hg.grown (fun k hk => by simp [hk])) (fun r hr => .inr (h.own r (by simpa using hr)).1), Nat.le_trans h.size hg.grown.size⟩
theorem AppI.cell (h : AppI w wo w8 W v L) {p : Addr} {u : Value} (hp : p.block < w.heap.size) (hc : w8.cell? p = some u) : W.cell? p = some u :=
 (World.cell?_of_block (a := p) (h.keep p.block (.inl hp))).trans hc
/-- A byte that was laid, in a block of its own. -/
structure OneB (W : World) (v : Value) (Z : Nat) (c : UInt8) : Prop where
 blk : W.heap[Z]? = some (.cells #[.int .u8 (c.toNat : Int)] 5 (0, 0))
 ne : v.ownBlock ≠ some Z
theorem OneB.on {Z : Nat} {c : UInt8} (h : OneB W v Z c) (hs : Step [] id id W W') : OneB W' v Z c := ⟨hs.at h.blk (by simp), h.ne⟩
theorem OneB.grew {Z : Nat} {c : UInt8} (h : OneB W v Z c) (hg : Grew W v W' v') : OneB W' v' Z c :=
 ⟨(hg.grown.block Z (lt_of_block h.blk) (fun e => h.ne e.symm)).trans h.blk, fun e => by
  rcases hg.own Z e with e2 | e2
  ·exact h.ne e2
  ·have := lt_of_block h.blk; omega⟩
theorem OneB.new {z : Int} {c : UInt8} (hr : Row W v L) (hz : z = (c.toNat : Int)) : OneB (W.alloc (.cells #[.int .u8 z] 5)) v W.heap.size c :=
 ⟨by rw [hz]; exact heap_alloc_new W _, fun e => absurd (World.ownsRow.lt hr _ e).2 (Nat.lt_irrefl _)⟩
theorem OneB.src {Z : Nat} {c : UInt8} (h : OneB W v Z c) : Src W 1 (.slice (some ⟨Z, 0, none⟩) 1 1) [c].length (byteVals [c]) := by
 refine ⟨rfl, .inr ⟨_, 1, rfl, fun t u ht => ?_⟩⟩
 rw [addr_add, Nat.zero_add]
 refine cell_blk h.blk ?_
 rw [← ht]
 simp [byteVals]
theorem bin_src {P : Nat → Prop} {ba : Option Addr} {bn bc : Nat} {l : Bs} (h : BIn P W (.slice ba bn bc) l) : Src W 1 (.slice ba bn bc) l.length (byteVals l) := by
 rcases h with ⟨a, c, e, rfl, h0⟩ | ⟨b, o, c, e, h1, h2, h3⟩
 ·injection e with e1 e2 e3
  subst e1 e2 e3
  cases ba with
  | none => rw [h0 rfl]; exact ⟨rfl, .inl ⟨rfl, rfl⟩⟩
  | some a => exact ⟨rfl, .inr ⟨a, _, rfl, fun t u ht => by simp [byteVals] at ht⟩⟩
 ·injection e with e1 e2 e3
  subst e1 e2 e3
  refine ⟨by simp, .inr ⟨_, _, rfl, fun t u ht => ?_⟩⟩
  have htl : t < l.length := by simpa using (List.getElem?_eq_some_iff.1 ht).1
  rw [byteVals_get htl] at ht
  cases ht
  rw [addr_add]; exact h3 t htl
end
set_option maxRecDepth 100000 in
theorem wpList_copy_front {w : World} {ops : Array Oper} {rest : List Oper} {o : Oper} {a : Act} {Q : Exit → Act → World → Prop} (hgd : o.guard = none) (d s : Operand)
  (ho : o.op = .call { callee := .builtin .copy, args := #[d, s], argTypes := #[32, 32] })
  (g N c : Nat) (hd : a.eval d = .slice (some ⟨g, 0, none⟩) N c) (sa : Addr) (sn sc : Nat) (hs : a.eval s = .slice (some sa) sn sc) (L data : Bs) (hrow : Row w (.slice (some ⟨g, 0, none⟩) N c) L) (hsrc : Src w 1 (.slice (some sa) sn sc) data.length (byteVals data)) (hsn : sn = data.length)
  (h1 : data.length ≤ L.length)
  (h : ∀ w', Row w' (.slice (some ⟨g, 0, none⟩) N c) (data ++ L.drop data.length) → w.grownBy w' (some g) → wpList Tryz.prog ops Q rest (a.put o.dst (goInt data.length)) w') :
  wpList Tryz.prog ops Q (o :: rest) a w := by
 have hsz : (Tryz.prog.info? 5).map (·.size) = some 1 := by kernel_rfl
 have hN := hrow.len
 subst hsn
 rcases hrow.2 with ⟨e, -⟩ | ⟨g', cap, cur, e, hb0, hg, hc, hm, hcs, htk⟩
 ·cases e
 injection e with e1 e2 e3
 injection e1 with e1
 injection e1 with e1 _ _
 subst e1 e3
 rw [Nat.mul_one] at hcs htk
 have hsrc2 : ∀ j u, (byteVals data)[j]? = some u → w.cell? (sa.add j) = some u := by
  rcases hsrc.2 with ⟨e, -⟩ | ⟨ad, c', e, h⟩
  ·cases e
  ·injection e with e _ _
   injection e with e
   subst e; exact h
 refine wpList_copy_own hgd d s 32 32 ho 5 Tryz.underlying32 hsz g 0 N c sa data.length sc hd hs cur 5 hg (byteVals data) (by rw [byteVals_length]; exact (Nat.min_eq_left (by omega)).symm) hsrc2 (by rw [byteVals_length, hcs]; omega) (byteVals_one _) ?_
 rw [byteVals_length]
 have e5 : (data ++ L.drop data.length).length = L.length := by rw [List.length_append, List.length_drop]; omega
 have htl : cur.toList.take L.length = byteVals L := htk
 refine h _ ?_ ⟨rfl, rfl, rfl, by simp [World.setRow], fun k _ hk => setRow_other w g k _ (fun e => hk (by rw [e]))⟩
 unfold Row
 rw [e5]
 refine ⟨by rw [byteVals_length, e5, Nat.mul_one], .inr ⟨g, c, _, by rw [hN], Nat.zero_le _, setRow_heap w g _ _ _ _ hg, by omega, hm, ?_, ?_⟩⟩
 ·simp only [List.size_toArray, List.length_append, List.length_drop, byteVals_length, List.take_zero, List.length_nil, Array.length_toList, hcs]
  omega
 ·simp only [Nat.zero_add, List.take_zero, List.nil_append, Nat.mul_one]
  rw [byteVals_append, byteVals_drop, ← htl, List.take_append, byteVals_length, List.take_of_length_le (by rw [byteVals_length]; exact h1)]
  congr 1
  rw [List.drop_take]
/-- Does a value go, with no more than MaxBytes? -/
def okQ (d : Nat) (x : Val) : Bool := okV d x && decide ((encV x).length ≤ 65536)
def okFq (d : Nat) (f : List (Bs × Val)) : Bool := okFs d [] f && decide ((encFs f).length + 5 ≤ 65536)
/-- A value's own bytes, or that it may not be (or is too long). -/
def OwnQ (P : Nat → Prop) (x : Val) (d : Nat) (w : World) (e : Ending) (w' : World) : Prop :=
 ∃ ba bn bc, e = .returned (.tuple #[.slice ba bn bc, .bool (okQ d x)]) ∧ (okQ d x = true → bn = (encV x).length ∧ BIn (fun k => P k ∨ w.heap.size ≤ k) w' (.slice ba bn bc) (encV x)) ∧ Step [] id id w w'
def OwnQC (x : Val) (d : Nat) : Prop := ∀ (P : Nat → Prop) (cs : List Value) (w : World), VIs P w x cs → Calls Tryz.prog 43 #[.agg cs.toArray, .int .i64 ((d : Int) + 1)] w (OwnQ P x d w)
def FldQ (f : List (Bs × Val)) (d : Nat) (w : World) (e : Ending) (w' : World) : Prop :=
 ∃ ba bn bc, e = .returned (.tuple #[.slice ba bn bc, .bool (okFq d f)]) ∧ (okFq d f = true → Row w' (.slice ba bn bc) (wrapDoc (encFs f)) ∧ ∀ k, (Value.slice ba bn bc).ownBlock = some k → w.heap.size ≤ k) ∧ Step [] id id w w'
theorem okQ_small {d : Nat} {x : Val} (h : weightV x ≤ 3001) : okQ d x = okV d x := by
 have := enc_lenV x (by omega)
 unfold okQ
 rw [decide_eq_true (by omega), Bool.and_true]
theorem okFq_no {d : Nat} {f : List (Bs × Val)} {j : Nat} (hj : j < f.length) (h : nameOk f[j].1 = false ∨ okQ d f[j].2 = false ∨ f[j].1 ∈ (f.take j).map (·.1)) : okFq d f = false := by
 unfold okFq
 rcases h with h | h | h
 ·rw [okFs_no hj (.inl h)]; rfl
 ·unfold okQ at h
  rcases Bool.and_eq_false_iff.1 h with h | h
  ·rw [okFs_no hj (.inr (.inl h))]; rfl
  ·have h1 := encFs_take_le f (j + 1)
   rw [encFs_take f j hj] at h1
   simp only [List.length_append, List.length_cons] at h1
   have h2 := of_decide_eq_false h
   rw [decide_eq_false (by omega), Bool.and_false]
 ·rw [okFs_no hj (.inr (.inr h))]; rfl
theorem okFq_long {d : Nat} {f : List (Bs × Val)} {j : Nat} (h : 65536 < (encFs (f.take j)).length + 4) : okFq d f = false := by
 have h1 := encFs_take_le f j
 unfold okFq
 rw [decide_eq_false (by omega), Bool.and_false]
set_option maxRecDepth 100000 in
set_option maxHeartbeats 16000000 in
theorem fields_full {P : Nat → Prop} {w : World} {f : List (Bs × Val)} {fa : Option Addr} {fn fc d : Nat} (hown : ∀ j (h : j < f.length), OwnQC f[j].2 d) (hl3 : f.length ≤ 3001) (hw : ∀ j (h : j < f.length), f[j].1.length ≤ 3001) (hd : d ≤ 40) (hfn : fn = f.length) (hf : FIs P w f fa 0) :
  Calls Tryz.prog 65 #[.slice fa fn fc, .int .i64 d] w (FldQ f d w) := by
 have hfn3 : fn ≤ 3001 := by omega
 have hfH := Lib.hid (FIs.below f fa 0 hf)
 have hownQ := Lib.hid hown
 have hfnH := Lib.hid hfn
 have hwH := Lib.hid hw
 clear hf hown hfn hw hl3
 have hmk : ∀ W : World, (Instr.makeSlice 32 (.int .i64 4) (.int .i64 4)).run Tryz.prog W = .ok (.slice (some ⟨W.heap.size, 0, none⟩) 4 4) (W.alloc (.cells #[.int .u8 0, .int .u8 0, .int .u8 0, .int .u8 0] 5)) := fun _ => by kernel_rfl
 go_enter Tryz.func65, Tryz.ntmps65
 go_wp2_with fail
 clear hmk
 go_loopw [6, 7] (fun ov i wr => ∃ (j n : Nat) (oa : Option Addr) (oc : Nat), i = .int .i64 j ∧ j ≤ fn ∧ ov = .slice oa n oc ∧ Row wr (.slice oa n oc) ([0, 0, 0, 0] ++ encFs (f.take j)) ∧ (∀ k, (Value.slice oa n oc).ownBlock = some k → w.heap.size ≤ k) ∧ (okFs d [] (f.take j) = true ∧ (encFs (f.take j)).length + 4 ≤ 65536) ∧ Step [] id id w wr) (fun _ i _ => fn - (intOf i).toNat)
 case atStart =>
  refine ⟨0, 4, _, _, rfl, Nat.zero_le _, rfl, ?_, fun k hk => ?_, by simp [okFs, encFs], Step.alloc _⟩
  ·have hb : Blk (w.alloc (.cells #[.int .u8 0, .int .u8 0, .int .u8 0, .int .u8 0] 5)) w.heap.size [0, 0, 0, 0] := heap_alloc_new w _
   have := hb.row (by simp [maxLen])
   simpa [encFs] using this
  ·cases hk; exact Nat.le_refl _
 case round =>
  obtain ⟨j, n, oa, oc, rfl, hj, rfl, hrow, hnew, hok, hst⟩ := hrel
  by_cases hjl : j < fn
  ·have hjl1 : (j : Int) < (fn : Int) := by omega
   have hj0 : (0 : Int) ≤ (j : Int) := by omega
   have hjf : j < f.length := by rw [← hfnH.out]; exact hjl
   obtain ⟨fb, fo, cs, hae, hPb, hnl, hrng, hx⟩ := (FIs.keep (P2 := fun k => P k ∧ k < w.heap.size) (fun _ h => h) (fun k hP hk => (hst.keep k hk (by simp)).2) f fa 0 hfH.out).get hjf
   subst hae
   obtain ⟨s1, bb1, bbn1, bbc1, ff1, ffn1, ffc1, ll1, lln1, llc1, hcs, -⟩ := hx.six
   obtain ⟨kk, hkk⟩ : ∃ k, k = f[j].2.kind := ⟨_, rfl⟩
   obtain ⟨nn, hnn⟩ : ∃ k, k = f[j].2.num := ⟨_, rfl⟩
   obtain ⟨N1, hN1⟩ : ∃ k, k = strOf f[j].1 := ⟨_, rfl⟩
   rw [← hkk, ← hnn] at hcs
   rw [hcs, Nat.zero_add, ← hN1] at hrng
   subst hcs
   have q0 := hrng 0 _ rfl
   have q1 := hrng 1 _ rfl
   have q2 : wr.cell? ⟨fb, fo + j * 7 + 1 + 1, none⟩ = some (.int .i64 nn) := hrng 2 _ rfl
   have q3 : wr.cell? ⟨fb, fo + j * 7 + 1 + 2, none⟩ = some (.string s1) := by rw [Nat.add_assoc (fo + j * 7)]; exact hrng 3 _ rfl
   have q4 : wr.cell? ⟨fb, fo + j * 7 + 1 + 3, none⟩ = some (.slice bb1 bbn1 bbc1) := by rw [Nat.add_assoc (fo + j * 7)]; exact hrng 4 _ rfl
   have q5 : wr.cell? ⟨fb, fo + j * 7 + 1 + 4, none⟩ = some (.slice ff1 ffn1 ffc1) := by rw [Nat.add_assoc (fo + j * 7)]; exact hrng 5 _ rfl
   have q6 : wr.cell? ⟨fb, fo + j * 7 + 1 + 5, none⟩ = some (.slice ll1 lln1 llc1) := by rw [Nat.add_assoc (fo + j * 7)]; exact hrng 6 _ rfl
   rw [Nat.add_zero] at q0
   have hfbl := World.block_lt_of_cell? wr _ q0
   have hfbw : fb < w.heap.size := hPb.2
   have hwrapd : IntKind.i64.wrap ((d : Int) + 1) = (d : Int) + 1 := IntWalk.i64_in _ (by omega)
   have hwrap : IntKind.i64.wrap ((j : Int) + 1) = (j : Int) + 1 := IntWalk.i64_in _ (by omega)
   have hcall := Lib.hid (hownQ.out j hjf (fun k => P k ∧ k < w.heap.size) _ wr hx)
   obtain ⟨r1, hr1⟩ : ∃ r, r = okQ d f[j].2 := ⟨_, rfl⟩
   have hr1H := Lib.hid hr1
   have hstH := Lib.hid hst
   have hrowH := Lib.hid hrow
   have hnewH := Lib.hid hnew
   have hokH := Lib.hid hok
   have hkkH := Lib.hid hkk
   have hN1H := Lib.hid hN1
   have hnlH := Lib.hid hnl
   clear hst hrow hnew hok hkk hnn hN1 hx hrng hPb hr1 hnl
   go_wp2_with fail
   refine hcall.out.mono ?_
   rintro e w8 ⟨xa, xn, xc, rfl, hxok, hs8⟩
   rw [← hr1H.out] at hxok ⊢
   have hk8 : ∀ (p : Addr) v, wr.cell? p = some v → w8.cell? p = some v := fun p v hv => (World.cell?_of_block (a := p) ((hs8.keep p.block (World.block_lt_of_cell? wr p hv) (by simp)).2)).trans hv
   have x0 := hk8 _ _ q0
   have x1 := hk8 _ _ q1
   have hfb8 : fb < w8.heap.size := World.block_lt_of_cell? w8 _ x0
   have hs8H := Lib.hid hs8
   have hxokH := Lib.hid hxok
   clear hs8 hxok hk8 q0 q1 q2 q3 q4 q5 q6
   cases r1
   ·have hno := okFq_no hjf (.inr (.inl hr1H.out.symm))
    have hnoH := Lib.hid hno
    clear hno
    go_wp2_with fail
    exact bodyPost_ret (v := .tuple #[.slice none 0 0, .bool false]) (by kernel_rfl) rfl ⟨none, 0, 0, by rw [hnoH.out], fun h => absurd h (by rw [hnoH.out]; simp), hstH.out.tail hs8H.out⟩
   have hnmc := ref_namemay f[j].1 w8 hnlH.out
   rw [← hN1H.out] at hnmc
   obtain ⟨r2, hr2⟩ : ∃ r, r = nameOk f[j].1 := ⟨_, rfl⟩
   rw [← hr2] at hnmc
   have hr2H := Lib.hid hr2
   have hnmcH := Lib.hid hnmc
   clear hr2 hnmc
   cases r2
   ·have hno := okFq_no (d := d) hjf (.inl hr2H.out.symm)
    have hnoH := Lib.hid hno
    clear hno
    go_wp2_with (go_at_call 92; refine hnmcH.out.mono ?_; rintro e w' ⟨rfl, rfl⟩)
    exact bodyPost_ret (v := .tuple #[.slice none 0 0, .bool false]) (by kernel_rfl) rfl ⟨none, 0, 0, by rw [hnoH.out], fun h => absurd h (by rw [hnoH.out]; simp), hstH.out.tail hs8H.out⟩
   go_wp2_with (go_at_call 92; refine hnmcH.out.mono ?_; rintro e w' ⟨rfl, rfl⟩)
   obtain ⟨wo, rfl⟩ : ∃ wo : World, wo = wr := ⟨_, rfl⟩
   go_loopw [10] (fun k wq => ∃ t : Nat, k = .int .i64 t ∧ t ≤ j ∧ (∀ s (hs : s < f.length), s < t → f[s].1 ≠ f[j].1) ∧ Step [] id id w8 wq) (fun k _ => j - (intOf k).toNat)
   case atStart => exact ⟨0, rfl, Nat.zero_le _, fun s _ h => absurd h (Nat.not_lt_zero _), Step.refl _ _ _⟩
   case round =>
    obtain ⟨t, rfl, ht, hts, hstq⟩ := hrel
    have hkq : ∀ (p : Addr) v, w8.cell? p = some v → wr.cell? p = some v := fun p v hv => (World.cell?_of_block (a := p) ((hstq.keep p.block (World.block_lt_of_cell? w8 p hv) (by simp)).2)).trans hv
    have z0 := hkq _ _ x0
    have z1 := hkq _ _ x1
    have hfbq : fb < wr.heap.size := World.block_lt_of_cell? wr _ z0
    have htsH := Lib.hid hts
    clear hkq hts
    by_cases htl : t < j
    ·have htl1 : (t : Int) < (j : Int) := by omega
     have ht0 : (0 : Int) ≤ (t : Int) := by omega
     have htn : (t : Int) < (fn : Int) := by omega
     have htf : t < f.length := by omega
     obtain ⟨fb', fo', cs', hae', -, -, hrng', -⟩ := (FIs.keep (P2 := fun k => P k ∧ k < w.heap.size) (fun _ h => h) (fun k hP hk => (((hstH.out.tail hs8H.out).tail hstq).keep k hk (by simp)).2) f (some ⟨fb, fo, none⟩) 0 hfH.out).get htf
     injection hae' with hae'
     injection hae' with e1 e2 _
     subst e1 e2
     obtain ⟨N2, hN2⟩ : ∃ k, k = strOf f[t].1 := ⟨_, rfl⟩
     rw [Nat.zero_add, ← hN2] at hrng'
     have y0 := hrng' 0 _ rfl
     rw [Nat.add_zero] at y0
     have hwrapt : IntKind.i64.wrap ((t : Int) + 1) = (t : Int) + 1 := IntWalk.i64_in _ (by omega)
     have hne : N2 = N1 ↔ f[t].1 = f[j].1 := by rw [hN2, hN1H.out]; exact strOf_eqP
     have hneH := Lib.hid hne
     have hstqH := Lib.hid hstq
     clear hrng' hN2 hne hstq
     by_cases hd2 : N2 = N1
     ·have hbe : (N2.toList == N1.toList) = true := by rw [hd2]; simp
      have hno := okFq_no (d := d) hjf (.inr (.inr (by
       rw [← hneH.out.1 hd2]
       exact List.mem_map_of_mem (List.mem_take_iff_getElem.2 ⟨t, by omega, rfl⟩))))
      have hnoH := Lib.hid hno
      clear hno hd2
      go_wp2_with fail
      refine wp_region_held_drew (S := fun w' => w'.cell? ⟨fb, fo + j * 7, none⟩ = some (.string N1) ∧ w'.cell? ⟨fb, fo + t * 7, none⟩ = some (.string N2)) (by kernel_rfl) ⟨z0, y0⟩ (fun hHeld => ?_)
      refine tkH 0 ?_ rfl (by kernel_rfl) (fun _ _ _ h => h) ?_ hHeld ?_
      rotate_left
      ·intro w' hSw; (try dsimp only at hSw); go_simp
       all_goals (with_reducible rfl)
      simp only [zP, zO, zA, zB, zC, zD, zE, zF]
      refine tkH 1 ?_ rfl (by kernel_rfl) (fun _ _ _ h => h) ?_ hHeld ?_
      rotate_left
      ·intro w' hSw; (try dsimp only at hSw); go_simp
       all_goals (with_reducible rfl)
      simp only [zP, zO, zA, zB, zC, zD, zE, zF]
      refine tkH 2 ?_ rfl (by kernel_rfl) (fun _ _ _ h => h) ?_ hHeld ?_
      rotate_left
      ·intro w' hSw; (try dsimp only at hSw); go_simp
       all_goals (with_reducible rfl)
      simp only [zP, zO, zA, zB, zC, zD, zE, zF]
      refine tkH 3 ?_ rfl (by kernel_rfl) (fun _ _ _ h => h) ?_ hHeld ?_
      rotate_left
      ·intro w' hSw; (try dsimp only at hSw); go_simp
       all_goals (with_reducible rfl)
      simp only [zP, zO, zA, zB, zC, zD, zE, zF]
      refine tkH 4 ?_ rfl (by kernel_rfl) (fun _ _ _ h => h) ?_ hHeld ?_
      rotate_left
      ·intro w' hSw; (try dsimp only at hSw); go_simp
       all_goals (with_reducible rfl)
      simp only [zP, zO, zA, zB, zC, zD, zE, zF]
      refine tkH 5 ?_ rfl (by kernel_rfl) (fun _ _ _ h => h) ?_ hHeld ?_
      rotate_left
      ·intro w' hSw; (try dsimp only at hSw); go_simp
       all_goals (with_reducible rfl)
      simp only [zP, zO, zA, zB, zC, zD, zE, zF]
      refine tkH 6 ?_ rfl (by kernel_rfl) (fun _ _ _ h => h) ?_ hHeld ?_
      rotate_left
      ·intro w' hSw; (try dsimp only at hSw); go_simp
       all_goals (with_reducible rfl)
      simp only [zP, zO, zA, zB, zC, zD, zE, zF]
      refine tkH 7 ?_ rfl (by kernel_rfl) (fun _ _ _ h => h) ?_ hHeld ?_
      rotate_left
      ·intro w' hSw; (try dsimp only at hSw); go_simp
       all_goals (with_reducible rfl)
      simp only [zP, zO, zA, zB, zC, zD, zE, zF]
      refine tkH 8 ?_ rfl (by kernel_rfl) (fun _ _ _ h => h) ?_ hHeld ?_
      rotate_left
      ·intro w' hSw; (try dsimp only at hSw); go_simp
       all_goals (with_reducible rfl)
      simp only [zP, zO, zA, zB, zC, zD, zE, zF]
      refine tkH 9 ?_ rfl (by kernel_rfl) (fun _ _ _ h => h) ?_ hHeld ?_
      rotate_left
      ·intro w' hSw; (try dsimp only at hSw); go_simp
       all_goals (with_reducible rfl)
      simp only [zP, zO, zA, zB, zC, zD, zE, zF]
      refine tkH 10 ?_ rfl (by kernel_rfl) (fun _ _ _ h => h) ?_ hHeld ?_
      rotate_left
      ·intro w' hSw; (try dsimp only at hSw); go_simp
       all_goals (with_reducible rfl)
      simp only [zP, zO, zA, zB, zC, zD, zE, zF]
      refine wpAnyH_done (by kernel_rfl) ?_ _
      go_wp2_with fail
      exact bodyPost_ret (v := .tuple #[.slice none 0 0, .bool false]) (by kernel_rfl) rfl ⟨none, 0, 0, by rw [hnoH.out], fun h => absurd h (by rw [hnoH.out]; simp), ((hstH.out.tail hs8H.out).tail hstqH.out).tail Step.drew⟩
     ·have hbe : (N2.toList == N1.toList) = false := by rw [str_cmpP]; exact decide_eq_false hd2
      go_wp2_with fail
      refine wp_region_held_drew (S := fun w' => w'.cell? ⟨fb, fo + j * 7, none⟩ = some (.string N1) ∧ w'.cell? ⟨fb, fo + t * 7, none⟩ = some (.string N2)) (by kernel_rfl) ⟨z0, y0⟩ (fun hHeld => ?_)
      refine tkH 0 ?_ rfl (by kernel_rfl) (fun _ _ _ h => h) ?_ hHeld ?_
      rotate_left
      ·intro w' hSw; (try dsimp only at hSw); go_simp
       all_goals (with_reducible rfl)
      simp only [zP, zO, zA, zB, zC, zD, zE, zF]
      refine tkH 1 ?_ rfl (by kernel_rfl) (fun _ _ _ h => h) ?_ hHeld ?_
      rotate_left
      ·intro w' hSw; (try dsimp only at hSw); go_simp
       all_goals (with_reducible rfl)
      simp only [zP, zO, zA, zB, zC, zD, zE, zF]
      refine tkH 2 ?_ rfl (by kernel_rfl) (fun _ _ _ h => h) ?_ hHeld ?_
      rotate_left
      ·intro w' hSw; (try dsimp only at hSw); go_simp
       all_goals (with_reducible rfl)
      simp only [zP, zO, zA, zB, zC, zD, zE, zF]
      refine tkH 3 ?_ rfl (by kernel_rfl) (fun _ _ _ h => h) ?_ hHeld ?_
      rotate_left
      ·intro w' hSw; (try dsimp only at hSw); go_simp
       all_goals (with_reducible rfl)
      simp only [zP, zO, zA, zB, zC, zD, zE, zF]
      refine tkH 4 ?_ rfl (by kernel_rfl) (fun _ _ _ h => h) ?_ hHeld ?_
      rotate_left
      ·intro w' hSw; (try dsimp only at hSw); go_simp
       all_goals (with_reducible rfl)
      simp only [zP, zO, zA, zB, zC, zD, zE, zF]
      refine tkH 5 ?_ rfl (by kernel_rfl) (fun _ _ _ h => h) ?_ hHeld ?_
      rotate_left
      ·intro w' hSw; (try dsimp only at hSw); go_simp
       all_goals (with_reducible rfl)
      simp only [zP, zO, zA, zB, zC, zD, zE, zF]
      refine tkH 6 ?_ rfl (by kernel_rfl) (fun _ _ _ h => h) ?_ hHeld ?_
      rotate_left
      ·intro w' hSw; (try dsimp only at hSw); go_simp
       all_goals (with_reducible rfl)
      simp only [zP, zO, zA, zB, zC, zD, zE, zF]
      refine tkH 7 ?_ rfl (by kernel_rfl) (fun _ _ _ h => h) ?_ hHeld ?_
      rotate_left
      ·intro w' hSw; (try dsimp only at hSw); go_simp
       all_goals (with_reducible rfl)
      simp only [zP, zO, zA, zB, zC, zD, zE, zF]
      refine tkH 8 ?_ rfl (by kernel_rfl) (fun _ _ _ h => h) ?_ hHeld ?_
      rotate_left
      ·intro w' hSw; (try dsimp only at hSw); go_simp
       all_goals (with_reducible rfl)
      simp only [zP, zO, zA, zB, zC, zD, zE, zF]
      refine tkH 9 ?_ rfl (by kernel_rfl) (fun _ _ _ h => h) ?_ hHeld ?_
      rotate_left
      ·intro w' hSw; (try dsimp only at hSw); go_simp
       all_goals (with_reducible rfl)
      simp only [zP, zO, zA, zB, zC, zD, zE, zF]
      refine tkH 10 ?_ rfl (by kernel_rfl) (fun _ _ _ h => h) ?_ hHeld ?_
      rotate_left
      ·intro w' hSw; (try dsimp only at hSw); go_simp
       all_goals (with_reducible rfl)
      simp only [zP, zO, zA, zB, zC, zD, zE, zF]
      refine wpAnyH_done (by kernel_rfl) ?_ _
      clear hHeld z0 z1 y0
      go_wp2_with fail
      go_roundw
      case rel =>
       refine ⟨t + 1, by go_num, by omega, fun s hs hlt => ?_, hstqH.out.tail Step.drew⟩
       rcases Nat.lt_or_ge s t with h | h
       ·exact htsH.out s hs h
       ·obtain rfl : s = t := by omega
        exact fun e => hd2 (hneH.out.2 e)
      case measure => simp [intOf]; omega
    ·have htl1 : ¬ (t : Int) < (j : Int) := by omega
     obtain rfl : t = j := by omega
     go_wp2_with fail
     have hI : AppI w wo w8 wr (.slice oa n oc) ([0, 0, 0, 0] ++ encFs (f.take t)) :=
      ⟨ownsRow_step hrowH.out (hs8H.out.tail hstq) (fun k _ => by simp), fun k hk => ⟨hnewH.out k hk, .inl (World.ownsRow.lt hrowH.out k hk).2⟩, fun k hk => (hstq.keep k (by have := hs8H.out.size; have := hstH.out.size; rcases hk with h | h <;> omega) (by simp)).2, (hstH.out.tail hs8H.out).tail hstq, hstq.size⟩
     have hz8 : w.heap.size ≤ w8.heap.size := by have := hs8H.out.size; have := hstH.out.size; omega
     have hxB := (hxokH.out trivial).2.below.keep (P2 := fun k => (k < w.heap.size ∨ (wo.heap.size ≤ k ∧ k < w8.heap.size)) ∧ True) (fun k h => ⟨by rcases h.1 with h1 | h1; exact .inl h1.2; exact .inr ⟨h1, h.2⟩, trivial⟩) (fun _ _ _ => rfl)
     have hxn := (hxokH.out trivial).1
     have hL0 : (encFs (f.take t)).length + 4 ≤ 65536 := hokH.out.2
     have hnm3 : f[t].1.length ≤ 3001 := hwH.out t hjf
     have hxq : okV d f[t].2 = true ∧ (encV f[t].2).length ≤ 65536 := by
      have h := hr1H.out
      unfold okQ at h
      rw [eq_comm, Bool.and_eq_true, decide_eq_true_eq] at h
      exact h
     have hxl := hxq.2
     have hxo := Lib.hid hxq.1
     clear hxq
     have hstqH := Lib.hid hstq
     have hxnH := Lib.hid hxn
     clear hstq hxn
     refine wp_region_held_drew (S := fun w' => w'.cell? ⟨fb, fo + t * 7, none⟩ = some (.string N1) ∧ w'.cell? ⟨fb, fo + t * 7 + 1, none⟩ = some (.int .i64 kk)) (by kernel_rfl) ⟨z0, z1⟩ (fun hHeld => ?_)
     have hI := hI.on Step.drew hz8
     refine tkH 0 ?_ rfl (by kernel_rfl) (fun _ _ _ h => h) ?_ hHeld ?_
     rotate_left
     ·intro w' hSw; (try dsimp only at hSw); go_simp
      all_goals (with_reducible rfl)
     simp only [zP, zO, zA, zB, zC, zD, zE, zF]
     refine tkH 1 ?_ rfl (by kernel_rfl) (fun _ _ _ h => h) ?_ hHeld ?_
     rotate_left
     ·intro w' hSw; (try dsimp only at hSw); go_simp
      all_goals (with_reducible rfl)
     simp only [zP, zO, zA, zB, zC, zD, zE, zF]
     refine tkH 2 ?_ rfl (by kernel_rfl) (fun _ _ _ h => h) ?_ hHeld ?_
     rotate_left
     ·intro w' hSw; (try dsimp only at hSw); go_simp
      all_goals (with_reducible rfl)
     simp only [zP, zO, zA, zB, zC, zD, zE, zF]
     refine tkH 3 ?_ rfl (by kernel_rfl) (fun _ _ _ h => h) ?_ hHeld ?_
     rotate_left
     ·intro w' hSw; (try dsimp only at hSw); go_simp
      all_goals (with_reducible rfl)
     simp only [zP, zO, zA, zB, zC, zD, zE, zF]
     refine tkH 4 ?_ rfl (by kernel_rfl) (fun _ _ _ h => h) ?_ hHeld ?_
     rotate_left
     ·intro w' hSw; (try dsimp only at hSw); go_simp
      all_goals (with_reducible rfl)
     simp only [zP, zO, zA, zB, zC, zD, zE, zF]
     refine tkH 5 ?_ rfl (by kernel_rfl) (fun _ _ _ h => h) ?_ hHeld ?_
     rotate_left
     ·intro w' hSw; (try dsimp only at hSw); go_simp
      all_goals (with_reducible rfl)
     simp only [zP, zO, zA, zB, zC, zD, zE, zF]
     refine tkH 6 ?_ rfl (by kernel_rfl) (fun _ _ _ h => h) ?_ hHeld ?_
     rotate_left
     ·intro w' hSw; (try dsimp only at hSw); go_simp
      all_goals (with_reducible rfl)
     simp only [zP, zO, zA, zB, zC, zD, zE, zF]
     refine tkH 10 ?_ rfl (by kernel_rfl) (fun _ _ _ h => h) ?_ hHeld ?_
     rotate_left
     ·intro w' hSw; (try dsimp only at hSw); go_simp
      all_goals (with_reducible rfl)
     simp only [zP, zO, zA, zB, zC, zD, zE, zF]
     refine tkH 11 ?_ rfl (by kernel_rfl) (fun _ _ _ h => h) ?_ hHeld ?_
     rotate_left
     ·intro w' hSw; (try dsimp only at hSw); go_simp
      all_goals (with_reducible rfl)
     simp only [zP, zO, zA, zB, zC, zD, zE, zF]
     refine tkH 12 ?_ rfl (by kernel_rfl) (fun _ _ _ h => h) ?_ hHeld ?_
     rotate_left
     ·intro w' hSw; (try dsimp only at hSw); go_simp
      all_goals (with_reducible rfl)
     simp only [zP, zO, zA, zB, zC, zD, zE, zF]
     refine tkH 13 ?_ rfl (by kernel_rfl) (fun _ _ _ h => h) ?_ hHeld ?_
     rotate_left
     ·intro w' hSw; (try dsimp only at hSw); go_simp
      all_goals (with_reducible rfl)
     simp only [zP, zO, zA, zB, zC, zD, zE, zF]
     refine tkH 14 ?_ rfl (by kernel_rfl) (fun _ _ _ h => h) ?_ hHeld ?_
     rotate_left
     ·intro w' hSw; (try dsimp only at hSw); go_simp
      all_goals (with_reducible rfl)
     simp only [zP, zO, zA, zB, zC, zD, zE, zF]
     refine tkH 18 ?_ rfl (by kernel_rfl) (fun _ _ _ h => h) ?_ hHeld ?_
     rotate_left
     ·intro w' hSw; (try dsimp only at hSw); go_simp
      all_goals (with_reducible rfl)
     simp only [zP, zO, zA, zB, zC, zD, zE, zF]
     refine wpAnyH_ready (rs := [7, 16]) (by kernel_rfl) (by simp) ?_
     refine AllReadyH.cons (o := _) rfl (fun K hK => ?_) (AllReadyH.cons (o := _) rfl (fun K hK => ?_) AllReadyH.nil)
     ·go_simp
      refine (ref_code kk _).mono ?_
      rintro e w' ⟨rfl, rfl⟩
      go_wp2_with fail
      refine hK.out _ _ ?_ (fun hHeld => ?_)
      ·exact ⟨hI.cell hfbw x0, hI.cell hfbw x1⟩
      clear hK K
      refine wpAnyH_ready (rs := [8, 16]) (by kernel_rfl) (by simp) ?_
      refine AllReadyH.cons (o := _) rfl (fun K hK => ?_) (AllReadyH.cons (o := _) rfl (fun K hK => ?_) AllReadyH.nil)
      ·go_simp
       have hB := OneB.new (c := codeOf kk) hI.row rfl
       have hI := hI.on (Step.alloc (.cells #[.int .u8 ((codeOf kk).toNat : Int)] 5)) hz8
       refine hK.out _ _ ?_ (fun hHeld => ?_)
       ·exact ⟨hI.cell hfbw x0, hI.cell hfbw x1⟩
       clear hK K
       refine wpAnyH_ready (rs := [9, 16]) (by kernel_rfl) (by simp) ?_
       refine AllReadyH.cons (o := _) rfl (fun K hK => ?_) (AllReadyH.cons (o := _) rfl (fun K hK => ?_) AllReadyH.nil)
       ·refine wp_put_src (.tmp 56) (.tmp 64) (by rfl) (by rfl) hI.row [codeOf kk] (by first | rfl | (rw [alloc_size]; rfl)) hB.src (by simp only [List.length_append, List.length_cons, List.length_nil]; omega) ?_
        intro ad9 N9 c9 W9 hr9 hg9
        have hI := hI.grew hr9 hg9 hz8
        refine hK.out _ _ ?_ (fun hHeld => ?_)
        ·exact ⟨hI.cell hfbw x0, hI.cell hfbw x1⟩
        clear hK K
        refine wpAnyH_ready (rs := [15, 16]) (by kernel_rfl) (by simp) ?_
        refine AllReadyH.cons (o := _) rfl (fun K hK => ?_) (AllReadyH.cons (o := _) rfl (fun K hK => ?_) AllReadyH.nil)
        ·refine wp_put_str (.tmp 65) (.tmp 70) (by rfl) (by rfl) hI.row f[t].1 (by rw [← hN1H.out]; rfl) (by simp only [List.length_append, List.length_cons, List.length_nil]; omega) ?_
         intro ad15 N15 c15 W15 hr15 hg15
         have hI := hI.grew hr15 hg15 hz8
         refine hK.out _ _ ?_ (fun hHeld => ?_)
         ·exact ⟨hI.cell hfbw x0, hI.cell hfbw x1⟩
         clear hK K
         refine wpAnyH_ready (rs := [16]) (by kernel_rfl) (by simp) ?_
         refine AllReadyH.cons (o := _) rfl (fun K hK => ?_) AllReadyH.nil
         go_simp
         have hZ := OneB.new (z := 0) (c := 0) hI.row rfl
         have hI := hI.on (Step.alloc (.cells #[.int .u8 0] 5)) hz8
         refine hK.out _ _ ?_ (fun hHeld => ?_)
         ·exact ⟨hI.cell hfbw x0, hI.cell hfbw x1⟩
         clear hK K
         refine wpAnyH_ready (rs := [17]) (by kernel_rfl) (by simp) ?_
         refine AllReadyH.cons (o := _) rfl (fun K hK => ?_) AllReadyH.nil
         refine wp_put_src (.tmp 71) (.tmp 72) (by rfl) (by rfl) hI.row [0] (by first | rfl | (rw [alloc_size]; rfl)) hZ.src (by simp only [List.length_append, List.length_cons, List.length_nil]; omega) ?_
         intro ad17 N17 c17 W17 hr17 hg17
         have hI := hI.grew hr17 hg17 hz8
         refine hK.out _ _ ?_ (fun hHeld => ?_)
         ·exact ⟨hI.cell hfbw x0, hI.cell hfbw x1⟩
         clear hK K
         refine wpAnyH_ready (rs := [19]) (by kernel_rfl) (by simp) ?_
         refine AllReadyH.cons (o := _) rfl (fun K hK => ?_) AllReadyH.nil
         refine wp_put_src (.tmp 73) (.tmp 74) (by rfl) (by rfl) hI.row (encV f[t].2) (by rfl) (bin_src (hxB.keep (fun _ h => h) (fun k hP hk => hI.keep k hP.1))) (by simp only [List.length_append, List.length_cons, List.length_nil]; omega) ?_
         intro ad19 N19 c19 W19 hr19 hg19
         have hI := hI.grew hr19 hg19 hz8
         refine hK.out _ _ ?_ (fun hHeld => ?_)
         ·exact ⟨hI.cell hfbw x0, hI.cell hfbw x1⟩
         clear hK K
         refine tkH 20 ?_ rfl (by kernel_rfl) (fun _ _ _ h => h) ?_ hHeld ?_
         rotate_left
         ·intro w' hSw; (try dsimp only at hSw); go_simp
          all_goals (with_reducible rfl)
         simp only [zP, zO, zA, zB, zC, zD, zE, zF]
         refine wpAnyH_done (by kernel_rfl) ?_ _
         have hN := hI.row.len
         have hIH := Lib.hid hI
         clear hI z0 z1 x0 x1
         have hNe : N19 = (encFs (f.take (t + 1))).length + 4 := by rw [hN, encFs_take f t hjf]; simp only [List.length_append, List.length_cons, List.length_nil]; omega
         have hNH := Lib.hid hNe
         clear hN hNe
         by_cases hle : N19 ≤ 65536
         ·have hle1 : ¬ (65536 : Int) < (N19 : Int) := by omega
          go_wp2_with fail
          go_roundw
          case rel =>
           refine ⟨t + 1, N19, ad19, c19, by go_num, by omega, rfl, ?_, fun k hk => (hIH.out.own k hk).1, ⟨?_, by have := hNH.out; omega⟩, hIH.out.step⟩
           ·have h := hIH.out.row
            rw [encFs_take f t hjf, ← hkkH.out]
            simpa [List.append_assoc] using h
           ·have h0 : f[t].1 ∉ (f.take t).map (·.1) := by
             intro hm
             rw [List.mem_map] at hm
             obtain ⟨p, hp, he⟩ := hm
             obtain ⟨s, hs, rfl⟩ := List.mem_take_iff_getElem.1 hp
             exact htsH.out s (by omega) (by omega) he
            rw [okFs_take hjf, hokH.out.1, ← hr2H.out, hxo.out]
            simp only [Bool.true_and, Bool.and_true, decide_eq_true_eq]
            exact h0
          case measure => simp [intOf]; omega
         ·have hle1 : (65536 : Int) < (N19 : Int) := by omega
          have hno := okFq_long (d := d) (f := f) (j := t + 1) (by have := hNH.out; omega)
          have hnoH := Lib.hid hno
          clear hno
          go_wp2_with fail
          exact bodyPost_ret (v := .tuple #[.slice none 0 0, .bool false]) (by kernel_rfl) rfl ⟨none, 0, 0, by rw [hnoH.out], fun h => absurd h (by rw [hnoH.out]; simp), hIH.out.step⟩
        ·go_simp
         have hZ := OneB.new (z := 0) (c := 0) hI.row rfl
         have hI := hI.on (Step.alloc (.cells #[.int .u8 0] 5)) hz8
         refine hK.out _ _ ?_ (fun hHeld => ?_)
         ·exact ⟨hI.cell hfbw x0, hI.cell hfbw x1⟩
         clear hK K
         refine wpAnyH_ready (rs := [15]) (by kernel_rfl) (by simp) ?_
         refine AllReadyH.cons (o := _) rfl (fun K hK => ?_) AllReadyH.nil
         refine wp_put_str (.tmp 65) (.tmp 70) (by rfl) (by rfl) hI.row f[t].1 (by rw [← hN1H.out]; rfl) (by simp only [List.length_append, List.length_cons, List.length_nil]; omega) ?_
         intro ad15 N15 c15 W15 hr15 hg15
         have hI := hI.grew hr15 hg15 hz8
         refine hK.out _ _ ?_ (fun hHeld => ?_)
         ·exact ⟨hI.cell hfbw x0, hI.cell hfbw x1⟩
         clear hK K
         have hZ := hZ.grew hg15
         refine wpAnyH_ready (rs := [17]) (by kernel_rfl) (by simp) ?_
         refine AllReadyH.cons (o := _) rfl (fun K hK => ?_) AllReadyH.nil
         refine wp_put_src (.tmp 71) (.tmp 72) (by rfl) (by rfl) hI.row [0] (by first | rfl | (rw [alloc_size]; rfl)) hZ.src (by simp only [List.length_append, List.length_cons, List.length_nil]; omega) ?_
         intro ad17 N17 c17 W17 hr17 hg17
         have hI := hI.grew hr17 hg17 hz8
         refine hK.out _ _ ?_ (fun hHeld => ?_)
         ·exact ⟨hI.cell hfbw x0, hI.cell hfbw x1⟩
         clear hK K
         refine wpAnyH_ready (rs := [19]) (by kernel_rfl) (by simp) ?_
         refine AllReadyH.cons (o := _) rfl (fun K hK => ?_) AllReadyH.nil
         refine wp_put_src (.tmp 73) (.tmp 74) (by rfl) (by rfl) hI.row (encV f[t].2) (by rfl) (bin_src (hxB.keep (fun _ h => h) (fun k hP hk => hI.keep k hP.1))) (by simp only [List.length_append, List.length_cons, List.length_nil]; omega) ?_
         intro ad19 N19 c19 W19 hr19 hg19
         have hI := hI.grew hr19 hg19 hz8
         refine hK.out _ _ ?_ (fun hHeld => ?_)
         ·exact ⟨hI.cell hfbw x0, hI.cell hfbw x1⟩
         clear hK K
         refine tkH 20 ?_ rfl (by kernel_rfl) (fun _ _ _ h => h) ?_ hHeld ?_
         rotate_left
         ·intro w' hSw; (try dsimp only at hSw); go_simp
          all_goals (with_reducible rfl)
         simp only [zP, zO, zA, zB, zC, zD, zE, zF]
         refine wpAnyH_done (by kernel_rfl) ?_ _
         have hN := hI.row.len
         have hIH := Lib.hid hI
         clear hI z0 z1 x0 x1
         have hNe : N19 = (encFs (f.take (t + 1))).length + 4 := by rw [hN, encFs_take f t hjf]; simp only [List.length_append, List.length_cons, List.length_nil]; omega
         have hNH := Lib.hid hNe
         clear hN hNe
         by_cases hle : N19 ≤ 65536
         ·have hle1 : ¬ (65536 : Int) < (N19 : Int) := by omega
          go_wp2_with fail
          go_roundw
          case rel =>
           refine ⟨t + 1, N19, ad19, c19, by go_num, by omega, rfl, ?_, fun k hk => (hIH.out.own k hk).1, ⟨?_, by have := hNH.out; omega⟩, hIH.out.step⟩
           ·have h := hIH.out.row
            rw [encFs_take f t hjf, ← hkkH.out]
            simpa [List.append_assoc] using h
           ·have h0 : f[t].1 ∉ (f.take t).map (·.1) := by
             intro hm
             rw [List.mem_map] at hm
             obtain ⟨p, hp, he⟩ := hm
             obtain ⟨s, hs, rfl⟩ := List.mem_take_iff_getElem.1 hp
             exact htsH.out s (by omega) (by omega) he
            rw [okFs_take hjf, hokH.out.1, ← hr2H.out, hxo.out]
            simp only [Bool.true_and, Bool.and_true, decide_eq_true_eq]
            exact h0
          case measure => simp [intOf]; omega
         ·have hle1 : (65536 : Int) < (N19 : Int) := by omega
          have hno := okFq_long (d := d) (f := f) (j := t + 1) (by have := hNH.out; omega)
          have hnoH := Lib.hid hno
          clear hno
          go_wp2_with fail
          exact bodyPost_ret (v := .tuple #[.slice none 0 0, .bool false]) (by kernel_rfl) rfl ⟨none, 0, 0, by rw [hnoH.out], fun h => absurd h (by rw [hnoH.out]; simp), hIH.out.step⟩
       ·go_simp
        have hZ := OneB.new (z := 0) (c := 0) hI.row rfl
        have hI := hI.on (Step.alloc (.cells #[.int .u8 0] 5)) hz8
        refine hK.out _ _ ?_ (fun hHeld => ?_)
        ·exact ⟨hI.cell hfbw x0, hI.cell hfbw x1⟩
        clear hK K
        have hB := hB.on (Step.alloc (.cells #[.int .u8 0] 5))
        refine wpAnyH_ready (rs := [9]) (by kernel_rfl) (by simp) ?_
        refine AllReadyH.cons (o := _) rfl (fun K hK => ?_) AllReadyH.nil
        refine wp_put_src (.tmp 56) (.tmp 64) (by rfl) (by rfl) hI.row [codeOf kk] (by first | rfl | (rw [alloc_size]; rfl)) hB.src (by simp only [List.length_append, List.length_cons, List.length_nil]; omega) ?_
        intro ad9 N9 c9 W9 hr9 hg9
        have hI := hI.grew hr9 hg9 hz8
        refine hK.out _ _ ?_ (fun hHeld => ?_)
        ·exact ⟨hI.cell hfbw x0, hI.cell hfbw x1⟩
        clear hK K
        have hZ := hZ.grew hg9
        refine wpAnyH_ready (rs := [15]) (by kernel_rfl) (by simp) ?_
        refine AllReadyH.cons (o := _) rfl (fun K hK => ?_) AllReadyH.nil
        refine wp_put_str (.tmp 65) (.tmp 70) (by rfl) (by rfl) hI.row f[t].1 (by rw [← hN1H.out]; rfl) (by simp only [List.length_append, List.length_cons, List.length_nil]; omega) ?_
        intro ad15 N15 c15 W15 hr15 hg15
        have hI := hI.grew hr15 hg15 hz8
        refine hK.out _ _ ?_ (fun hHeld => ?_)
        ·exact ⟨hI.cell hfbw x0, hI.cell hfbw x1⟩
        clear hK K
        have hZ := hZ.grew hg15
        refine wpAnyH_ready (rs := [17]) (by kernel_rfl) (by simp) ?_
        refine AllReadyH.cons (o := _) rfl (fun K hK => ?_) AllReadyH.nil
        refine wp_put_src (.tmp 71) (.tmp 72) (by rfl) (by rfl) hI.row [0] (by first | rfl | (rw [alloc_size]; rfl)) hZ.src (by simp only [List.length_append, List.length_cons, List.length_nil]; omega) ?_
        intro ad17 N17 c17 W17 hr17 hg17
        have hI := hI.grew hr17 hg17 hz8
        refine hK.out _ _ ?_ (fun hHeld => ?_)
        ·exact ⟨hI.cell hfbw x0, hI.cell hfbw x1⟩
        clear hK K
        refine wpAnyH_ready (rs := [19]) (by kernel_rfl) (by simp) ?_
        refine AllReadyH.cons (o := _) rfl (fun K hK => ?_) AllReadyH.nil
        refine wp_put_src (.tmp 73) (.tmp 74) (by rfl) (by rfl) hI.row (encV f[t].2) (by rfl) (bin_src (hxB.keep (fun _ h => h) (fun k hP hk => hI.keep k hP.1))) (by simp only [List.length_append, List.length_cons, List.length_nil]; omega) ?_
        intro ad19 N19 c19 W19 hr19 hg19
        have hI := hI.grew hr19 hg19 hz8
        refine hK.out _ _ ?_ (fun hHeld => ?_)
        ·exact ⟨hI.cell hfbw x0, hI.cell hfbw x1⟩
        clear hK K
        refine tkH 20 ?_ rfl (by kernel_rfl) (fun _ _ _ h => h) ?_ hHeld ?_
        rotate_left
        ·intro w' hSw; (try dsimp only at hSw); go_simp
         all_goals (with_reducible rfl)
        simp only [zP, zO, zA, zB, zC, zD, zE, zF]
        refine wpAnyH_done (by kernel_rfl) ?_ _
        have hN := hI.row.len
        have hIH := Lib.hid hI
        clear hI z0 z1 x0 x1
        have hNe : N19 = (encFs (f.take (t + 1))).length + 4 := by rw [hN, encFs_take f t hjf]; simp only [List.length_append, List.length_cons, List.length_nil]; omega
        have hNH := Lib.hid hNe
        clear hN hNe
        by_cases hle : N19 ≤ 65536
        ·have hle1 : ¬ (65536 : Int) < (N19 : Int) := by omega
         go_wp2_with fail
         go_roundw
         case rel =>
          refine ⟨t + 1, N19, ad19, c19, by go_num, by omega, rfl, ?_, fun k hk => (hIH.out.own k hk).1, ⟨?_, by have := hNH.out; omega⟩, hIH.out.step⟩
          ·have h := hIH.out.row
           rw [encFs_take f t hjf, ← hkkH.out]
           simpa [List.append_assoc] using h
          ·have h0 : f[t].1 ∉ (f.take t).map (·.1) := by
            intro hm
            rw [List.mem_map] at hm
            obtain ⟨p, hp, he⟩ := hm
            obtain ⟨s, hs, rfl⟩ := List.mem_take_iff_getElem.1 hp
            exact htsH.out s (by omega) (by omega) he
           rw [okFs_take hjf, hokH.out.1, ← hr2H.out, hxo.out]
           simp only [Bool.true_and, Bool.and_true, decide_eq_true_eq]
           exact h0
         case measure => simp [intOf]; omega
        ·have hle1 : (65536 : Int) < (N19 : Int) := by omega
         have hno := okFq_long (d := d) (f := f) (j := t + 1) (by have := hNH.out; omega)
         have hnoH := Lib.hid hno
         clear hno
         go_wp2_with fail
         exact bodyPost_ret (v := .tuple #[.slice none 0 0, .bool false]) (by kernel_rfl) rfl ⟨none, 0, 0, by rw [hnoH.out], fun h => absurd h (by rw [hnoH.out]; simp), hIH.out.step⟩
      ·go_simp
       have hZ := OneB.new (z := 0) (c := 0) hI.row rfl
       have hI := hI.on (Step.alloc (.cells #[.int .u8 0] 5)) hz8
       refine hK.out _ _ ?_ (fun hHeld => ?_)
       ·exact ⟨hI.cell hfbw x0, hI.cell hfbw x1⟩
       clear hK K
       refine wpAnyH_ready (rs := [8]) (by kernel_rfl) (by simp) ?_
       refine AllReadyH.cons (o := _) rfl (fun K hK => ?_) AllReadyH.nil
       go_simp
       have hB := OneB.new (c := codeOf kk) hI.row rfl
       have hI := hI.on (Step.alloc (.cells #[.int .u8 ((codeOf kk).toNat : Int)] 5)) hz8
       refine hK.out _ _ ?_ (fun hHeld => ?_)
       ·exact ⟨hI.cell hfbw x0, hI.cell hfbw x1⟩
       clear hK K
       have hZ := hZ.on (Step.alloc (.cells #[.int .u8 ((codeOf kk).toNat : Int)] 5))
       refine wpAnyH_ready (rs := [9]) (by kernel_rfl) (by simp) ?_
       refine AllReadyH.cons (o := _) rfl (fun K hK => ?_) AllReadyH.nil
       refine wp_put_src (.tmp 56) (.tmp 64) (by rfl) (by rfl) hI.row [codeOf kk] (by first | rfl | (rw [alloc_size]; rfl)) hB.src (by simp only [List.length_append, List.length_cons, List.length_nil]; omega) ?_
       intro ad9 N9 c9 W9 hr9 hg9
       have hI := hI.grew hr9 hg9 hz8
       refine hK.out _ _ ?_ (fun hHeld => ?_)
       ·exact ⟨hI.cell hfbw x0, hI.cell hfbw x1⟩
       clear hK K
       have hZ := hZ.grew hg9
       refine wpAnyH_ready (rs := [15]) (by kernel_rfl) (by simp) ?_
       refine AllReadyH.cons (o := _) rfl (fun K hK => ?_) AllReadyH.nil
       refine wp_put_str (.tmp 65) (.tmp 70) (by rfl) (by rfl) hI.row f[t].1 (by rw [← hN1H.out]; rfl) (by simp only [List.length_append, List.length_cons, List.length_nil]; omega) ?_
       intro ad15 N15 c15 W15 hr15 hg15
       have hI := hI.grew hr15 hg15 hz8
       refine hK.out _ _ ?_ (fun hHeld => ?_)
       ·exact ⟨hI.cell hfbw x0, hI.cell hfbw x1⟩
       clear hK K
       have hZ := hZ.grew hg15
       refine wpAnyH_ready (rs := [17]) (by kernel_rfl) (by simp) ?_
       refine AllReadyH.cons (o := _) rfl (fun K hK => ?_) AllReadyH.nil
       refine wp_put_src (.tmp 71) (.tmp 72) (by rfl) (by rfl) hI.row [0] (by first | rfl | (rw [alloc_size]; rfl)) hZ.src (by simp only [List.length_append, List.length_cons, List.length_nil]; omega) ?_
       intro ad17 N17 c17 W17 hr17 hg17
       have hI := hI.grew hr17 hg17 hz8
       refine hK.out _ _ ?_ (fun hHeld => ?_)
       ·exact ⟨hI.cell hfbw x0, hI.cell hfbw x1⟩
       clear hK K
       refine wpAnyH_ready (rs := [19]) (by kernel_rfl) (by simp) ?_
       refine AllReadyH.cons (o := _) rfl (fun K hK => ?_) AllReadyH.nil
       refine wp_put_src (.tmp 73) (.tmp 74) (by rfl) (by rfl) hI.row (encV f[t].2) (by rfl) (bin_src (hxB.keep (fun _ h => h) (fun k hP hk => hI.keep k hP.1))) (by simp only [List.length_append, List.length_cons, List.length_nil]; omega) ?_
       intro ad19 N19 c19 W19 hr19 hg19
       have hI := hI.grew hr19 hg19 hz8
       refine hK.out _ _ ?_ (fun hHeld => ?_)
       ·exact ⟨hI.cell hfbw x0, hI.cell hfbw x1⟩
       clear hK K
       refine tkH 20 ?_ rfl (by kernel_rfl) (fun _ _ _ h => h) ?_ hHeld ?_
       rotate_left
       ·intro w' hSw; (try dsimp only at hSw); go_simp
        all_goals (with_reducible rfl)
       simp only [zP, zO, zA, zB, zC, zD, zE, zF]
       refine wpAnyH_done (by kernel_rfl) ?_ _
       have hN := hI.row.len
       have hIH := Lib.hid hI
       clear hI z0 z1 x0 x1
       have hNe : N19 = (encFs (f.take (t + 1))).length + 4 := by rw [hN, encFs_take f t hjf]; simp only [List.length_append, List.length_cons, List.length_nil]; omega
       have hNH := Lib.hid hNe
       clear hN hNe
       by_cases hle : N19 ≤ 65536
       ·have hle1 : ¬ (65536 : Int) < (N19 : Int) := by omega
        go_wp2_with fail
        go_roundw
        case rel =>
         refine ⟨t + 1, N19, ad19, c19, by go_num, by omega, rfl, ?_, fun k hk => (hIH.out.own k hk).1, ⟨?_, by have := hNH.out; omega⟩, hIH.out.step⟩
         ·have h := hIH.out.row
          rw [encFs_take f t hjf, ← hkkH.out]
          simpa [List.append_assoc] using h
         ·have h0 : f[t].1 ∉ (f.take t).map (·.1) := by
           intro hm
           rw [List.mem_map] at hm
           obtain ⟨p, hp, he⟩ := hm
           obtain ⟨s, hs, rfl⟩ := List.mem_take_iff_getElem.1 hp
           exact htsH.out s (by omega) (by omega) he
          rw [okFs_take hjf, hokH.out.1, ← hr2H.out, hxo.out]
          simp only [Bool.true_and, Bool.and_true, decide_eq_true_eq]
          exact h0
        case measure => simp [intOf]; omega
       ·have hle1 : (65536 : Int) < (N19 : Int) := by omega
        have hno := okFq_long (d := d) (f := f) (j := t + 1) (by have := hNH.out; omega)
        have hnoH := Lib.hid hno
        clear hno
        go_wp2_with fail
        exact bodyPost_ret (v := .tuple #[.slice none 0 0, .bool false]) (by kernel_rfl) rfl ⟨none, 0, 0, by rw [hnoH.out], fun h => absurd h (by rw [hnoH.out]; simp), hIH.out.step⟩
     ·go_simp
      have hZ := OneB.new (z := 0) (c := 0) hI.row rfl
      have hI := hI.on (Step.alloc (.cells #[.int .u8 0] 5)) hz8
      refine hK.out _ _ ?_ (fun hHeld => ?_)
      ·exact ⟨hI.cell hfbw x0, hI.cell hfbw x1⟩
      clear hK K
      refine wpAnyH_ready (rs := [7]) (by kernel_rfl) (by simp) ?_
      refine AllReadyH.cons (o := _) rfl (fun K hK => ?_) AllReadyH.nil
      go_simp
      refine (ref_code kk _).mono ?_
      rintro e w' ⟨rfl, rfl⟩
      go_wp2_with fail
      refine hK.out _ _ ?_ (fun hHeld => ?_)
      ·exact ⟨hI.cell hfbw x0, hI.cell hfbw x1⟩
      clear hK K
      refine wpAnyH_ready (rs := [8]) (by kernel_rfl) (by simp) ?_
      refine AllReadyH.cons (o := _) rfl (fun K hK => ?_) AllReadyH.nil
      go_simp
      have hB := OneB.new (c := codeOf kk) hI.row rfl
      have hI := hI.on (Step.alloc (.cells #[.int .u8 ((codeOf kk).toNat : Int)] 5)) hz8
      refine hK.out _ _ ?_ (fun hHeld => ?_)
      ·exact ⟨hI.cell hfbw x0, hI.cell hfbw x1⟩
      clear hK K
      have hZ := hZ.on (Step.alloc (.cells #[.int .u8 ((codeOf kk).toNat : Int)] 5))
      refine wpAnyH_ready (rs := [9]) (by kernel_rfl) (by simp) ?_
      refine AllReadyH.cons (o := _) rfl (fun K hK => ?_) AllReadyH.nil
      refine wp_put_src (.tmp 56) (.tmp 64) (by rfl) (by rfl) hI.row [codeOf kk] (by first | rfl | (rw [alloc_size]; rfl)) hB.src (by simp only [List.length_append, List.length_cons, List.length_nil]; omega) ?_
      intro ad9 N9 c9 W9 hr9 hg9
      have hI := hI.grew hr9 hg9 hz8
      refine hK.out _ _ ?_ (fun hHeld => ?_)
      ·exact ⟨hI.cell hfbw x0, hI.cell hfbw x1⟩
      clear hK K
      have hZ := hZ.grew hg9
      refine wpAnyH_ready (rs := [15]) (by kernel_rfl) (by simp) ?_
      refine AllReadyH.cons (o := _) rfl (fun K hK => ?_) AllReadyH.nil
      refine wp_put_str (.tmp 65) (.tmp 70) (by rfl) (by rfl) hI.row f[t].1 (by rw [← hN1H.out]; rfl) (by simp only [List.length_append, List.length_cons, List.length_nil]; omega) ?_
      intro ad15 N15 c15 W15 hr15 hg15
      have hI := hI.grew hr15 hg15 hz8
      refine hK.out _ _ ?_ (fun hHeld => ?_)
      ·exact ⟨hI.cell hfbw x0, hI.cell hfbw x1⟩
      clear hK K
      have hZ := hZ.grew hg15
      refine wpAnyH_ready (rs := [17]) (by kernel_rfl) (by simp) ?_
      refine AllReadyH.cons (o := _) rfl (fun K hK => ?_) AllReadyH.nil
      refine wp_put_src (.tmp 71) (.tmp 72) (by rfl) (by rfl) hI.row [0] (by first | rfl | (rw [alloc_size]; rfl)) hZ.src (by simp only [List.length_append, List.length_cons, List.length_nil]; omega) ?_
      intro ad17 N17 c17 W17 hr17 hg17
      have hI := hI.grew hr17 hg17 hz8
      refine hK.out _ _ ?_ (fun hHeld => ?_)
      ·exact ⟨hI.cell hfbw x0, hI.cell hfbw x1⟩
      clear hK K
      refine wpAnyH_ready (rs := [19]) (by kernel_rfl) (by simp) ?_
      refine AllReadyH.cons (o := _) rfl (fun K hK => ?_) AllReadyH.nil
      refine wp_put_src (.tmp 73) (.tmp 74) (by rfl) (by rfl) hI.row (encV f[t].2) (by rfl) (bin_src (hxB.keep (fun _ h => h) (fun k hP hk => hI.keep k hP.1))) (by simp only [List.length_append, List.length_cons, List.length_nil]; omega) ?_
      intro ad19 N19 c19 W19 hr19 hg19
      have hI := hI.grew hr19 hg19 hz8
      refine hK.out _ _ ?_ (fun hHeld => ?_)
      ·exact ⟨hI.cell hfbw x0, hI.cell hfbw x1⟩
      clear hK K
      refine tkH 20 ?_ rfl (by kernel_rfl) (fun _ _ _ h => h) ?_ hHeld ?_
      rotate_left
      ·intro w' hSw; (try dsimp only at hSw); go_simp
       all_goals (with_reducible rfl)
      simp only [zP, zO, zA, zB, zC, zD, zE, zF]
      refine wpAnyH_done (by kernel_rfl) ?_ _
      have hN := hI.row.len
      have hIH := Lib.hid hI
      clear hI z0 z1 x0 x1
      have hNe : N19 = (encFs (f.take (t + 1))).length + 4 := by rw [hN, encFs_take f t hjf]; simp only [List.length_append, List.length_cons, List.length_nil]; omega
      have hNH := Lib.hid hNe
      clear hN hNe
      by_cases hle : N19 ≤ 65536
      ·have hle1 : ¬ (65536 : Int) < (N19 : Int) := by omega
       go_wp2_with fail
       go_roundw
       case rel =>
        refine ⟨t + 1, N19, ad19, c19, by go_num, by omega, rfl, ?_, fun k hk => (hIH.out.own k hk).1, ⟨?_, by have := hNH.out; omega⟩, hIH.out.step⟩
        ·have h := hIH.out.row
         rw [encFs_take f t hjf, ← hkkH.out]
         simpa [List.append_assoc] using h
        ·have h0 : f[t].1 ∉ (f.take t).map (·.1) := by
          intro hm
          rw [List.mem_map] at hm
          obtain ⟨p, hp, he⟩ := hm
          obtain ⟨s, hs, rfl⟩ := List.mem_take_iff_getElem.1 hp
          exact htsH.out s (by omega) (by omega) he
         rw [okFs_take hjf, hokH.out.1, ← hr2H.out, hxo.out]
         simp only [Bool.true_and, Bool.and_true, decide_eq_true_eq]
         exact h0
       case measure => simp [intOf]; omega
      ·have hle1 : (65536 : Int) < (N19 : Int) := by omega
       have hno := okFq_long (d := d) (f := f) (j := t + 1) (by have := hNH.out; omega)
       have hnoH := Lib.hid hno
       clear hno
       go_wp2_with fail
       exact bodyPost_ret (v := .tuple #[.slice none 0 0, .bool false]) (by kernel_rfl) rfl ⟨none, 0, 0, by rw [hnoH.out], fun h => absurd h (by rw [hnoH.out]; simp), hIH.out.step⟩
  ·have hjl1 : ¬ (j : Int) < (fn : Int) := by omega
   obtain rfl : j = fn := by omega
   have htk : f.take j = f := List.take_of_length_le (by rw [← hfnH.out]; exact Nat.le_refl _)
   rw [htk] at hrow hok
   obtain ⟨g, hoa⟩ : ∃ g, oa = some ⟨g, 0, none⟩ := by
    rcases hrow.2 with ⟨e, h0⟩ | ⟨g, cap, cur, e, -⟩
    ·simp at h0
    ·injection e with e1 _ _; exact ⟨g, e1⟩
   subst hoa
   have hlen : (encFs f).length + 4 ≤ 65536 := hok.2
   obtain ⟨L0, hL0⟩ : ∃ L, L = [0, 0, 0, 0] ++ encFs f := ⟨_, rfl⟩
   rw [← hL0] at hrow
   have hl0 : L0.length = (encFs f).length + 4 := by rw [hL0]; first | (simp; done) | (simp; omega)
   have hb : L0.length + 1 ≤ 1000000000 := by omega
   have hrowH := Lib.hid hrow
   have hnewH := Lib.hid hnew
   have hokH := Lib.hid hok
   have hstH := Lib.hid hst
   have hl0H := Lib.hid hl0
   have hL0H := Lib.hid hL0
   clear hrow hnew hok hst hl0 hL0 htk
   go_wp2_with (at_builtin; refine wpList_put_byte rfl _ _ rfl (by rfl) hrowH.out 0 (by rfl) rfl rfl hb ?_; intro ad2 N2 c2 w2 hr2 hg2; have hN2 := hr2.len; have hN2b : N2 ≤ 65537 := (by rw [hN2, List.length_append, hl0H.out]; simp; omega); have hN2H := Lib.hid hN2; have hr2H := Lib.hid hr2; have hg2H := Lib.hid hg2; clear hr2 hg2 hN2)
   refine (ref_num (N2 : Int) 4 w2 (by omega) (by omega)).mono ?_
   rintro e w3 ⟨nv, rfl, hr3, hs3, hn3⟩
   obtain ⟨na, nn, nc, rfl, hnn⟩ := hr3.shapeN
   rw [layI_length] at hnn
   obtain ⟨nb, hna⟩ : ∃ nb, na = some ⟨nb, 0, none⟩ := by
    rcases hr3.2 with ⟨e, h0⟩ | ⟨g, cap, cur, e, -⟩
    ·rw [layI_length] at h0; omega
    ·injection e with e1 _ _; exact ⟨g, e1⟩
   subst hna hnn
   obtain ⟨g2, had⟩ : ∃ g2, ad2 = some ⟨g2, 0, none⟩ := by
    rcases hr2H.out.2 with ⟨e, h0⟩ | ⟨g, cap, cur, e, -⟩
    ·simp at h0
    ·injection e with e1 _ _; exact ⟨g, e1⟩
   subst had
   have hrow3 : Row w3 (.slice (some ⟨g2, 0, none⟩) N2 c2) (L0 ++ [0]) := ownsRow_step hr2H.out hs3 (fun k _ => by simp)
   have hsrc3 := hr3.bytes.src
   rw [show ((layI 4 (N2 : Int)).length) = 4 from layI_length _ _] at hsrc3
   have hd4 : (layI 4 (N2 : Int)).length = 4 := layI_length _ _
   have h4 : 4 ≤ (L0 ++ [0]).length := by rw [List.length_append, hl0H.out]; first | (simp; done) | (simp; omega)
   have hs3H := Lib.hid hs3
   have hd4H := Lib.hid hd4
   have hsrc3H := Lib.hid (show Src w3 1 (.slice (some ⟨nb, 0, none⟩) 4 nc) (layI 4 (N2 : Int)).length (byteVals (layI 4 (N2 : Int))) by rw [hd4]; exact hsrc3)
   have hrow3H := Lib.hid hrow3
   clear hr3 hs3 hn3 hsrc3 hrow3 hd4
   go_wp2_with ((with_reducible refine wpList_copy_front (o := ⟨some 86, _, _, _, _, _⟩) ?_ (.tmp 82) (.tmp 85) ?_ g2 N2 c2 ?_ ⟨nb, 0, none⟩ 4 nc ?_ (L0 ++ [0]) (layI 4 (N2 : Int)) hrow3H.out hsrc3H.out hd4H.out.symm (by rw [hd4H.out]; exact h4) ?_); rfl; rfl; rfl; rfl; intro w4 hr4 hg4; have hr4H := Lib.hid hr4; have hg4H := Lib.hid hg4; clear hr4 hg4)
   go_ret2
   have hdr : (L0 ++ [0]).drop (layI 4 (N2 : Int)).length = encFs f ++ [0] := by
    rw [hd4H.out, hL0H.out]; simp
   have hNN : (N2 : Int) = ((encFs f).length + 5 : Nat) := by
    have h1 := hN2H.out
    rw [List.length_append, hl0H.out] at h1
    simp only [List.length_cons, List.length_nil] at h1
    omega
   have hown2 : w.heap.size ≤ g2 := by
    rcases hg2H.out.own g2 rfl with h | h
    ·exact hnewH.out _ h
    ·have := hstH.out.size; omega
   have hsw2 : Step [] id id w w2 := hstH.out.tailNew (.grown (T := (Value.slice (some ⟨g, 0, none⟩) n oc).ownBlock.toList) hg2H.out.grown (fun k hk => by simp [hk])) (fun r hr => .inr (hnewH.out r (by simpa using hr)))
   have hfq : okFq d f = decide ((N2 : Int) ≤ 65536) := by
    unfold okFq
    rw [hokH.out.1, Bool.true_and]
    exact decide_eq_decide.2 (by omega)
   refine ⟨some ⟨g2, 0, none⟩, N2, c2, by rw [hfq]; rfl, fun _ => ⟨?_, fun k hk => by cases hk; exact hown2⟩, (hsw2.tail hs3H.out).tailNew (.grown (T := [g2]) hg4H.out (fun k hk => by cases hk; simp)) (fun r hr => .inr (by rw [List.mem_singleton] at hr; omega))⟩
   have h := hr4H.out
   rw [hdr, hNN] at h
   exact h
theorem okQ_of {P : Nat → Prop} {x : Val} {d : Nat} {w w' : World} {e : Ending} (h : weightV x ≤ 3001) (hP : OwnP P x d w e w') : OwnQ P x d w e w' := by
 obtain ⟨ba, bn, bc, he, h1, h2⟩ := hP
 exact ⟨ba, bn, bc, by rw [okQ_small h]; exact he, by rw [okQ_small h]; exact h1, h2⟩
theorem okQ_to {P : Nat → Prop} {x : Val} {d : Nat} {w w' : World} {e : Ending} (h : weightV x ≤ 3001) (hP : OwnQ P x d w e w') : OwnP P x d w e w' := by
 obtain ⟨ba, bn, bc, he, h1, h2⟩ := hP
 rw [okQ_small h] at he h1
 exact ⟨ba, bn, bc, he, h1, h2⟩
theorem OwnC.q {N : Nat} (ih : OwnC N) {x : Val} {d : Nat} (hs : SizeOf.sizeOf x < N) (h : weightV x ≤ 3001) (hd : d ≤ 40) : OwnQC x d := fun P cs w hx => (ih P x cs w d hs h hd hx).mono fun _ _ hP => okQ_of h hP
end Go.Proofs.YtembpajlllnncaaGreatDoor
namespace Go.Proofs.YtembpajlllnncaaGreatDoor
open Go.RowKit

theorem cells_of6P {w : World} {V : Nat} {v0 v1 v2 v3 v4 v5 : Value} {t : TypeId} (h : w.heap[V]? = some (.cells #[v0, v1, v2, v3, v4, v5] t (0, 0))) :
  w.cell? ⟨V, 0, none⟩ = some v0 ∧ w.cell? ⟨V, 1, none⟩ = some v1 ∧ w.cell? ⟨V, 2, none⟩ = some v2 ∧ w.cell? ⟨V, 3, none⟩ = some v3 ∧ w.cell? ⟨V, 4, none⟩ = some v4 ∧ w.cell? ⟨V, 5, none⟩ = some v5 :=
 ⟨cell_blk h (i := 0) rfl, cell_blk h (i := 1) rfl, cell_blk h (i := 2) rfl, cell_blk h (i := 3) rfl, cell_blk h (i := 4) rfl, cell_blk h (i := 5) rfl⟩
/-- Values that have no bytes of their own. -/
theorem okV_bare {d : Nat} {k n : Int} {s b : Bs} {f : List (Bs × Val)} {l : List Val} (hk : k = 1 ∨ k = 2 ∨ k = 12) : okV d (.mk k n s b f l) = bareB (.mk k n s b f l) false false false false false ∧ encV (.mk k n s b f l) = [] := by
 rcases hk with rfl | rfl | rfl <;> (rw [okV, encV]; simp [Val.plain, bareB, codeOf])
set_option maxRecDepth 100000 in
set_option maxHeartbeats 4000000 in
theorem rown_none {P : Nat → Prop} {w : World} {d : Nat} {k n : Int} {s b : Bs} {f : List (Bs × Val)} {l : List Val} {cs : List Value} (hk : k = 1 ∨ k = 2 ∨ k = 12) (hx : VIs P w (.mk k n s b f l) cs) :
  Calls Tryz.prog 43 #[.agg cs.toArray, .int .i64 ((d : Int) + 1)] w (OwnP P (.mk k n s b f l) d w) := by
 obtain ⟨bv, fa, fc, la, lc, hcs, hb, ⟨hfc, hlc, hfz, hlz⟩, ⟨hk1, hk2, hn1, hn2⟩, -, hf, hl⟩ := hx.cells
 obtain ⟨ba, bc, rfl⟩ := hb.shape
 simp only [Val.kind, Val.num, Val.s, Val.b, Val.f, Val.l] at *
 obtain ⟨S0, hS0⟩ : ∃ k, k = strOf s := ⟨_, rfl⟩
 obtain ⟨bn, hbn⟩ : ∃ k, k = b.length := ⟨_, rfl⟩
 obtain ⟨ln, hln⟩ : ∃ k, k = l.length := ⟨_, rfl⟩
 obtain ⟨fn, hfn⟩ : ∃ k, k = f.length := ⟨_, rfl⟩
 rw [← hS0, ← hbn, ← hln, ← hfn] at hcs
 subst hcs
 obtain ⟨W1, hW1⟩ : ∃ W1, W1 = w.alloc (.cells #[.int .i64 k, .int .i64 n, .string S0, .slice ba bn bc, .slice fa fn fc, .slice la ln lc] 35) := ⟨_, rfl⟩
 have hst1 : Step [] id id w W1 := by rw [hW1]; exact Step.alloc _
 have hV : W1.heap[w.heap.size]? = some (.cells #[.int .i64 k, .int .i64 n, .string S0, .slice ba bn bc, .slice fa fn fc, .slice la ln lc] 35 (0, 0)) := by rw [hW1]; exact heap_alloc_new _ _
 have hx1 := hx.keep (P2 := P) (w' := W1) (fun _ h => h) (fun k hP hk => (hst1.keep k hk (by simp)).2)
 obtain ⟨v0, v1, v2, v3, v4, v5⟩ := cells_of6P hV
 have hVl : w.heap.size < W1.heap.size := lt_of_block hV
 have hVH := Lib.hid hV
 have hx1H := Lib.hid hx1
 have hW1H := Lib.hid hW1
 have hst1H := Lib.hid hst1
 have hS0H := Lib.hid hS0
 have hbnH := Lib.hid hbn
 have hlnH := Lib.hid hln
 have hfnH := Lib.hid hfn
 have hbH := Lib.hid hb
 have hfH := Lib.hid hf
 have hlH := Lib.hid hl
 clear hx hb hf hl hS0 hbn hln hfn hst1 hV hx1 hW1 hfc hlc hfz hlz hk1 hk2
 rcases hk with hk | hk | hk
 ·subst hk
  obtain ⟨he, hen⟩ := okV_bare (d := d) (n := n) (s := s) (b := b) (f := f) (l := l) (k := 1) (by simp)
  have hbc := Lib.hid (ref_bare_0 hx1H.out)
  have heH := Lib.hid he
  have henH := Lib.hid hen
  clear he hen
  go_enter Tryz.func43, Tryz.ntmps43
  go_wp2_with fail
  rw [← hW1H.out]
  refine hbc.out.mono ?_
  rintro e w2 ⟨rfl, hs2⟩
  have hs2H := Lib.hid hs2
  clear hs2
  go_wp2_with fail
  go_ret2
  exact ⟨none, 0, 0, by rw [heH.out]; rfl, fun _ => by rw [henH.out]; exact ⟨rfl, .inl ⟨none, 0, rfl, rfl, fun _ => rfl⟩⟩, hst1H.out.tail hs2H.out⟩
 ·subst hk
  obtain ⟨he, hen⟩ := okV_bare (d := d) (n := n) (s := s) (b := b) (f := f) (l := l) (k := 2) (by simp)
  have hbc := Lib.hid (ref_bare_0 hx1H.out)
  have heH := Lib.hid he
  have henH := Lib.hid hen
  clear he hen
  go_enter Tryz.func43, Tryz.ntmps43
  go_wp2_with fail
  rw [← hW1H.out]
  refine hbc.out.mono ?_
  rintro e w2 ⟨rfl, hs2⟩
  have hs2H := Lib.hid hs2
  clear hs2
  go_wp2_with fail
  go_ret2
  exact ⟨none, 0, 0, by rw [heH.out]; rfl, fun _ => by rw [henH.out]; exact ⟨rfl, .inl ⟨none, 0, rfl, rfl, fun _ => rfl⟩⟩, hst1H.out.tail hs2H.out⟩
 ·subst hk
  obtain ⟨he, hen⟩ := okV_bare (d := d) (n := n) (s := s) (b := b) (f := f) (l := l) (k := 12) (by simp)
  have hbc := Lib.hid (ref_bare_0 hx1H.out)
  have heH := Lib.hid he
  have henH := Lib.hid hen
  clear he hen
  go_enter Tryz.func43, Tryz.ntmps43
  go_wp2_with fail
  rw [← hW1H.out]
  refine hbc.out.mono ?_
  rintro e w2 ⟨rfl, hs2⟩
  have hs2H := Lib.hid hs2
  clear hs2
  go_wp2_with fail
  go_ret2
  exact ⟨none, 0, 0, by rw [heH.out]; rfl, fun _ => by rw [henH.out]; exact ⟨rfl, .inl ⟨none, 0, rfl, rfl, fun _ => rfl⟩⟩, hst1H.out.tail hs2H.out⟩
/-- Kinds that there are not. -/
theorem okV_no {d : Nat} {k n : Int} {s b : Bs} {f : List (Bs × Val)} {l : List Val} (hk : k < 1 ∨ 12 < k) : okV d (.mk k n s b f l) = false := by
 have hc : codeOf k = 0 := by
  unfold codeOf
  rw [if_neg (by omega), if_neg (by omega), if_neg (by omega), if_neg (by omega), if_neg (by omega), if_neg (by omega), if_neg (by omega), if_neg (by omega), if_neg (by omega), if_neg (by omega), if_neg (by omega), if_neg (by omega)]
 rw [okV, hc]; simp
set_option maxRecDepth 100000 in
set_option maxHeartbeats 4000000 in
theorem own_no {P : Nat → Prop} {w : World} {d : Nat} {k n : Int} {s b : Bs} {f : List (Bs × Val)} {l : List Val} {cs : List Value} (hk : k < 1 ∨ 12 < k) (hx : VIs P w (.mk k n s b f l) cs) :
  Calls Tryz.prog 43 #[.agg cs.toArray, .int .i64 ((d : Int) + 1)] w (OwnP P (.mk k n s b f l) d w) := by
 obtain ⟨bv, fa, fc, la, lc, hcs, hb, ⟨hfc, hlc, hfz, hlz⟩, ⟨hk1, hk2, hn1, hn2⟩, -, hf, hl⟩ := hx.cells
 obtain ⟨ba, bc, rfl⟩ := hb.shape
 simp only [Val.kind, Val.num, Val.s, Val.b, Val.f, Val.l] at *
 obtain ⟨S0, hS0⟩ : ∃ k, k = strOf s := ⟨_, rfl⟩
 obtain ⟨bn, hbn⟩ : ∃ k, k = b.length := ⟨_, rfl⟩
 obtain ⟨ln, hln⟩ : ∃ k, k = l.length := ⟨_, rfl⟩
 obtain ⟨fn, hfn⟩ : ∃ k, k = f.length := ⟨_, rfl⟩
 rw [← hS0, ← hbn, ← hln, ← hfn] at hcs
 subst hcs
 obtain ⟨W1, hW1⟩ : ∃ W1, W1 = w.alloc (.cells #[.int .i64 k, .int .i64 n, .string S0, .slice ba bn bc, .slice fa fn fc, .slice la ln lc] 35) := ⟨_, rfl⟩
 have hst1 : Step [] id id w W1 := by rw [hW1]; exact Step.alloc _
 have hV : W1.heap[w.heap.size]? = some (.cells #[.int .i64 k, .int .i64 n, .string S0, .slice ba bn bc, .slice fa fn fc, .slice la ln lc] 35 (0, 0)) := by rw [hW1]; exact heap_alloc_new _ _
 have hx1 := hx.keep (P2 := P) (w' := W1) (fun _ h => h) (fun k hP hk => (hst1.keep k hk (by simp)).2)
 obtain ⟨v0, v1, v2, v3, v4, v5⟩ := cells_of6P hV
 have hVl : w.heap.size < W1.heap.size := lt_of_block hV
 have hVH := Lib.hid hV
 have hx1H := Lib.hid hx1
 have hW1H := Lib.hid hW1
 have hst1H := Lib.hid hst1
 have hS0H := Lib.hid hS0
 have hbnH := Lib.hid hbn
 have hlnH := Lib.hid hln
 have hfnH := Lib.hid hfn
 have hbH := Lib.hid hb
 have hfH := Lib.hid hf
 have hlH := Lib.hid hl
 clear hx hb hf hl hS0 hbn hln hfn hst1 hV hx1 hW1 hfc hlc hfz hlz hk1 hk2
 have hno := Lib.hid (okV_no (d := d) (n := n) (s := s) (b := b) (f := f) (l := l) hk)
 have e1 : (k == 1) = false := by rw [beq_eq_false_iff_ne]; omega
 have e2 : (k == 2) = false := by rw [beq_eq_false_iff_ne]; omega
 have e3 : (k == 3) = false := by rw [beq_eq_false_iff_ne]; omega
 have e4 : (k == 4) = false := by rw [beq_eq_false_iff_ne]; omega
 have e5 : (k == 5) = false := by rw [beq_eq_false_iff_ne]; omega
 have e6 : (k == 6) = false := by rw [beq_eq_false_iff_ne]; omega
 have e7 : (k == 7) = false := by rw [beq_eq_false_iff_ne]; omega
 have e8 : (k == 8) = false := by rw [beq_eq_false_iff_ne]; omega
 have e9 : (k == 9) = false := by rw [beq_eq_false_iff_ne]; omega
 have e10 : (k == 10) = false := by rw [beq_eq_false_iff_ne]; omega
 have e11 : (k == 11) = false := by rw [beq_eq_false_iff_ne]; omega
 have e12 : (k == 12) = false := by rw [beq_eq_false_iff_ne]; omega
 clear hk
 go_enter Tryz.func43, Tryz.ntmps43
 go_wp2_with fail
 rw [← hW1H.out]
 go_ret2
 exact ⟨none, 0, 0, by rw [hno.out]; rfl, fun h => absurd h (by rw [hno.out]; simp), hst1H.out⟩
/-- Numbers of 8 bytes. -/
theorem okV_num8 {d : Nat} {k n : Int} {s b : Bs} {f : List (Bs × Val)} {l : List Val} (hn : -9223372036854775808 ≤ n ∧ n ≤ 9223372036854775807) (hk : k = 4 ∨ k = 11) : okV d (.mk k n s b f l) = bareB (.mk k n s b f l) true false false false false ∧ encV (.mk k n s b f l) = layI 8 n := by
 rcases hk with rfl | rfl <;> (rw [okV, encV]; simp [Val.plain, bareB, codeOf, hn])
theorem row_bin {w : World} {v : Value} {l : Bs} {Q : Nat → Prop} (h : Row w v l) (hQ : ∀ k, v.ownBlock = some k → Q k) : BIn Q w v l := by
 rcases h.bytes with ⟨e, h0⟩ | ⟨g, o, cap, e, h1, h2, h3⟩
 ·rw [e]; rw [h0]; exact .inl ⟨none, 0, rfl, rfl, fun _ => rfl⟩
 ·rw [e]
  exact .inr ⟨g, o, cap, rfl, h1, hQ g (by rw [e]; rfl), h3⟩
set_option maxRecDepth 100000 in
set_option maxHeartbeats 4000000 in
theorem own_num8 {P : Nat → Prop} {w : World} {d : Nat} {k n : Int} {s b : Bs} {f : List (Bs × Val)} {l : List Val} {cs : List Value} (hk : k = 4 ∨ k = 11) (hx : VIs P w (.mk k n s b f l) cs) :
  Calls Tryz.prog 43 #[.agg cs.toArray, .int .i64 ((d : Int) + 1)] w (OwnP P (.mk k n s b f l) d w) := by
 obtain ⟨bv, fa, fc, la, lc, hcs, hb, ⟨hfc, hlc, hfz, hlz⟩, ⟨hk1, hk2, hn1, hn2⟩, -, hf, hl⟩ := hx.cells
 obtain ⟨ba, bc, rfl⟩ := hb.shape
 simp only [Val.kind, Val.num, Val.s, Val.b, Val.f, Val.l] at *
 obtain ⟨S0, hS0⟩ : ∃ k, k = strOf s := ⟨_, rfl⟩
 obtain ⟨bn, hbn⟩ : ∃ k, k = b.length := ⟨_, rfl⟩
 obtain ⟨ln, hln⟩ : ∃ k, k = l.length := ⟨_, rfl⟩
 obtain ⟨fn, hfn⟩ : ∃ k, k = f.length := ⟨_, rfl⟩
 rw [← hS0, ← hbn, ← hln, ← hfn] at hcs
 subst hcs
 obtain ⟨W1, hW1⟩ : ∃ W1, W1 = w.alloc (.cells #[.int .i64 k, .int .i64 n, .string S0, .slice ba bn bc, .slice fa fn fc, .slice la ln lc] 35) := ⟨_, rfl⟩
 have hst1 : Step [] id id w W1 := by rw [hW1]; exact Step.alloc _
 have hV : W1.heap[w.heap.size]? = some (.cells #[.int .i64 k, .int .i64 n, .string S0, .slice ba bn bc, .slice fa fn fc, .slice la ln lc] 35 (0, 0)) := by rw [hW1]; exact heap_alloc_new _ _
 have hx1 := hx.keep (P2 := P) (w' := W1) (fun _ h => h) (fun k hP hk => (hst1.keep k hk (by simp)).2)
 obtain ⟨v0, v1, v2, v3, v4, v5⟩ := cells_of6P hV
 have hVl : w.heap.size < W1.heap.size := lt_of_block hV
 have hVH := Lib.hid hV
 have hx1H := Lib.hid hx1
 have hW1H := Lib.hid hW1
 have hst1H := Lib.hid hst1
 have hS0H := Lib.hid hS0
 have hbnH := Lib.hid hbn
 have hlnH := Lib.hid hln
 have hfnH := Lib.hid hfn
 have hbH := Lib.hid hb
 have hfH := Lib.hid hf
 have hlH := Lib.hid hl
 clear hx hb hf hl hS0 hbn hln hfn hst1 hV hx1 hW1 hfc hlc hfz hlz hk1 hk2
 rcases hk with hk | hk
 ·subst hk
  obtain ⟨he, hen⟩ := okV_num8 (d := d) (n := n) (s := s) (b := b) (f := f) (l := l) (k := 4) ⟨hn1, hn2⟩ (by simp)
  have hbc := Lib.hid (fun (W : World) (hW : Step [] id id W1 W) => ref_bare_n (hx1H.out.keep (P2 := P) (w' := W) (fun _ h => h) (fun k hP hk => (hW.keep k hk (by simp)).2)))
  have heH := Lib.hid he
  have henH := Lib.hid hen
  clear he hen
  go_enter Tryz.func43, Tryz.ntmps43
  go_wp2_with fail
  rw [← hW1H.out]
  refine wp_region_held_drew (S := fun w' => w'.cell? ⟨w.heap.size, 0, none⟩ = some (.int .i64 4) ∧ w'.cell? ⟨w.heap.size, 1, none⟩ = some (.int .i64 n) ∧ w'.cell? ⟨w.heap.size, 2, none⟩ = some (.string S0) ∧ w'.cell? ⟨w.heap.size, 3, none⟩ = some (.slice ba bn bc) ∧ w'.cell? ⟨w.heap.size, 4, none⟩ = some (.slice fa fn fc) ∧ w'.cell? ⟨w.heap.size, 5, none⟩ = some (.slice la ln lc)) (by kernel_rfl) ⟨v0, v1, v2, v3, v4, v5⟩ (fun hHeld => ?_)
  refine tkH 0 ?_ rfl (by kernel_rfl) (fun _ _ _ h => h) ?_ hHeld ?_
  rotate_left
  ·intro w' hSw; (try dsimp only at hSw); go_simp
   all_goals (with_reducible rfl)
  simp only [zP, zO, zA, zB, zC, zD, zE, zF]
  refine tkH 1 ?_ rfl (by kernel_rfl) (fun _ _ _ h => h) ?_ hHeld ?_
  rotate_left
  ·intro w' hSw; (try dsimp only at hSw); go_simp
   all_goals (with_reducible rfl)
  simp only [zP, zO, zA, zB, zC, zD, zE, zF]
  refine tkH 3 ?_ rfl (by kernel_rfl) (fun _ _ _ h => h) ?_ hHeld ?_
  rotate_left
  ·intro w' hSw; (try dsimp only at hSw); go_simp
   all_goals (with_reducible rfl)
  simp only [zP, zO, zA, zB, zC, zD, zE, zF]
  refine wpAnyH_ready (rs := [2]) (by kernel_rfl) (by simp) ?_
  refine AllReadyH.cons (o := _) rfl (fun K hK => ?_) AllReadyH.nil
  go_simp
  refine (ref_num n 8 W1.drew (by omega) ⟨hn1, hn2⟩).mono ?_
  rintro e w2 ⟨nv, rfl, hr2, hs2, hnew2⟩
  obtain ⟨na, nn, nc, rfl, hnn⟩ := hr2.shapeN
  have hs2r : Step [] id id W1 w2 := Step.drew.tail hs2
  have hs2H := Lib.hid hs2r
  have hr2H := Lib.hid hr2
  have hnew2H := Lib.hid hnew2
  have hnnH := Lib.hid hnn
  clear hs2 hs2r hr2 hnew2 hnn
  go_wp2_with fail
  refine hK.out _ _ ?_ (fun hHeld => ?_)
  ·exact cells_of6P (hs2H.out.at hVH.out (by simp))
  clear hK K
  refine wpAnyH_ready (rs := [4]) (by kernel_rfl) (by simp) ?_
  refine AllReadyH.cons (o := _) rfl (fun K hK => ?_) AllReadyH.nil
  go_simp
  refine (hbc.out w2 hs2H.out).mono ?_
  rintro e w3 ⟨rfl, hs3⟩
  have hs3H := Lib.hid hs3
  clear hs3
  go_wp2_with fail
  refine hK.out _ _ ?_ (fun hHeld => ?_)
  ·exact cells_of6P ((hs2H.out.tail hs3H.out).at hVH.out (by simp))
  clear hK K
  refine tkH 5 ?_ rfl (by kernel_rfl) (fun _ _ _ h => h) ?_ hHeld ?_
  rotate_left
  ·intro w' hSw; (try dsimp only at hSw); go_simp
   all_goals (with_reducible rfl)
  simp only [zP, zO, zA, zB, zC, zD, zE, zF]
  refine tkH 6 ?_ rfl (by kernel_rfl) (fun _ _ _ h => h) ?_ hHeld ?_
  rotate_left
  ·intro w' hSw; (try dsimp only at hSw); go_simp
   all_goals (with_reducible rfl)
  simp only [zP, zO, zA, zB, zC, zD, zE, zF]
  refine wpAnyH_done (by kernel_rfl) ?_ _
  clear v0 v1 v2 v3 v4 v5 hHeld
  go_wp2_with fail
  go_ret2
  refine ⟨na, nn, nc, by rw [heH.out]; rfl, fun _ => ?_, (hst1H.out.tail hs2H.out).tail hs3H.out⟩
  rw [henH.out]
  have hr3 : Row w3 (.slice na nn nc) (layI 8 n) := ownsRow_step hr2H.out hs3H.out (fun k _ => by simp)
  exact ⟨hnnH.out, row_bin hr3 (fun k hk => .inr (by have := hnew2H.out k hk; have : W1.drew.heap.size = W1.heap.size := rfl; omega))⟩
 ·subst hk
  obtain ⟨he, hen⟩ := okV_num8 (d := d) (n := n) (s := s) (b := b) (f := f) (l := l) (k := 11) ⟨hn1, hn2⟩ (by simp)
  have hbc := Lib.hid (fun (W : World) (hW : Step [] id id W1 W) => ref_bare_n (hx1H.out.keep (P2 := P) (w' := W) (fun _ h => h) (fun k hP hk => (hW.keep k hk (by simp)).2)))
  have heH := Lib.hid he
  have henH := Lib.hid hen
  clear he hen
  go_enter Tryz.func43, Tryz.ntmps43
  go_wp2_with fail
  rw [← hW1H.out]
  refine wp_region_held_drew (S := fun w' => w'.cell? ⟨w.heap.size, 0, none⟩ = some (.int .i64 11) ∧ w'.cell? ⟨w.heap.size, 1, none⟩ = some (.int .i64 n) ∧ w'.cell? ⟨w.heap.size, 2, none⟩ = some (.string S0) ∧ w'.cell? ⟨w.heap.size, 3, none⟩ = some (.slice ba bn bc) ∧ w'.cell? ⟨w.heap.size, 4, none⟩ = some (.slice fa fn fc) ∧ w'.cell? ⟨w.heap.size, 5, none⟩ = some (.slice la ln lc)) (by kernel_rfl) ⟨v0, v1, v2, v3, v4, v5⟩ (fun hHeld => ?_)
  refine tkH 0 ?_ rfl (by kernel_rfl) (fun _ _ _ h => h) ?_ hHeld ?_
  rotate_left
  ·intro w' hSw; (try dsimp only at hSw); go_simp
   all_goals (with_reducible rfl)
  simp only [zP, zO, zA, zB, zC, zD, zE, zF]
  refine tkH 1 ?_ rfl (by kernel_rfl) (fun _ _ _ h => h) ?_ hHeld ?_
  rotate_left
  ·intro w' hSw; (try dsimp only at hSw); go_simp
   all_goals (with_reducible rfl)
  simp only [zP, zO, zA, zB, zC, zD, zE, zF]
  refine tkH 3 ?_ rfl (by kernel_rfl) (fun _ _ _ h => h) ?_ hHeld ?_
  rotate_left
  ·intro w' hSw; (try dsimp only at hSw); go_simp
   all_goals (with_reducible rfl)
  simp only [zP, zO, zA, zB, zC, zD, zE, zF]
  refine wpAnyH_ready (rs := [2]) (by kernel_rfl) (by simp) ?_
  refine AllReadyH.cons (o := _) rfl (fun K hK => ?_) AllReadyH.nil
  go_simp
  refine (ref_num n 8 W1.drew (by omega) ⟨hn1, hn2⟩).mono ?_
  rintro e w2 ⟨nv, rfl, hr2, hs2, hnew2⟩
  obtain ⟨na, nn, nc, rfl, hnn⟩ := hr2.shapeN
  have hs2r : Step [] id id W1 w2 := Step.drew.tail hs2
  have hs2H := Lib.hid hs2r
  have hr2H := Lib.hid hr2
  have hnew2H := Lib.hid hnew2
  have hnnH := Lib.hid hnn
  clear hs2 hs2r hr2 hnew2 hnn
  go_wp2_with fail
  refine hK.out _ _ ?_ (fun hHeld => ?_)
  ·exact cells_of6P (hs2H.out.at hVH.out (by simp))
  clear hK K
  refine wpAnyH_ready (rs := [4]) (by kernel_rfl) (by simp) ?_
  refine AllReadyH.cons (o := _) rfl (fun K hK => ?_) AllReadyH.nil
  go_simp
  refine (hbc.out w2 hs2H.out).mono ?_
  rintro e w3 ⟨rfl, hs3⟩
  have hs3H := Lib.hid hs3
  clear hs3
  go_wp2_with fail
  refine hK.out _ _ ?_ (fun hHeld => ?_)
  ·exact cells_of6P ((hs2H.out.tail hs3H.out).at hVH.out (by simp))
  clear hK K
  refine tkH 5 ?_ rfl (by kernel_rfl) (fun _ _ _ h => h) ?_ hHeld ?_
  rotate_left
  ·intro w' hSw; (try dsimp only at hSw); go_simp
   all_goals (with_reducible rfl)
  simp only [zP, zO, zA, zB, zC, zD, zE, zF]
  refine tkH 6 ?_ rfl (by kernel_rfl) (fun _ _ _ h => h) ?_ hHeld ?_
  rotate_left
  ·intro w' hSw; (try dsimp only at hSw); go_simp
   all_goals (with_reducible rfl)
  simp only [zP, zO, zA, zB, zC, zD, zE, zF]
  refine wpAnyH_done (by kernel_rfl) ?_ _
  clear v0 v1 v2 v3 v4 v5 hHeld
  go_wp2_with fail
  go_ret2
  refine ⟨na, nn, nc, by rw [heH.out]; rfl, fun _ => ?_, (hst1H.out.tail hs2H.out).tail hs3H.out⟩
  rw [henH.out]
  have hr3 : Row w3 (.slice na nn nc) (layI 8 n) := ownsRow_step hr2H.out hs3H.out (fun k _ => by simp)
  exact ⟨hnnH.out, row_bin hr3 (fun k hk => .inr (by have := hnew2H.out k hk; have : W1.drew.heap.size = W1.heap.size := rfl; omega))⟩
end Go.Proofs.YtembpajlllnncaaGreatDoor
namespace Go.Proofs.YtembpajlllnncaaGreatDoor
open Go.RowKit


theorem okV_i32n {d : Nat} {n : Int} {s b : Bs} {f : List (Bs × Val)} {l : List Val} : okV d (.mk 3 n s b f l) = (bareB (.mk 3 n s b f l) true false false false false && decide (-2147483648 ≤ n ∧ n ≤ 2147483647)) ∧ encV (.mk 3 n s b f l) = layI 4 n := by
 rw [okV, encV]; simp [Val.plain, bareB, codeOf]
set_option maxRecDepth 100000 in
set_option maxHeartbeats 8000000 in
theorem own_i32 {P : Nat → Prop} {w : World} {d : Nat} {k n : Int} {s b : Bs} {f : List (Bs × Val)} {l : List Val} {cs : List Value} (hk : k = 3) (hx : VIs P w (.mk k n s b f l) cs) :
  Calls Tryz.prog 43 #[.agg cs.toArray, .int .i64 ((d : Int) + 1)] w (OwnP P (.mk k n s b f l) d w) := by
 obtain ⟨bv, fa, fc, la, lc, hcs, hb, ⟨hfc, hlc, hfz, hlz⟩, ⟨hk1, hk2, hn1, hn2⟩, -, hf, hl⟩ := hx.cells
 obtain ⟨ba, bc, rfl⟩ := hb.shape
 simp only [Val.kind, Val.num, Val.s, Val.b, Val.f, Val.l] at *
 obtain ⟨S0, hS0⟩ : ∃ k, k = strOf s := ⟨_, rfl⟩
 obtain ⟨bn, hbn⟩ : ∃ k, k = b.length := ⟨_, rfl⟩
 obtain ⟨ln, hln⟩ : ∃ k, k = l.length := ⟨_, rfl⟩
 obtain ⟨fn, hfn⟩ : ∃ k, k = f.length := ⟨_, rfl⟩
 rw [← hS0, ← hbn, ← hln, ← hfn] at hcs
 rw [← hbn] at hb
 subst hcs
 obtain ⟨W1, hW1⟩ : ∃ W1, W1 = w.alloc (.cells #[.int .i64 k, .int .i64 n, .string S0, .slice ba bn bc, .slice fa fn fc, .slice la ln lc] 35) := ⟨_, rfl⟩
 have hst1 : Step [] id id w W1 := by rw [hW1]; exact Step.alloc _
 have hV : W1.heap[w.heap.size]? = some (.cells #[.int .i64 k, .int .i64 n, .string S0, .slice ba bn bc, .slice fa fn fc, .slice la ln lc] 35 (0, 0)) := by rw [hW1]; exact heap_alloc_new _ _
 have hx1 := hx.keep (P2 := P) (w' := W1) (fun _ h => h) (fun k hP hk => (hst1.keep k hk (by simp)).2)
 obtain ⟨v0, v1, v2, v3, v4, v5⟩ := cells_of6P hV
 have hVl : w.heap.size < W1.heap.size := lt_of_block hV
 have hVH := Lib.hid hV
 have hx1H := Lib.hid hx1
 have hW1H := Lib.hid hW1
 have hst1H := Lib.hid hst1
 have hS0H := Lib.hid hS0
 have hbnH := Lib.hid hbn
 have hlnH := Lib.hid hln
 have hfnH := Lib.hid hfn
 have hbH := Lib.hid hb
 have hfH := Lib.hid hf
 have hlH := Lib.hid hl
 clear hx hb hf hl hS0 hbn hln hfn hst1 hV hx1 hW1 hfc hlc hfz hlz hk1 hk2
 subst hk
 obtain ⟨he, hen⟩ := okV_i32n (d := d) (n := n) (s := s) (b := b) (f := f) (l := l)
 have hbc := Lib.hid (fun (W : World) (hW : Step [] id id W1 W) => ref_bare_n (hx1H.out.keep (P2 := P) (w' := W) (fun _ h => h) (fun k hP hk => (hW.keep k hk (by simp)).2)))
 have heH := Lib.hid he
 have henH := Lib.hid hen
 clear he hen
 obtain ⟨r, hr⟩ : ∃ r, r = bareB (.mk 3 n s b f l) true false false false false := ⟨_, rfl⟩
 have hrH := Lib.hid hr
 clear hr
 cases r
 ·have hokH := Lib.hid (show okV d (.mk 3 n s b f l) = false by rw [heH.out, ← hrH.out]; rfl)
  go_enter Tryz.func43, Tryz.ntmps43
  go_wp2_with fail
  rw [← hW1H.out]
  refine wp_region_held_drew (S := fun w' => w'.cell? ⟨w.heap.size, 0, none⟩ = some (.int .i64 3) ∧ w'.cell? ⟨w.heap.size, 1, none⟩ = some (.int .i64 n) ∧ w'.cell? ⟨w.heap.size, 2, none⟩ = some (.string S0) ∧ w'.cell? ⟨w.heap.size, 3, none⟩ = some (.slice ba bn bc) ∧ w'.cell? ⟨w.heap.size, 4, none⟩ = some (.slice fa fn fc) ∧ w'.cell? ⟨w.heap.size, 5, none⟩ = some (.slice la ln lc)) (by kernel_rfl) ⟨v0, v1, v2, v3, v4, v5⟩ (fun hHeld => ?_)
  refine tkH 0 ?_ rfl (by kernel_rfl) (fun _ _ _ h => h) ?_ hHeld ?_
  rotate_left
  ·intro w' hSw; (try dsimp only at hSw); go_simp
   all_goals (with_reducible rfl)
  simp only [zP, zO, zA, zB, zC, zD, zE, zF]
  refine tkH 1 ?_ rfl (by kernel_rfl) (fun _ _ _ h => h) ?_ hHeld ?_
  rotate_left
  ·intro w' hSw; (try dsimp only at hSw); go_simp
   all_goals (with_reducible rfl)
  simp only [zP, zO, zA, zB, zC, zD, zE, zF]
  refine tkH 3 ?_ rfl (by kernel_rfl) (fun _ _ _ h => h) ?_ hHeld ?_
  rotate_left
  ·intro w' hSw; (try dsimp only at hSw); go_simp
   all_goals (with_reducible rfl)
  simp only [zP, zO, zA, zB, zC, zD, zE, zF]
  refine wpAnyH_ready (rs := [2]) (by kernel_rfl) (by simp) ?_
  refine AllReadyH.cons (o := _) rfl (fun K hK => ?_) AllReadyH.nil
  go_simp
  refine (ref_num n 4 W1.drew (by omega) ⟨hn1, hn2⟩).mono ?_
  rintro e w2 ⟨nv, rfl, hr2, hs2, hnew2⟩
  obtain ⟨na, nn, nc, rfl, hnn⟩ := hr2.shapeN
  have hs2r : Step [] id id W1 w2 := Step.drew.tail hs2
  have hs2H := Lib.hid hs2r
  have hr2H := Lib.hid hr2
  have hnew2H := Lib.hid hnew2
  have hnnH := Lib.hid hnn
  clear hs2 hs2r hr2 hnew2 hnn
  go_wp2_with fail
  refine hK.out _ _ ?_ (fun hHeld => ?_)
  ·exact cells_of6P (hs2H.out.at hVH.out (by simp))
  clear hK K
  refine wpAnyH_ready (rs := [4]) (by kernel_rfl) (by simp) ?_
  refine AllReadyH.cons (o := _) rfl (fun K hK => ?_) AllReadyH.nil
  go_simp
  refine (hbc.out w2 hs2H.out).mono ?_
  rintro e w3 ⟨rfl, hs3⟩
  rw [← hrH.out]
  have hs3H := Lib.hid hs3
  clear hs3
  go_wp2_with fail
  refine hK.out _ _ ?_ (fun hHeld => ?_)
  ·exact cells_of6P ((hs2H.out.tail hs3H.out).at hVH.out (by simp))
  clear hK K
  refine tkH 5 ?_ rfl (by kernel_rfl) (fun _ _ _ h => h) ?_ hHeld ?_
  rotate_left
  ·intro w' hSw; (try dsimp only at hSw); go_simp
   all_goals (with_reducible rfl)
  simp only [zP, zO, zA, zB, zC, zD, zE, zF]
  refine wpAnyH_take (i := 6) (v := undef) rfl (by kernel_rfl) (by kernel_rfl) (by kernel_rfl) (fun _ _ _ h => h) (Or.inr ⟨by kernel_rfl, rfl⟩) hHeld ?_
  simp only [zP, zO, zA, zB, zC, zD, zE, zF]
  refine wpAnyH_take (i := 7) (v := undef) rfl (by kernel_rfl) (by kernel_rfl) (by kernel_rfl) (fun _ _ _ h => h) (Or.inr ⟨by kernel_rfl, rfl⟩) hHeld ?_
  simp only [zP, zO, zA, zB, zC, zD, zE, zF]
  refine wpAnyH_take (i := 8) (v := undef) rfl (by kernel_rfl) (by kernel_rfl) (by kernel_rfl) (fun _ _ _ h => h) (Or.inr ⟨by kernel_rfl, rfl⟩) hHeld ?_
  simp only [zP, zO, zA, zB, zC, zD, zE, zF]
  refine tkH 9 ?_ rfl (by kernel_rfl) (fun _ _ _ h => h) ?_ hHeld ?_
  rotate_left
  ·intro w' hSw; (try dsimp only at hSw); go_simp
   all_goals (with_reducible rfl)
  simp only [zP, zO, zA, zB, zC, zD, zE, zF]
  refine tkH 10 ?_ rfl (by kernel_rfl) (fun _ _ _ h => h) ?_ hHeld ?_
  rotate_left
  ·intro w' hSw; (try dsimp only at hSw); go_simp
   all_goals (with_reducible rfl)
  simp only [zP, zO, zA, zB, zC, zD, zE, zF]
  refine wpAnyH_take (i := 11) (v := undef) rfl (by kernel_rfl) (by kernel_rfl) (by kernel_rfl) (fun _ _ _ h => h) (Or.inr ⟨by kernel_rfl, rfl⟩) hHeld ?_
  simp only [zP, zO, zA, zB, zC, zD, zE, zF]
  refine wpAnyH_take (i := 12) (v := undef) rfl (by kernel_rfl) (by kernel_rfl) (by kernel_rfl) (fun _ _ _ h => h) (Or.inr ⟨by kernel_rfl, rfl⟩) hHeld ?_
  simp only [zP, zO, zA, zB, zC, zD, zE, zF]
  refine wpAnyH_take (i := 13) (v := undef) rfl (by kernel_rfl) (by kernel_rfl) (by kernel_rfl) (fun _ _ _ h => h) (Or.inr ⟨by kernel_rfl, rfl⟩) hHeld ?_
  simp only [zP, zO, zA, zB, zC, zD, zE, zF]
  refine tkH 14 ?_ rfl (by kernel_rfl) (fun _ _ _ h => h) ?_ hHeld ?_
  rotate_left
  ·intro w' hSw; (try dsimp only at hSw); go_simp
   all_goals (with_reducible rfl)
  simp only [zP, zO, zA, zB, zC, zD, zE, zF]
  refine tkH 15 ?_ rfl (by kernel_rfl) (fun _ _ _ h => h) ?_ hHeld ?_
  rotate_left
  ·intro w' hSw; (try dsimp only at hSw); go_simp
   all_goals (with_reducible rfl)
  simp only [zP, zO, zA, zB, zC, zD, zE, zF]
  refine tkH 16 ?_ rfl (by kernel_rfl) (fun _ _ _ h => h) ?_ hHeld ?_
  rotate_left
  ·intro w' hSw; (try dsimp only at hSw); go_simp
   all_goals (with_reducible rfl)
  simp only [zP, zO, zA, zB, zC, zD, zE, zF]
  refine wpAnyH_done (by kernel_rfl) ?_ _
  clear v0 v1 v2 v3 v4 v5 hHeld
  go_wp2_with fail
  go_ret2
  refine ⟨na, nn, nc, by rw [hokH.out]; rfl, fun _ => ?_, (hst1H.out.tail hs2H.out).tail hs3H.out⟩
  rw [henH.out]
  have hr3 : Row w3 (.slice na nn nc) (layI 4 n) := ownsRow_step hr2H.out hs3H.out (fun k _ => by simp)
  exact ⟨hnnH.out, row_bin hr3 (fun k hk => .inr (by have := hnew2H.out k hk; have : W1.drew.heap.size = W1.heap.size := rfl; omega))⟩
 ·by_cases hlo : -2147483648 ≤ n
  ·have hdlo : decide (-2147483648 ≤ n) = true := decide_eq_true hlo
   by_cases hhi : n < 2147483648
   ·have hdhi : decide (n < 2147483648) = true := decide_eq_true hhi
    have hokH := Lib.hid (show okV d (.mk 3 n s b f l) = true by rw [heH.out, ← hrH.out, decide_eq_true (by omega)]; rfl)
    go_enter Tryz.func43, Tryz.ntmps43
    go_wp2_with fail
    rw [← hW1H.out]
    refine wp_region_held_drew (S := fun w' => w'.cell? ⟨w.heap.size, 0, none⟩ = some (.int .i64 3) ∧ w'.cell? ⟨w.heap.size, 1, none⟩ = some (.int .i64 n) ∧ w'.cell? ⟨w.heap.size, 2, none⟩ = some (.string S0) ∧ w'.cell? ⟨w.heap.size, 3, none⟩ = some (.slice ba bn bc) ∧ w'.cell? ⟨w.heap.size, 4, none⟩ = some (.slice fa fn fc) ∧ w'.cell? ⟨w.heap.size, 5, none⟩ = some (.slice la ln lc)) (by kernel_rfl) ⟨v0, v1, v2, v3, v4, v5⟩ (fun hHeld => ?_)
    refine tkH 0 ?_ rfl (by kernel_rfl) (fun _ _ _ h => h) ?_ hHeld ?_
    rotate_left
    ·intro w' hSw; (try dsimp only at hSw); go_simp
     all_goals (with_reducible rfl)
    simp only [zP, zO, zA, zB, zC, zD, zE, zF]
    refine tkH 1 ?_ rfl (by kernel_rfl) (fun _ _ _ h => h) ?_ hHeld ?_
    rotate_left
    ·intro w' hSw; (try dsimp only at hSw); go_simp
     all_goals (with_reducible rfl)
    simp only [zP, zO, zA, zB, zC, zD, zE, zF]
    refine tkH 3 ?_ rfl (by kernel_rfl) (fun _ _ _ h => h) ?_ hHeld ?_
    rotate_left
    ·intro w' hSw; (try dsimp only at hSw); go_simp
     all_goals (with_reducible rfl)
    simp only [zP, zO, zA, zB, zC, zD, zE, zF]
    refine wpAnyH_ready (rs := [2]) (by kernel_rfl) (by simp) ?_
    refine AllReadyH.cons (o := _) rfl (fun K hK => ?_) AllReadyH.nil
    go_simp
    refine (ref_num n 4 W1.drew (by omega) ⟨hn1, hn2⟩).mono ?_
    rintro e w2 ⟨nv, rfl, hr2, hs2, hnew2⟩
    obtain ⟨na, nn, nc, rfl, hnn⟩ := hr2.shapeN
    have hs2r : Step [] id id W1 w2 := Step.drew.tail hs2
    have hs2H := Lib.hid hs2r
    have hr2H := Lib.hid hr2
    have hnew2H := Lib.hid hnew2
    have hnnH := Lib.hid hnn
    clear hs2 hs2r hr2 hnew2 hnn
    go_wp2_with fail
    refine hK.out _ _ ?_ (fun hHeld => ?_)
    ·exact cells_of6P (hs2H.out.at hVH.out (by simp))
    clear hK K
    refine wpAnyH_ready (rs := [4]) (by kernel_rfl) (by simp) ?_
    refine AllReadyH.cons (o := _) rfl (fun K hK => ?_) AllReadyH.nil
    go_simp
    refine (hbc.out w2 hs2H.out).mono ?_
    rintro e w3 ⟨rfl, hs3⟩
    rw [← hrH.out]
    have hs3H := Lib.hid hs3
    clear hs3
    go_wp2_with fail
    refine hK.out _ _ ?_ (fun hHeld => ?_)
    ·exact cells_of6P ((hs2H.out.tail hs3H.out).at hVH.out (by simp))
    clear hK K
    refine tkH 5 ?_ rfl (by kernel_rfl) (fun _ _ _ h => h) ?_ hHeld ?_
    rotate_left
    ·intro w' hSw; (try dsimp only at hSw); go_simp
     all_goals (with_reducible rfl)
    simp only [zP, zO, zA, zB, zC, zD, zE, zF]
    refine tkH 6 ?_ rfl (by kernel_rfl) (fun _ _ _ h => h) ?_ hHeld ?_
    rotate_left
    ·intro w' hSw; (try dsimp only at hSw); go_simp
     all_goals (with_reducible rfl)
    simp only [zP, zO, zA, zB, zC, zD, zE, zF]
    refine tkH 7 ?_ rfl (by kernel_rfl) (fun _ _ _ h => h) ?_ hHeld ?_
    rotate_left
    ·intro w' hSw; (try dsimp only at hSw); go_simp
     all_goals (with_reducible rfl)
    simp only [zP, zO, zA, zB, zC, zD, zE, zF]
    refine tkH 8 ?_ rfl (by kernel_rfl) (fun _ _ _ h => h) ?_ hHeld ?_
    rotate_left
    ·intro w' hSw; (try dsimp only at hSw); go_simp
     all_goals (with_reducible rfl)
    simp only [zP, zO, zA, zB, zC, zD, zE, zF]
    refine tkH 9 ?_ rfl (by kernel_rfl) (fun _ _ _ h => h) ?_ hHeld ?_
    rotate_left
    ·intro w' hSw; (try dsimp only at hSw); go_simp
     all_goals (with_reducible rfl)
    simp only [zP, zO, zA, zB, zC, zD, zE, zF]
    refine tkH 10 ?_ rfl (by kernel_rfl) (fun _ _ _ h => h) ?_ hHeld ?_
    rotate_left
    ·intro w' hSw; (try dsimp only at hSw); go_simp
     all_goals (with_reducible rfl)
    simp only [zP, zO, zA, zB, zC, zD, zE, zF]
    refine tkH 11 ?_ rfl (by kernel_rfl) (fun _ _ _ h => h) ?_ hHeld ?_
    rotate_left
    ·intro w' hSw; (try dsimp only at hSw); go_simp
     all_goals (with_reducible rfl)
    simp only [zP, zO, zA, zB, zC, zD, zE, zF]
    refine tkH 12 ?_ rfl (by kernel_rfl) (fun _ _ _ h => h) ?_ hHeld ?_
    rotate_left
    ·intro w' hSw; (try dsimp only at hSw); go_simp
     all_goals (with_reducible rfl)
    simp only [zP, zO, zA, zB, zC, zD, zE, zF]
    refine tkH 13 ?_ rfl (by kernel_rfl) (fun _ _ _ h => h) ?_ hHeld ?_
    rotate_left
    ·intro w' hSw; (try dsimp only at hSw); go_simp
     all_goals (with_reducible rfl)
    simp only [zP, zO, zA, zB, zC, zD, zE, zF]
    refine tkH 14 ?_ rfl (by kernel_rfl) (fun _ _ _ h => h) ?_ hHeld ?_
    rotate_left
    ·intro w' hSw; (try dsimp only at hSw); go_simp
     all_goals (with_reducible rfl)
    simp only [zP, zO, zA, zB, zC, zD, zE, zF]
    refine tkH 15 ?_ rfl (by kernel_rfl) (fun _ _ _ h => h) ?_ hHeld ?_
    rotate_left
    ·intro w' hSw; (try dsimp only at hSw); go_simp
     all_goals (with_reducible rfl)
    simp only [zP, zO, zA, zB, zC, zD, zE, zF]
    refine tkH 16 ?_ rfl (by kernel_rfl) (fun _ _ _ h => h) ?_ hHeld ?_
    rotate_left
    ·intro w' hSw; (try dsimp only at hSw); go_simp
     all_goals (with_reducible rfl)
    simp only [zP, zO, zA, zB, zC, zD, zE, zF]
    refine wpAnyH_done (by kernel_rfl) ?_ _
    clear v0 v1 v2 v3 v4 v5 hHeld
    go_wp2_with fail
    go_ret2
    refine ⟨na, nn, nc, by rw [hokH.out]; rfl, fun _ => ?_, (hst1H.out.tail hs2H.out).tail hs3H.out⟩
    rw [henH.out]
    have hr3 : Row w3 (.slice na nn nc) (layI 4 n) := ownsRow_step hr2H.out hs3H.out (fun k _ => by simp)
    exact ⟨hnnH.out, row_bin hr3 (fun k hk => .inr (by have := hnew2H.out k hk; have : W1.drew.heap.size = W1.heap.size := rfl; omega))⟩
   ·have hdhi : decide (n < 2147483648) = false := decide_eq_false hhi
    have hokH := Lib.hid (show okV d (.mk 3 n s b f l) = false by rw [heH.out, ← hrH.out, decide_eq_false (by omega)]; rfl)
    go_enter Tryz.func43, Tryz.ntmps43
    go_wp2_with fail
    rw [← hW1H.out]
    refine wp_region_held_drew (S := fun w' => w'.cell? ⟨w.heap.size, 0, none⟩ = some (.int .i64 3) ∧ w'.cell? ⟨w.heap.size, 1, none⟩ = some (.int .i64 n) ∧ w'.cell? ⟨w.heap.size, 2, none⟩ = some (.string S0) ∧ w'.cell? ⟨w.heap.size, 3, none⟩ = some (.slice ba bn bc) ∧ w'.cell? ⟨w.heap.size, 4, none⟩ = some (.slice fa fn fc) ∧ w'.cell? ⟨w.heap.size, 5, none⟩ = some (.slice la ln lc)) (by kernel_rfl) ⟨v0, v1, v2, v3, v4, v5⟩ (fun hHeld => ?_)
    refine tkH 0 ?_ rfl (by kernel_rfl) (fun _ _ _ h => h) ?_ hHeld ?_
    rotate_left
    ·intro w' hSw; (try dsimp only at hSw); go_simp
     all_goals (with_reducible rfl)
    simp only [zP, zO, zA, zB, zC, zD, zE, zF]
    refine tkH 1 ?_ rfl (by kernel_rfl) (fun _ _ _ h => h) ?_ hHeld ?_
    rotate_left
    ·intro w' hSw; (try dsimp only at hSw); go_simp
     all_goals (with_reducible rfl)
    simp only [zP, zO, zA, zB, zC, zD, zE, zF]
    refine tkH 3 ?_ rfl (by kernel_rfl) (fun _ _ _ h => h) ?_ hHeld ?_
    rotate_left
    ·intro w' hSw; (try dsimp only at hSw); go_simp
     all_goals (with_reducible rfl)
    simp only [zP, zO, zA, zB, zC, zD, zE, zF]
    refine wpAnyH_ready (rs := [2]) (by kernel_rfl) (by simp) ?_
    refine AllReadyH.cons (o := _) rfl (fun K hK => ?_) AllReadyH.nil
    go_simp
    refine (ref_num n 4 W1.drew (by omega) ⟨hn1, hn2⟩).mono ?_
    rintro e w2 ⟨nv, rfl, hr2, hs2, hnew2⟩
    obtain ⟨na, nn, nc, rfl, hnn⟩ := hr2.shapeN
    have hs2r : Step [] id id W1 w2 := Step.drew.tail hs2
    have hs2H := Lib.hid hs2r
    have hr2H := Lib.hid hr2
    have hnew2H := Lib.hid hnew2
    have hnnH := Lib.hid hnn
    clear hs2 hs2r hr2 hnew2 hnn
    go_wp2_with fail
    refine hK.out _ _ ?_ (fun hHeld => ?_)
    ·exact cells_of6P (hs2H.out.at hVH.out (by simp))
    clear hK K
    refine wpAnyH_ready (rs := [4]) (by kernel_rfl) (by simp) ?_
    refine AllReadyH.cons (o := _) rfl (fun K hK => ?_) AllReadyH.nil
    go_simp
    refine (hbc.out w2 hs2H.out).mono ?_
    rintro e w3 ⟨rfl, hs3⟩
    rw [← hrH.out]
    have hs3H := Lib.hid hs3
    clear hs3
    go_wp2_with fail
    refine hK.out _ _ ?_ (fun hHeld => ?_)
    ·exact cells_of6P ((hs2H.out.tail hs3H.out).at hVH.out (by simp))
    clear hK K
    refine tkH 5 ?_ rfl (by kernel_rfl) (fun _ _ _ h => h) ?_ hHeld ?_
    rotate_left
    ·intro w' hSw; (try dsimp only at hSw); go_simp
     all_goals (with_reducible rfl)
    simp only [zP, zO, zA, zB, zC, zD, zE, zF]
    refine tkH 6 ?_ rfl (by kernel_rfl) (fun _ _ _ h => h) ?_ hHeld ?_
    rotate_left
    ·intro w' hSw; (try dsimp only at hSw); go_simp
     all_goals (with_reducible rfl)
    simp only [zP, zO, zA, zB, zC, zD, zE, zF]
    refine tkH 7 ?_ rfl (by kernel_rfl) (fun _ _ _ h => h) ?_ hHeld ?_
    rotate_left
    ·intro w' hSw; (try dsimp only at hSw); go_simp
     all_goals (with_reducible rfl)
    simp only [zP, zO, zA, zB, zC, zD, zE, zF]
    refine tkH 8 ?_ rfl (by kernel_rfl) (fun _ _ _ h => h) ?_ hHeld ?_
    rotate_left
    ·intro w' hSw; (try dsimp only at hSw); go_simp
     all_goals (with_reducible rfl)
    simp only [zP, zO, zA, zB, zC, zD, zE, zF]
    refine tkH 9 ?_ rfl (by kernel_rfl) (fun _ _ _ h => h) ?_ hHeld ?_
    rotate_left
    ·intro w' hSw; (try dsimp only at hSw); go_simp
     all_goals (with_reducible rfl)
    simp only [zP, zO, zA, zB, zC, zD, zE, zF]
    refine tkH 10 ?_ rfl (by kernel_rfl) (fun _ _ _ h => h) ?_ hHeld ?_
    rotate_left
    ·intro w' hSw; (try dsimp only at hSw); go_simp
     all_goals (with_reducible rfl)
    simp only [zP, zO, zA, zB, zC, zD, zE, zF]
    refine tkH 11 ?_ rfl (by kernel_rfl) (fun _ _ _ h => h) ?_ hHeld ?_
    rotate_left
    ·intro w' hSw; (try dsimp only at hSw); go_simp
     all_goals (with_reducible rfl)
    simp only [zP, zO, zA, zB, zC, zD, zE, zF]
    refine tkH 12 ?_ rfl (by kernel_rfl) (fun _ _ _ h => h) ?_ hHeld ?_
    rotate_left
    ·intro w' hSw; (try dsimp only at hSw); go_simp
     all_goals (with_reducible rfl)
    simp only [zP, zO, zA, zB, zC, zD, zE, zF]
    refine tkH 13 ?_ rfl (by kernel_rfl) (fun _ _ _ h => h) ?_ hHeld ?_
    rotate_left
    ·intro w' hSw; (try dsimp only at hSw); go_simp
     all_goals (with_reducible rfl)
    simp only [zP, zO, zA, zB, zC, zD, zE, zF]
    refine tkH 14 ?_ rfl (by kernel_rfl) (fun _ _ _ h => h) ?_ hHeld ?_
    rotate_left
    ·intro w' hSw; (try dsimp only at hSw); go_simp
     all_goals (with_reducible rfl)
    simp only [zP, zO, zA, zB, zC, zD, zE, zF]
    refine tkH 15 ?_ rfl (by kernel_rfl) (fun _ _ _ h => h) ?_ hHeld ?_
    rotate_left
    ·intro w' hSw; (try dsimp only at hSw); go_simp
     all_goals (with_reducible rfl)
    simp only [zP, zO, zA, zB, zC, zD, zE, zF]
    refine tkH 16 ?_ rfl (by kernel_rfl) (fun _ _ _ h => h) ?_ hHeld ?_
    rotate_left
    ·intro w' hSw; (try dsimp only at hSw); go_simp
     all_goals (with_reducible rfl)
    simp only [zP, zO, zA, zB, zC, zD, zE, zF]
    refine wpAnyH_done (by kernel_rfl) ?_ _
    clear v0 v1 v2 v3 v4 v5 hHeld
    go_wp2_with fail
    go_ret2
    refine ⟨na, nn, nc, by rw [hokH.out]; rfl, fun _ => ?_, (hst1H.out.tail hs2H.out).tail hs3H.out⟩
    rw [henH.out]
    have hr3 : Row w3 (.slice na nn nc) (layI 4 n) := ownsRow_step hr2H.out hs3H.out (fun k _ => by simp)
    exact ⟨hnnH.out, row_bin hr3 (fun k hk => .inr (by have := hnew2H.out k hk; have : W1.drew.heap.size = W1.heap.size := rfl; omega))⟩
  ·have hdlo : decide (-2147483648 ≤ n) = false := decide_eq_false hlo
   have hokH := Lib.hid (show okV d (.mk 3 n s b f l) = false by rw [heH.out, ← hrH.out, decide_eq_false (by omega)]; rfl)
   go_enter Tryz.func43, Tryz.ntmps43
   go_wp2_with fail
   rw [← hW1H.out]
   refine wp_region_held_drew (S := fun w' => w'.cell? ⟨w.heap.size, 0, none⟩ = some (.int .i64 3) ∧ w'.cell? ⟨w.heap.size, 1, none⟩ = some (.int .i64 n) ∧ w'.cell? ⟨w.heap.size, 2, none⟩ = some (.string S0) ∧ w'.cell? ⟨w.heap.size, 3, none⟩ = some (.slice ba bn bc) ∧ w'.cell? ⟨w.heap.size, 4, none⟩ = some (.slice fa fn fc) ∧ w'.cell? ⟨w.heap.size, 5, none⟩ = some (.slice la ln lc)) (by kernel_rfl) ⟨v0, v1, v2, v3, v4, v5⟩ (fun hHeld => ?_)
   refine tkH 0 ?_ rfl (by kernel_rfl) (fun _ _ _ h => h) ?_ hHeld ?_
   rotate_left
   ·intro w' hSw; (try dsimp only at hSw); go_simp
    all_goals (with_reducible rfl)
   simp only [zP, zO, zA, zB, zC, zD, zE, zF]
   refine tkH 1 ?_ rfl (by kernel_rfl) (fun _ _ _ h => h) ?_ hHeld ?_
   rotate_left
   ·intro w' hSw; (try dsimp only at hSw); go_simp
    all_goals (with_reducible rfl)
   simp only [zP, zO, zA, zB, zC, zD, zE, zF]
   refine tkH 3 ?_ rfl (by kernel_rfl) (fun _ _ _ h => h) ?_ hHeld ?_
   rotate_left
   ·intro w' hSw; (try dsimp only at hSw); go_simp
    all_goals (with_reducible rfl)
   simp only [zP, zO, zA, zB, zC, zD, zE, zF]
   refine wpAnyH_ready (rs := [2]) (by kernel_rfl) (by simp) ?_
   refine AllReadyH.cons (o := _) rfl (fun K hK => ?_) AllReadyH.nil
   go_simp
   refine (ref_num n 4 W1.drew (by omega) ⟨hn1, hn2⟩).mono ?_
   rintro e w2 ⟨nv, rfl, hr2, hs2, hnew2⟩
   obtain ⟨na, nn, nc, rfl, hnn⟩ := hr2.shapeN
   have hs2r : Step [] id id W1 w2 := Step.drew.tail hs2
   have hs2H := Lib.hid hs2r
   have hr2H := Lib.hid hr2
   have hnew2H := Lib.hid hnew2
   have hnnH := Lib.hid hnn
   clear hs2 hs2r hr2 hnew2 hnn
   go_wp2_with fail
   refine hK.out _ _ ?_ (fun hHeld => ?_)
   ·exact cells_of6P (hs2H.out.at hVH.out (by simp))
   clear hK K
   refine wpAnyH_ready (rs := [4]) (by kernel_rfl) (by simp) ?_
   refine AllReadyH.cons (o := _) rfl (fun K hK => ?_) AllReadyH.nil
   go_simp
   refine (hbc.out w2 hs2H.out).mono ?_
   rintro e w3 ⟨rfl, hs3⟩
   rw [← hrH.out]
   have hs3H := Lib.hid hs3
   clear hs3
   go_wp2_with fail
   refine hK.out _ _ ?_ (fun hHeld => ?_)
   ·exact cells_of6P ((hs2H.out.tail hs3H.out).at hVH.out (by simp))
   clear hK K
   refine tkH 5 ?_ rfl (by kernel_rfl) (fun _ _ _ h => h) ?_ hHeld ?_
   rotate_left
   ·intro w' hSw; (try dsimp only at hSw); go_simp
    all_goals (with_reducible rfl)
   simp only [zP, zO, zA, zB, zC, zD, zE, zF]
   refine tkH 6 ?_ rfl (by kernel_rfl) (fun _ _ _ h => h) ?_ hHeld ?_
   rotate_left
   ·intro w' hSw; (try dsimp only at hSw); go_simp
    all_goals (with_reducible rfl)
   simp only [zP, zO, zA, zB, zC, zD, zE, zF]
   refine tkH 7 ?_ rfl (by kernel_rfl) (fun _ _ _ h => h) ?_ hHeld ?_
   rotate_left
   ·intro w' hSw; (try dsimp only at hSw); go_simp
    all_goals (with_reducible rfl)
   simp only [zP, zO, zA, zB, zC, zD, zE, zF]
   refine tkH 8 ?_ rfl (by kernel_rfl) (fun _ _ _ h => h) ?_ hHeld ?_
   rotate_left
   ·intro w' hSw; (try dsimp only at hSw); go_simp
    all_goals (with_reducible rfl)
   simp only [zP, zO, zA, zB, zC, zD, zE, zF]
   refine tkH 9 ?_ rfl (by kernel_rfl) (fun _ _ _ h => h) ?_ hHeld ?_
   rotate_left
   ·intro w' hSw; (try dsimp only at hSw); go_simp
    all_goals (with_reducible rfl)
   simp only [zP, zO, zA, zB, zC, zD, zE, zF]
   refine tkH 10 ?_ rfl (by kernel_rfl) (fun _ _ _ h => h) ?_ hHeld ?_
   rotate_left
   ·intro w' hSw; (try dsimp only at hSw); go_simp
    all_goals (with_reducible rfl)
   simp only [zP, zO, zA, zB, zC, zD, zE, zF]
   refine wpAnyH_take (i := 11) (v := undef) rfl (by kernel_rfl) (by kernel_rfl) (by kernel_rfl) (fun _ _ _ h => h) (Or.inr ⟨by kernel_rfl, rfl⟩) hHeld ?_
   simp only [zP, zO, zA, zB, zC, zD, zE, zF]
   refine wpAnyH_take (i := 12) (v := undef) rfl (by kernel_rfl) (by kernel_rfl) (by kernel_rfl) (fun _ _ _ h => h) (Or.inr ⟨by kernel_rfl, rfl⟩) hHeld ?_
   simp only [zP, zO, zA, zB, zC, zD, zE, zF]
   refine wpAnyH_take (i := 13) (v := undef) rfl (by kernel_rfl) (by kernel_rfl) (by kernel_rfl) (fun _ _ _ h => h) (Or.inr ⟨by kernel_rfl, rfl⟩) hHeld ?_
   simp only [zP, zO, zA, zB, zC, zD, zE, zF]
   refine tkH 14 ?_ rfl (by kernel_rfl) (fun _ _ _ h => h) ?_ hHeld ?_
   rotate_left
   ·intro w' hSw; (try dsimp only at hSw); go_simp
    all_goals (with_reducible rfl)
   simp only [zP, zO, zA, zB, zC, zD, zE, zF]
   refine tkH 15 ?_ rfl (by kernel_rfl) (fun _ _ _ h => h) ?_ hHeld ?_
   rotate_left
   ·intro w' hSw; (try dsimp only at hSw); go_simp
    all_goals (with_reducible rfl)
   simp only [zP, zO, zA, zB, zC, zD, zE, zF]
   refine tkH 16 ?_ rfl (by kernel_rfl) (fun _ _ _ h => h) ?_ hHeld ?_
   rotate_left
   ·intro w' hSw; (try dsimp only at hSw); go_simp
    all_goals (with_reducible rfl)
   simp only [zP, zO, zA, zB, zC, zD, zE, zF]
   refine wpAnyH_done (by kernel_rfl) ?_ _
   clear v0 v1 v2 v3 v4 v5 hHeld
   go_wp2_with fail
   go_ret2
   refine ⟨na, nn, nc, by rw [hokH.out]; rfl, fun _ => ?_, (hst1H.out.tail hs2H.out).tail hs3H.out⟩
   rw [henH.out]
   have hr3 : Row w3 (.slice na nn nc) (layI 4 n) := ownsRow_step hr2H.out hs3H.out (fun k _ => by simp)
   exact ⟨hnnH.out, row_bin hr3 (fun k hk => .inr (by have := hnew2H.out k hk; have : W1.drew.heap.size = W1.heap.size := rfl; omega))⟩

theorem okV_bool {d : Nat} {n : Int} {s b : Bs} {f : List (Bs × Val)} {l : List Val} : okV d (.mk 10 n s b f l) = (bareB (.mk 10 n s b f l) true false false false false && decide (n = 0 ∨ n = 1)) ∧ encV (.mk 10 n s b f l) = layI 1 n := by
 rw [okV, encV]; simp [Val.plain, bareB, codeOf]
set_option maxRecDepth 100000 in
set_option maxHeartbeats 8000000 in
theorem own_bool {P : Nat → Prop} {w : World} {d : Nat} {k n : Int} {s b : Bs} {f : List (Bs × Val)} {l : List Val} {cs : List Value} (hk : k = 10) (hx : VIs P w (.mk k n s b f l) cs) :
  Calls Tryz.prog 43 #[.agg cs.toArray, .int .i64 ((d : Int) + 1)] w (OwnP P (.mk k n s b f l) d w) := by
 obtain ⟨bv, fa, fc, la, lc, hcs, hb, ⟨hfc, hlc, hfz, hlz⟩, ⟨hk1, hk2, hn1, hn2⟩, -, hf, hl⟩ := hx.cells
 obtain ⟨ba, bc, rfl⟩ := hb.shape
 simp only [Val.kind, Val.num, Val.s, Val.b, Val.f, Val.l] at *
 obtain ⟨S0, hS0⟩ : ∃ k, k = strOf s := ⟨_, rfl⟩
 obtain ⟨bn, hbn⟩ : ∃ k, k = b.length := ⟨_, rfl⟩
 obtain ⟨ln, hln⟩ : ∃ k, k = l.length := ⟨_, rfl⟩
 obtain ⟨fn, hfn⟩ : ∃ k, k = f.length := ⟨_, rfl⟩
 rw [← hS0, ← hbn, ← hln, ← hfn] at hcs
 rw [← hbn] at hb
 subst hcs
 obtain ⟨W1, hW1⟩ : ∃ W1, W1 = w.alloc (.cells #[.int .i64 k, .int .i64 n, .string S0, .slice ba bn bc, .slice fa fn fc, .slice la ln lc] 35) := ⟨_, rfl⟩
 have hst1 : Step [] id id w W1 := by rw [hW1]; exact Step.alloc _
 have hV : W1.heap[w.heap.size]? = some (.cells #[.int .i64 k, .int .i64 n, .string S0, .slice ba bn bc, .slice fa fn fc, .slice la ln lc] 35 (0, 0)) := by rw [hW1]; exact heap_alloc_new _ _
 have hx1 := hx.keep (P2 := P) (w' := W1) (fun _ h => h) (fun k hP hk => (hst1.keep k hk (by simp)).2)
 obtain ⟨v0, v1, v2, v3, v4, v5⟩ := cells_of6P hV
 have hVl : w.heap.size < W1.heap.size := lt_of_block hV
 have hVH := Lib.hid hV
 have hx1H := Lib.hid hx1
 have hW1H := Lib.hid hW1
 have hst1H := Lib.hid hst1
 have hS0H := Lib.hid hS0
 have hbnH := Lib.hid hbn
 have hlnH := Lib.hid hln
 have hfnH := Lib.hid hfn
 have hbH := Lib.hid hb
 have hfH := Lib.hid hf
 have hlH := Lib.hid hl
 clear hx hb hf hl hS0 hbn hln hfn hst1 hV hx1 hW1 hfc hlc hfz hlz hk1 hk2
 subst hk
 obtain ⟨he, hen⟩ := okV_bool (d := d) (n := n) (s := s) (b := b) (f := f) (l := l)
 have hbc := Lib.hid (fun (W : World) (hW : Step [] id id W1 W) => ref_bare_n (hx1H.out.keep (P2 := P) (w' := W) (fun _ h => h) (fun k hP hk => (hW.keep k hk (by simp)).2)))
 have heH := Lib.hid he
 have henH := Lib.hid hen
 clear he hen
 obtain ⟨r, hr⟩ : ∃ r, r = bareB (.mk 10 n s b f l) true false false false false := ⟨_, rfl⟩
 have hrH := Lib.hid hr
 clear hr
 cases r
 ·have hokH := Lib.hid (show okV d (.mk 10 n s b f l) = false by rw [heH.out, ← hrH.out]; rfl)
  go_enter Tryz.func43, Tryz.ntmps43
  go_wp2_with fail
  rw [← hW1H.out]
  refine wp_region_held_drew (S := fun w' => w'.cell? ⟨w.heap.size, 0, none⟩ = some (.int .i64 10) ∧ w'.cell? ⟨w.heap.size, 1, none⟩ = some (.int .i64 n) ∧ w'.cell? ⟨w.heap.size, 2, none⟩ = some (.string S0) ∧ w'.cell? ⟨w.heap.size, 3, none⟩ = some (.slice ba bn bc) ∧ w'.cell? ⟨w.heap.size, 4, none⟩ = some (.slice fa fn fc) ∧ w'.cell? ⟨w.heap.size, 5, none⟩ = some (.slice la ln lc)) (by kernel_rfl) ⟨v0, v1, v2, v3, v4, v5⟩ (fun hHeld => ?_)
  refine tkH 0 ?_ rfl (by kernel_rfl) (fun _ _ _ h => h) ?_ hHeld ?_
  rotate_left
  ·intro w' hSw; (try dsimp only at hSw); go_simp
   all_goals (with_reducible rfl)
  simp only [zP, zO, zA, zB, zC, zD, zE, zF]
  refine tkH 1 ?_ rfl (by kernel_rfl) (fun _ _ _ h => h) ?_ hHeld ?_
  rotate_left
  ·intro w' hSw; (try dsimp only at hSw); go_simp
   all_goals (with_reducible rfl)
  simp only [zP, zO, zA, zB, zC, zD, zE, zF]
  refine tkH 3 ?_ rfl (by kernel_rfl) (fun _ _ _ h => h) ?_ hHeld ?_
  rotate_left
  ·intro w' hSw; (try dsimp only at hSw); go_simp
   all_goals (with_reducible rfl)
  simp only [zP, zO, zA, zB, zC, zD, zE, zF]
  refine wpAnyH_ready (rs := [2]) (by kernel_rfl) (by simp) ?_
  refine AllReadyH.cons (o := _) rfl (fun K hK => ?_) AllReadyH.nil
  go_simp
  refine (ref_num n 1 W1.drew (by omega) ⟨hn1, hn2⟩).mono ?_
  rintro e w2 ⟨nv, rfl, hr2, hs2, hnew2⟩
  obtain ⟨na, nn, nc, rfl, hnn⟩ := hr2.shapeN
  have hs2r : Step [] id id W1 w2 := Step.drew.tail hs2
  have hs2H := Lib.hid hs2r
  have hr2H := Lib.hid hr2
  have hnew2H := Lib.hid hnew2
  have hnnH := Lib.hid hnn
  clear hs2 hs2r hr2 hnew2 hnn
  go_wp2_with fail
  refine hK.out _ _ ?_ (fun hHeld => ?_)
  ·exact cells_of6P (hs2H.out.at hVH.out (by simp))
  clear hK K
  refine wpAnyH_ready (rs := [4]) (by kernel_rfl) (by simp) ?_
  refine AllReadyH.cons (o := _) rfl (fun K hK => ?_) AllReadyH.nil
  go_simp
  refine (hbc.out w2 hs2H.out).mono ?_
  rintro e w3 ⟨rfl, hs3⟩
  rw [← hrH.out]
  have hs3H := Lib.hid hs3
  clear hs3
  go_wp2_with fail
  refine hK.out _ _ ?_ (fun hHeld => ?_)
  ·exact cells_of6P ((hs2H.out.tail hs3H.out).at hVH.out (by simp))
  clear hK K
  refine tkH 5 ?_ rfl (by kernel_rfl) (fun _ _ _ h => h) ?_ hHeld ?_
  rotate_left
  ·intro w' hSw; (try dsimp only at hSw); go_simp
   all_goals (with_reducible rfl)
  simp only [zP, zO, zA, zB, zC, zD, zE, zF]
  refine wpAnyH_take (i := 6) (v := undef) rfl (by kernel_rfl) (by kernel_rfl) (by kernel_rfl) (fun _ _ _ h => h) (Or.inr ⟨by kernel_rfl, rfl⟩) hHeld ?_
  simp only [zP, zO, zA, zB, zC, zD, zE, zF]
  refine wpAnyH_take (i := 7) (v := undef) rfl (by kernel_rfl) (by kernel_rfl) (by kernel_rfl) (fun _ _ _ h => h) (Or.inr ⟨by kernel_rfl, rfl⟩) hHeld ?_
  simp only [zP, zO, zA, zB, zC, zD, zE, zF]
  refine wpAnyH_take (i := 8) (v := undef) rfl (by kernel_rfl) (by kernel_rfl) (by kernel_rfl) (fun _ _ _ h => h) (Or.inr ⟨by kernel_rfl, rfl⟩) hHeld ?_
  simp only [zP, zO, zA, zB, zC, zD, zE, zF]
  refine wpAnyH_take (i := 9) (v := undef) rfl (by kernel_rfl) (by kernel_rfl) (by kernel_rfl) (fun _ _ _ h => h) (Or.inr ⟨by kernel_rfl, rfl⟩) hHeld ?_
  simp only [zP, zO, zA, zB, zC, zD, zE, zF]
  refine wpAnyH_take (i := 10) (v := undef) rfl (by kernel_rfl) (by kernel_rfl) (by kernel_rfl) (fun _ _ _ h => h) (Or.inr ⟨by kernel_rfl, rfl⟩) hHeld ?_
  simp only [zP, zO, zA, zB, zC, zD, zE, zF]
  refine wpAnyH_take (i := 11) (v := undef) rfl (by kernel_rfl) (by kernel_rfl) (by kernel_rfl) (fun _ _ _ h => h) (Or.inr ⟨by kernel_rfl, rfl⟩) hHeld ?_
  simp only [zP, zO, zA, zB, zC, zD, zE, zF]
  refine wpAnyH_take (i := 12) (v := undef) rfl (by kernel_rfl) (by kernel_rfl) (by kernel_rfl) (fun _ _ _ h => h) (Or.inr ⟨by kernel_rfl, rfl⟩) hHeld ?_
  simp only [zP, zO, zA, zB, zC, zD, zE, zF]
  refine wpAnyH_take (i := 13) (v := undef) rfl (by kernel_rfl) (by kernel_rfl) (by kernel_rfl) (fun _ _ _ h => h) (Or.inr ⟨by kernel_rfl, rfl⟩) hHeld ?_
  simp only [zP, zO, zA, zB, zC, zD, zE, zF]
  refine tkH 14 ?_ rfl (by kernel_rfl) (fun _ _ _ h => h) ?_ hHeld ?_
  rotate_left
  ·intro w' hSw; (try dsimp only at hSw); go_simp
   all_goals (with_reducible rfl)
  simp only [zP, zO, zA, zB, zC, zD, zE, zF]
  refine tkH 15 ?_ rfl (by kernel_rfl) (fun _ _ _ h => h) ?_ hHeld ?_
  rotate_left
  ·intro w' hSw; (try dsimp only at hSw); go_simp
   all_goals (with_reducible rfl)
  simp only [zP, zO, zA, zB, zC, zD, zE, zF]
  refine tkH 16 ?_ rfl (by kernel_rfl) (fun _ _ _ h => h) ?_ hHeld ?_
  rotate_left
  ·intro w' hSw; (try dsimp only at hSw); go_simp
   all_goals (with_reducible rfl)
  simp only [zP, zO, zA, zB, zC, zD, zE, zF]
  refine wpAnyH_done (by kernel_rfl) ?_ _
  clear v0 v1 v2 v3 v4 v5 hHeld
  go_wp2_with fail
  go_ret2
  refine ⟨na, nn, nc, by rw [hokH.out]; rfl, fun _ => ?_, (hst1H.out.tail hs2H.out).tail hs3H.out⟩
  rw [henH.out]
  have hr3 : Row w3 (.slice na nn nc) (layI 1 n) := ownsRow_step hr2H.out hs3H.out (fun k _ => by simp)
  exact ⟨hnnH.out, row_bin hr3 (fun k hk => .inr (by have := hnew2H.out k hk; have : W1.drew.heap.size = W1.heap.size := rfl; omega))⟩
 ·by_cases h0 : n = 0
  ·have hd0 : (n == 0) = true := by rw [beq_iff_eq]; exact h0
   have hokH := Lib.hid (show okV d (.mk 10 n s b f l) = true by rw [heH.out, ← hrH.out, decide_eq_true (by omega)]; rfl)
   clear h0
   go_enter Tryz.func43, Tryz.ntmps43
   go_wp2_with fail
   rw [← hW1H.out]
   refine wp_region_held_drew (S := fun w' => w'.cell? ⟨w.heap.size, 0, none⟩ = some (.int .i64 10) ∧ w'.cell? ⟨w.heap.size, 1, none⟩ = some (.int .i64 n) ∧ w'.cell? ⟨w.heap.size, 2, none⟩ = some (.string S0) ∧ w'.cell? ⟨w.heap.size, 3, none⟩ = some (.slice ba bn bc) ∧ w'.cell? ⟨w.heap.size, 4, none⟩ = some (.slice fa fn fc) ∧ w'.cell? ⟨w.heap.size, 5, none⟩ = some (.slice la ln lc)) (by kernel_rfl) ⟨v0, v1, v2, v3, v4, v5⟩ (fun hHeld => ?_)
   refine tkH 0 ?_ rfl (by kernel_rfl) (fun _ _ _ h => h) ?_ hHeld ?_
   rotate_left
   ·intro w' hSw; (try dsimp only at hSw); go_simp
    all_goals (with_reducible rfl)
   simp only [zP, zO, zA, zB, zC, zD, zE, zF]
   refine tkH 1 ?_ rfl (by kernel_rfl) (fun _ _ _ h => h) ?_ hHeld ?_
   rotate_left
   ·intro w' hSw; (try dsimp only at hSw); go_simp
    all_goals (with_reducible rfl)
   simp only [zP, zO, zA, zB, zC, zD, zE, zF]
   refine tkH 3 ?_ rfl (by kernel_rfl) (fun _ _ _ h => h) ?_ hHeld ?_
   rotate_left
   ·intro w' hSw; (try dsimp only at hSw); go_simp
    all_goals (with_reducible rfl)
   simp only [zP, zO, zA, zB, zC, zD, zE, zF]
   refine wpAnyH_ready (rs := [2]) (by kernel_rfl) (by simp) ?_
   refine AllReadyH.cons (o := _) rfl (fun K hK => ?_) AllReadyH.nil
   go_simp
   refine (ref_num n 1 W1.drew (by omega) ⟨hn1, hn2⟩).mono ?_
   rintro e w2 ⟨nv, rfl, hr2, hs2, hnew2⟩
   obtain ⟨na, nn, nc, rfl, hnn⟩ := hr2.shapeN
   have hs2r : Step [] id id W1 w2 := Step.drew.tail hs2
   have hs2H := Lib.hid hs2r
   have hr2H := Lib.hid hr2
   have hnew2H := Lib.hid hnew2
   have hnnH := Lib.hid hnn
   clear hs2 hs2r hr2 hnew2 hnn
   go_wp2_with fail
   refine hK.out _ _ ?_ (fun hHeld => ?_)
   ·exact cells_of6P (hs2H.out.at hVH.out (by simp))
   clear hK K
   refine wpAnyH_ready (rs := [4]) (by kernel_rfl) (by simp) ?_
   refine AllReadyH.cons (o := _) rfl (fun K hK => ?_) AllReadyH.nil
   go_simp
   refine (hbc.out w2 hs2H.out).mono ?_
   rintro e w3 ⟨rfl, hs3⟩
   rw [← hrH.out]
   have hs3H := Lib.hid hs3
   clear hs3
   go_wp2_with fail
   refine hK.out _ _ ?_ (fun hHeld => ?_)
   ·exact cells_of6P ((hs2H.out.tail hs3H.out).at hVH.out (by simp))
   clear hK K
   refine tkH 5 ?_ rfl (by kernel_rfl) (fun _ _ _ h => h) ?_ hHeld ?_
   rotate_left
   ·intro w' hSw; (try dsimp only at hSw); go_simp
    all_goals (with_reducible rfl)
   simp only [zP, zO, zA, zB, zC, zD, zE, zF]
   refine tkH 6 ?_ rfl (by kernel_rfl) (fun _ _ _ h => h) ?_ hHeld ?_
   rotate_left
   ·intro w' hSw; (try dsimp only at hSw); go_simp
    all_goals (with_reducible rfl)
   simp only [zP, zO, zA, zB, zC, zD, zE, zF]
   refine tkH 7 ?_ rfl (by kernel_rfl) (fun _ _ _ h => h) ?_ hHeld ?_
   rotate_left
   ·intro w' hSw; (try dsimp only at hSw); go_simp
    all_goals (with_reducible rfl)
   simp only [zP, zO, zA, zB, zC, zD, zE, zF]
   refine tkH 8 ?_ rfl (by kernel_rfl) (fun _ _ _ h => h) ?_ hHeld ?_
   rotate_left
   ·intro w' hSw; (try dsimp only at hSw); go_simp
    all_goals (with_reducible rfl)
   simp only [zP, zO, zA, zB, zC, zD, zE, zF]
   refine tkH 9 ?_ rfl (by kernel_rfl) (fun _ _ _ h => h) ?_ hHeld ?_
   rotate_left
   ·intro w' hSw; (try dsimp only at hSw); go_simp
    all_goals (with_reducible rfl)
   simp only [zP, zO, zA, zB, zC, zD, zE, zF]
   refine wpAnyH_take (i := 10) (v := undef) rfl (by kernel_rfl) (by kernel_rfl) (by kernel_rfl) (fun _ _ _ h => h) (Or.inr ⟨by kernel_rfl, rfl⟩) hHeld ?_
   simp only [zP, zO, zA, zB, zC, zD, zE, zF]
   refine wpAnyH_take (i := 11) (v := undef) rfl (by kernel_rfl) (by kernel_rfl) (by kernel_rfl) (fun _ _ _ h => h) (Or.inr ⟨by kernel_rfl, rfl⟩) hHeld ?_
   simp only [zP, zO, zA, zB, zC, zD, zE, zF]
   refine wpAnyH_take (i := 12) (v := undef) rfl (by kernel_rfl) (by kernel_rfl) (by kernel_rfl) (fun _ _ _ h => h) (Or.inr ⟨by kernel_rfl, rfl⟩) hHeld ?_
   simp only [zP, zO, zA, zB, zC, zD, zE, zF]
   refine tkH 13 ?_ rfl (by kernel_rfl) (fun _ _ _ h => h) ?_ hHeld ?_
   rotate_left
   ·intro w' hSw; (try dsimp only at hSw); go_simp
    all_goals (with_reducible rfl)
   simp only [zP, zO, zA, zB, zC, zD, zE, zF]
   refine tkH 14 ?_ rfl (by kernel_rfl) (fun _ _ _ h => h) ?_ hHeld ?_
   rotate_left
   ·intro w' hSw; (try dsimp only at hSw); go_simp
    all_goals (with_reducible rfl)
   simp only [zP, zO, zA, zB, zC, zD, zE, zF]
   refine tkH 15 ?_ rfl (by kernel_rfl) (fun _ _ _ h => h) ?_ hHeld ?_
   rotate_left
   ·intro w' hSw; (try dsimp only at hSw); go_simp
    all_goals (with_reducible rfl)
   simp only [zP, zO, zA, zB, zC, zD, zE, zF]
   refine tkH 16 ?_ rfl (by kernel_rfl) (fun _ _ _ h => h) ?_ hHeld ?_
   rotate_left
   ·intro w' hSw; (try dsimp only at hSw); go_simp
    all_goals (with_reducible rfl)
   simp only [zP, zO, zA, zB, zC, zD, zE, zF]
   refine wpAnyH_done (by kernel_rfl) ?_ _
   clear v0 v1 v2 v3 v4 v5 hHeld
   go_wp2_with fail
   go_ret2
   refine ⟨na, nn, nc, by rw [hokH.out]; rfl, fun _ => ?_, (hst1H.out.tail hs2H.out).tail hs3H.out⟩
   rw [henH.out]
   have hr3 : Row w3 (.slice na nn nc) (layI 1 n) := ownsRow_step hr2H.out hs3H.out (fun k _ => by simp)
   exact ⟨hnnH.out, row_bin hr3 (fun k hk => .inr (by have := hnew2H.out k hk; have : W1.drew.heap.size = W1.heap.size := rfl; omega))⟩
  ·have hd0 : (n == 0) = false := by rw [beq_eq_false_iff_ne]; exact h0
   by_cases h1 : n = 1
   ·have hd1 : (n == 1) = true := by rw [beq_iff_eq]; exact h1
    have hokH := Lib.hid (show okV d (.mk 10 n s b f l) = true by rw [heH.out, ← hrH.out, decide_eq_true (by omega)]; rfl)
    clear h1
    go_enter Tryz.func43, Tryz.ntmps43
    go_wp2_with fail
    rw [← hW1H.out]
    refine wp_region_held_drew (S := fun w' => w'.cell? ⟨w.heap.size, 0, none⟩ = some (.int .i64 10) ∧ w'.cell? ⟨w.heap.size, 1, none⟩ = some (.int .i64 n) ∧ w'.cell? ⟨w.heap.size, 2, none⟩ = some (.string S0) ∧ w'.cell? ⟨w.heap.size, 3, none⟩ = some (.slice ba bn bc) ∧ w'.cell? ⟨w.heap.size, 4, none⟩ = some (.slice fa fn fc) ∧ w'.cell? ⟨w.heap.size, 5, none⟩ = some (.slice la ln lc)) (by kernel_rfl) ⟨v0, v1, v2, v3, v4, v5⟩ (fun hHeld => ?_)
    refine tkH 0 ?_ rfl (by kernel_rfl) (fun _ _ _ h => h) ?_ hHeld ?_
    rotate_left
    ·intro w' hSw; (try dsimp only at hSw); go_simp
     all_goals (with_reducible rfl)
    simp only [zP, zO, zA, zB, zC, zD, zE, zF]
    refine tkH 1 ?_ rfl (by kernel_rfl) (fun _ _ _ h => h) ?_ hHeld ?_
    rotate_left
    ·intro w' hSw; (try dsimp only at hSw); go_simp
     all_goals (with_reducible rfl)
    simp only [zP, zO, zA, zB, zC, zD, zE, zF]
    refine tkH 3 ?_ rfl (by kernel_rfl) (fun _ _ _ h => h) ?_ hHeld ?_
    rotate_left
    ·intro w' hSw; (try dsimp only at hSw); go_simp
     all_goals (with_reducible rfl)
    simp only [zP, zO, zA, zB, zC, zD, zE, zF]
    refine wpAnyH_ready (rs := [2]) (by kernel_rfl) (by simp) ?_
    refine AllReadyH.cons (o := _) rfl (fun K hK => ?_) AllReadyH.nil
    go_simp
    refine (ref_num n 1 W1.drew (by omega) ⟨hn1, hn2⟩).mono ?_
    rintro e w2 ⟨nv, rfl, hr2, hs2, hnew2⟩
    obtain ⟨na, nn, nc, rfl, hnn⟩ := hr2.shapeN
    have hs2r : Step [] id id W1 w2 := Step.drew.tail hs2
    have hs2H := Lib.hid hs2r
    have hr2H := Lib.hid hr2
    have hnew2H := Lib.hid hnew2
    have hnnH := Lib.hid hnn
    clear hs2 hs2r hr2 hnew2 hnn
    go_wp2_with fail
    refine hK.out _ _ ?_ (fun hHeld => ?_)
    ·exact cells_of6P (hs2H.out.at hVH.out (by simp))
    clear hK K
    refine wpAnyH_ready (rs := [4]) (by kernel_rfl) (by simp) ?_
    refine AllReadyH.cons (o := _) rfl (fun K hK => ?_) AllReadyH.nil
    go_simp
    refine (hbc.out w2 hs2H.out).mono ?_
    rintro e w3 ⟨rfl, hs3⟩
    rw [← hrH.out]
    have hs3H := Lib.hid hs3
    clear hs3
    go_wp2_with fail
    refine hK.out _ _ ?_ (fun hHeld => ?_)
    ·exact cells_of6P ((hs2H.out.tail hs3H.out).at hVH.out (by simp))
    clear hK K
    refine tkH 5 ?_ rfl (by kernel_rfl) (fun _ _ _ h => h) ?_ hHeld ?_
    rotate_left
    ·intro w' hSw; (try dsimp only at hSw); go_simp
     all_goals (with_reducible rfl)
    simp only [zP, zO, zA, zB, zC, zD, zE, zF]
    refine tkH 6 ?_ rfl (by kernel_rfl) (fun _ _ _ h => h) ?_ hHeld ?_
    rotate_left
    ·intro w' hSw; (try dsimp only at hSw); go_simp
     all_goals (with_reducible rfl)
    simp only [zP, zO, zA, zB, zC, zD, zE, zF]
    refine tkH 7 ?_ rfl (by kernel_rfl) (fun _ _ _ h => h) ?_ hHeld ?_
    rotate_left
    ·intro w' hSw; (try dsimp only at hSw); go_simp
     all_goals (with_reducible rfl)
    simp only [zP, zO, zA, zB, zC, zD, zE, zF]
    refine tkH 8 ?_ rfl (by kernel_rfl) (fun _ _ _ h => h) ?_ hHeld ?_
    rotate_left
    ·intro w' hSw; (try dsimp only at hSw); go_simp
     all_goals (with_reducible rfl)
    simp only [zP, zO, zA, zB, zC, zD, zE, zF]
    refine tkH 9 ?_ rfl (by kernel_rfl) (fun _ _ _ h => h) ?_ hHeld ?_
    rotate_left
    ·intro w' hSw; (try dsimp only at hSw); go_simp
     all_goals (with_reducible rfl)
    simp only [zP, zO, zA, zB, zC, zD, zE, zF]
    refine tkH 10 ?_ rfl (by kernel_rfl) (fun _ _ _ h => h) ?_ hHeld ?_
    rotate_left
    ·intro w' hSw; (try dsimp only at hSw); go_simp
     all_goals (with_reducible rfl)
    simp only [zP, zO, zA, zB, zC, zD, zE, zF]
    refine tkH 11 ?_ rfl (by kernel_rfl) (fun _ _ _ h => h) ?_ hHeld ?_
    rotate_left
    ·intro w' hSw; (try dsimp only at hSw); go_simp
     all_goals (with_reducible rfl)
    simp only [zP, zO, zA, zB, zC, zD, zE, zF]
    refine tkH 12 ?_ rfl (by kernel_rfl) (fun _ _ _ h => h) ?_ hHeld ?_
    rotate_left
    ·intro w' hSw; (try dsimp only at hSw); go_simp
     all_goals (with_reducible rfl)
    simp only [zP, zO, zA, zB, zC, zD, zE, zF]
    refine tkH 13 ?_ rfl (by kernel_rfl) (fun _ _ _ h => h) ?_ hHeld ?_
    rotate_left
    ·intro w' hSw; (try dsimp only at hSw); go_simp
     all_goals (with_reducible rfl)
    simp only [zP, zO, zA, zB, zC, zD, zE, zF]
    refine tkH 14 ?_ rfl (by kernel_rfl) (fun _ _ _ h => h) ?_ hHeld ?_
    rotate_left
    ·intro w' hSw; (try dsimp only at hSw); go_simp
     all_goals (with_reducible rfl)
    simp only [zP, zO, zA, zB, zC, zD, zE, zF]
    refine tkH 15 ?_ rfl (by kernel_rfl) (fun _ _ _ h => h) ?_ hHeld ?_
    rotate_left
    ·intro w' hSw; (try dsimp only at hSw); go_simp
     all_goals (with_reducible rfl)
    simp only [zP, zO, zA, zB, zC, zD, zE, zF]
    refine tkH 16 ?_ rfl (by kernel_rfl) (fun _ _ _ h => h) ?_ hHeld ?_
    rotate_left
    ·intro w' hSw; (try dsimp only at hSw); go_simp
     all_goals (with_reducible rfl)
    simp only [zP, zO, zA, zB, zC, zD, zE, zF]
    refine wpAnyH_done (by kernel_rfl) ?_ _
    clear v0 v1 v2 v3 v4 v5 hHeld
    go_wp2_with fail
    go_ret2
    refine ⟨na, nn, nc, by rw [hokH.out]; rfl, fun _ => ?_, (hst1H.out.tail hs2H.out).tail hs3H.out⟩
    rw [henH.out]
    have hr3 : Row w3 (.slice na nn nc) (layI 1 n) := ownsRow_step hr2H.out hs3H.out (fun k _ => by simp)
    exact ⟨hnnH.out, row_bin hr3 (fun k hk => .inr (by have := hnew2H.out k hk; have : W1.drew.heap.size = W1.heap.size := rfl; omega))⟩
   ·have hd1 : (n == 1) = false := by rw [beq_eq_false_iff_ne]; exact h1
    have hokH := Lib.hid (show okV d (.mk 10 n s b f l) = false by rw [heH.out, ← hrH.out, decide_eq_false (by omega)]; rfl)
    go_enter Tryz.func43, Tryz.ntmps43
    go_wp2_with fail
    rw [← hW1H.out]
    refine wp_region_held_drew (S := fun w' => w'.cell? ⟨w.heap.size, 0, none⟩ = some (.int .i64 10) ∧ w'.cell? ⟨w.heap.size, 1, none⟩ = some (.int .i64 n) ∧ w'.cell? ⟨w.heap.size, 2, none⟩ = some (.string S0) ∧ w'.cell? ⟨w.heap.size, 3, none⟩ = some (.slice ba bn bc) ∧ w'.cell? ⟨w.heap.size, 4, none⟩ = some (.slice fa fn fc) ∧ w'.cell? ⟨w.heap.size, 5, none⟩ = some (.slice la ln lc)) (by kernel_rfl) ⟨v0, v1, v2, v3, v4, v5⟩ (fun hHeld => ?_)
    refine tkH 0 ?_ rfl (by kernel_rfl) (fun _ _ _ h => h) ?_ hHeld ?_
    rotate_left
    ·intro w' hSw; (try dsimp only at hSw); go_simp
     all_goals (with_reducible rfl)
    simp only [zP, zO, zA, zB, zC, zD, zE, zF]
    refine tkH 1 ?_ rfl (by kernel_rfl) (fun _ _ _ h => h) ?_ hHeld ?_
    rotate_left
    ·intro w' hSw; (try dsimp only at hSw); go_simp
     all_goals (with_reducible rfl)
    simp only [zP, zO, zA, zB, zC, zD, zE, zF]
    refine tkH 3 ?_ rfl (by kernel_rfl) (fun _ _ _ h => h) ?_ hHeld ?_
    rotate_left
    ·intro w' hSw; (try dsimp only at hSw); go_simp
     all_goals (with_reducible rfl)
    simp only [zP, zO, zA, zB, zC, zD, zE, zF]
    refine wpAnyH_ready (rs := [2]) (by kernel_rfl) (by simp) ?_
    refine AllReadyH.cons (o := _) rfl (fun K hK => ?_) AllReadyH.nil
    go_simp
    refine (ref_num n 1 W1.drew (by omega) ⟨hn1, hn2⟩).mono ?_
    rintro e w2 ⟨nv, rfl, hr2, hs2, hnew2⟩
    obtain ⟨na, nn, nc, rfl, hnn⟩ := hr2.shapeN
    have hs2r : Step [] id id W1 w2 := Step.drew.tail hs2
    have hs2H := Lib.hid hs2r
    have hr2H := Lib.hid hr2
    have hnew2H := Lib.hid hnew2
    have hnnH := Lib.hid hnn
    clear hs2 hs2r hr2 hnew2 hnn
    go_wp2_with fail
    refine hK.out _ _ ?_ (fun hHeld => ?_)
    ·exact cells_of6P (hs2H.out.at hVH.out (by simp))
    clear hK K
    refine wpAnyH_ready (rs := [4]) (by kernel_rfl) (by simp) ?_
    refine AllReadyH.cons (o := _) rfl (fun K hK => ?_) AllReadyH.nil
    go_simp
    refine (hbc.out w2 hs2H.out).mono ?_
    rintro e w3 ⟨rfl, hs3⟩
    rw [← hrH.out]
    have hs3H := Lib.hid hs3
    clear hs3
    go_wp2_with fail
    refine hK.out _ _ ?_ (fun hHeld => ?_)
    ·exact cells_of6P ((hs2H.out.tail hs3H.out).at hVH.out (by simp))
    clear hK K
    refine tkH 5 ?_ rfl (by kernel_rfl) (fun _ _ _ h => h) ?_ hHeld ?_
    rotate_left
    ·intro w' hSw; (try dsimp only at hSw); go_simp
     all_goals (with_reducible rfl)
    simp only [zP, zO, zA, zB, zC, zD, zE, zF]
    refine tkH 6 ?_ rfl (by kernel_rfl) (fun _ _ _ h => h) ?_ hHeld ?_
    rotate_left
    ·intro w' hSw; (try dsimp only at hSw); go_simp
     all_goals (with_reducible rfl)
    simp only [zP, zO, zA, zB, zC, zD, zE, zF]
    refine tkH 7 ?_ rfl (by kernel_rfl) (fun _ _ _ h => h) ?_ hHeld ?_
    rotate_left
    ·intro w' hSw; (try dsimp only at hSw); go_simp
     all_goals (with_reducible rfl)
    simp only [zP, zO, zA, zB, zC, zD, zE, zF]
    refine tkH 8 ?_ rfl (by kernel_rfl) (fun _ _ _ h => h) ?_ hHeld ?_
    rotate_left
    ·intro w' hSw; (try dsimp only at hSw); go_simp
     all_goals (with_reducible rfl)
    simp only [zP, zO, zA, zB, zC, zD, zE, zF]
    refine tkH 9 ?_ rfl (by kernel_rfl) (fun _ _ _ h => h) ?_ hHeld ?_
    rotate_left
    ·intro w' hSw; (try dsimp only at hSw); go_simp
     all_goals (with_reducible rfl)
    simp only [zP, zO, zA, zB, zC, zD, zE, zF]
    refine tkH 10 ?_ rfl (by kernel_rfl) (fun _ _ _ h => h) ?_ hHeld ?_
    rotate_left
    ·intro w' hSw; (try dsimp only at hSw); go_simp
     all_goals (with_reducible rfl)
    simp only [zP, zO, zA, zB, zC, zD, zE, zF]
    refine tkH 11 ?_ rfl (by kernel_rfl) (fun _ _ _ h => h) ?_ hHeld ?_
    rotate_left
    ·intro w' hSw; (try dsimp only at hSw); go_simp
     all_goals (with_reducible rfl)
    simp only [zP, zO, zA, zB, zC, zD, zE, zF]
    refine tkH 12 ?_ rfl (by kernel_rfl) (fun _ _ _ h => h) ?_ hHeld ?_
    rotate_left
    ·intro w' hSw; (try dsimp only at hSw); go_simp
     all_goals (with_reducible rfl)
    simp only [zP, zO, zA, zB, zC, zD, zE, zF]
    refine tkH 13 ?_ rfl (by kernel_rfl) (fun _ _ _ h => h) ?_ hHeld ?_
    rotate_left
    ·intro w' hSw; (try dsimp only at hSw); go_simp
     all_goals (with_reducible rfl)
    simp only [zP, zO, zA, zB, zC, zD, zE, zF]
    refine tkH 14 ?_ rfl (by kernel_rfl) (fun _ _ _ h => h) ?_ hHeld ?_
    rotate_left
    ·intro w' hSw; (try dsimp only at hSw); go_simp
     all_goals (with_reducible rfl)
    simp only [zP, zO, zA, zB, zC, zD, zE, zF]
    refine tkH 15 ?_ rfl (by kernel_rfl) (fun _ _ _ h => h) ?_ hHeld ?_
    rotate_left
    ·intro w' hSw; (try dsimp only at hSw); go_simp
     all_goals (with_reducible rfl)
    simp only [zP, zO, zA, zB, zC, zD, zE, zF]
    refine tkH 16 ?_ rfl (by kernel_rfl) (fun _ _ _ h => h) ?_ hHeld ?_
    rotate_left
    ·intro w' hSw; (try dsimp only at hSw); go_simp
     all_goals (with_reducible rfl)
    simp only [zP, zO, zA, zB, zC, zD, zE, zF]
    refine wpAnyH_done (by kernel_rfl) ?_ _
    clear v0 v1 v2 v3 v4 v5 hHeld
    go_wp2_with fail
    go_ret2
    refine ⟨na, nn, nc, by rw [hokH.out]; rfl, fun _ => ?_, (hst1H.out.tail hs2H.out).tail hs3H.out⟩
    rw [henH.out]
    have hr3 : Row w3 (.slice na nn nc) (layI 1 n) := ownsRow_step hr2H.out hs3H.out (fun k _ => by simp)
    exact ⟨hnnH.out, row_bin hr3 (fun k hk => .inr (by have := hnew2H.out k hk; have : W1.drew.heap.size = W1.heap.size := rfl; omega))⟩

theorem okV_id {d : Nat} {n : Int} {s b : Bs} {f : List (Bs × Val)} {l : List Val} : okV d (.mk 9 n s b f l) = (bareB (.mk 9 n s b f l) false false true false false && decide (b.length = 12)) ∧ encV (.mk 9 n s b f l) = b := by
 rw [okV, encV]; simp [Val.plain, bareB, codeOf]
set_option maxRecDepth 100000 in
set_option maxHeartbeats 8000000 in
theorem own_id {P : Nat → Prop} {w : World} {d : Nat} {k n : Int} {s b : Bs} {f : List (Bs × Val)} {l : List Val} {cs : List Value} (hk : k = 9) (hx : VIs P w (.mk k n s b f l) cs) :
  Calls Tryz.prog 43 #[.agg cs.toArray, .int .i64 ((d : Int) + 1)] w (OwnP P (.mk k n s b f l) d w) := by
 obtain ⟨bv, fa, fc, la, lc, hcs, hb, ⟨hfc, hlc, hfz, hlz⟩, ⟨hk1, hk2, hn1, hn2⟩, -, hf, hl⟩ := hx.cells
 obtain ⟨ba, bc, rfl⟩ := hb.shape
 simp only [Val.kind, Val.num, Val.s, Val.b, Val.f, Val.l] at *
 obtain ⟨S0, hS0⟩ : ∃ k, k = strOf s := ⟨_, rfl⟩
 obtain ⟨bn, hbn⟩ : ∃ k, k = b.length := ⟨_, rfl⟩
 obtain ⟨ln, hln⟩ : ∃ k, k = l.length := ⟨_, rfl⟩
 obtain ⟨fn, hfn⟩ : ∃ k, k = f.length := ⟨_, rfl⟩
 rw [← hS0, ← hbn, ← hln, ← hfn] at hcs
 rw [← hbn] at hb
 subst hcs
 obtain ⟨W1, hW1⟩ : ∃ W1, W1 = w.alloc (.cells #[.int .i64 k, .int .i64 n, .string S0, .slice ba bn bc, .slice fa fn fc, .slice la ln lc] 35) := ⟨_, rfl⟩
 have hst1 : Step [] id id w W1 := by rw [hW1]; exact Step.alloc _
 have hV : W1.heap[w.heap.size]? = some (.cells #[.int .i64 k, .int .i64 n, .string S0, .slice ba bn bc, .slice fa fn fc, .slice la ln lc] 35 (0, 0)) := by rw [hW1]; exact heap_alloc_new _ _
 have hx1 := hx.keep (P2 := P) (w' := W1) (fun _ h => h) (fun k hP hk => (hst1.keep k hk (by simp)).2)
 obtain ⟨v0, v1, v2, v3, v4, v5⟩ := cells_of6P hV
 have hVl : w.heap.size < W1.heap.size := lt_of_block hV
 have hVH := Lib.hid hV
 have hx1H := Lib.hid hx1
 have hW1H := Lib.hid hW1
 have hst1H := Lib.hid hst1
 have hS0H := Lib.hid hS0
 have hbnH := Lib.hid hbn
 have hlnH := Lib.hid hln
 have hfnH := Lib.hid hfn
 have hbH := Lib.hid hb
 have hfH := Lib.hid hf
 have hlH := Lib.hid hl
 clear hx hb hf hl hS0 hbn hln hfn hst1 hV hx1 hW1 hfc hlc hfz hlz hk1 hk2
 subst hk
 obtain ⟨he, hen⟩ := okV_id (d := d) (n := n) (s := s) (b := b) (f := f) (l := l)
 have hbc := Lib.hid (fun (W : World) (hW : Step [] id id W1 W) => ref_bare_b (hx1H.out.keep (P2 := P) (w' := W) (fun _ h => h) (fun k hP hk => (hW.keep k hk (by simp)).2)))
 rw [← hbnH.out] at he
 have heH := Lib.hid he
 have henH := Lib.hid hen
 clear he hen
 obtain ⟨r, hr⟩ : ∃ r, r = bareB (.mk 9 n s b f l) false false true false false := ⟨_, rfl⟩
 have hrH := Lib.hid hr
 clear hr
 cases r
 ·have hokH := Lib.hid (show okV d (.mk 9 n s b f l) = false by rw [heH.out, ← hrH.out]; rfl)
  go_enter Tryz.func43, Tryz.ntmps43
  go_wp2_with fail
  rw [← hW1H.out]
  refine wp_region_held_drew (S := fun w' => w'.cell? ⟨w.heap.size, 0, none⟩ = some (.int .i64 9) ∧ w'.cell? ⟨w.heap.size, 1, none⟩ = some (.int .i64 n) ∧ w'.cell? ⟨w.heap.size, 2, none⟩ = some (.string S0) ∧ w'.cell? ⟨w.heap.size, 3, none⟩ = some (.slice ba bn bc) ∧ w'.cell? ⟨w.heap.size, 4, none⟩ = some (.slice fa fn fc) ∧ w'.cell? ⟨w.heap.size, 5, none⟩ = some (.slice la ln lc)) (by kernel_rfl) ⟨v0, v1, v2, v3, v4, v5⟩ (fun hHeld => ?_)
  refine tkH 0 ?_ rfl (by kernel_rfl) (fun _ _ _ h => h) ?_ hHeld ?_
  rotate_left
  ·intro w' hSw; (try dsimp only at hSw); go_simp
   all_goals (with_reducible rfl)
  simp only [zP, zO, zA, zB, zC, zD, zE, zF]
  refine tkH 1 ?_ rfl (by kernel_rfl) (fun _ _ _ h => h) ?_ hHeld ?_
  rotate_left
  ·intro w' hSw; (try dsimp only at hSw); go_simp
   all_goals (with_reducible rfl)
  simp only [zP, zO, zA, zB, zC, zD, zE, zF]
  refine tkH 2 ?_ rfl (by kernel_rfl) (fun _ _ _ h => h) ?_ hHeld ?_
  rotate_left
  ·intro w' hSw; (try dsimp only at hSw); go_simp
   all_goals (with_reducible rfl)
  simp only [zP, zO, zA, zB, zC, zD, zE, zF]
  refine wpAnyH_ready (rs := [3]) (by kernel_rfl) (by simp) ?_
  refine AllReadyH.cons (o := _) rfl (fun K hK => ?_) AllReadyH.nil
  go_simp
  refine (hbc.out W1.drew Step.drew).mono ?_
  rintro e w3 ⟨rfl, hs3⟩
  rw [← hrH.out]
  have hs3r : Step [] id id W1 w3 := Step.drew.tail hs3
  have hs3H := Lib.hid hs3r
  clear hs3 hs3r
  go_wp2_with fail
  refine hK.out _ _ ?_ (fun hHeld => ?_)
  ·exact cells_of6P (hs3H.out.at hVH.out (by simp))
  clear hK K
  refine tkH 4 ?_ rfl (by kernel_rfl) (fun _ _ _ h => h) ?_ hHeld ?_
  rotate_left
  ·intro w' hSw; (try dsimp only at hSw); go_simp
   all_goals (with_reducible rfl)
  simp only [zP, zO, zA, zB, zC, zD, zE, zF]
  refine wpAnyH_take (i := 5) (v := undef) rfl (by kernel_rfl) (by kernel_rfl) (by kernel_rfl) (fun _ _ _ h => h) (Or.inr ⟨by kernel_rfl, rfl⟩) hHeld ?_
  simp only [zP, zO, zA, zB, zC, zD, zE, zF]
  refine wpAnyH_take (i := 6) (v := undef) rfl (by kernel_rfl) (by kernel_rfl) (by kernel_rfl) (fun _ _ _ h => h) (Or.inr ⟨by kernel_rfl, rfl⟩) hHeld ?_
  simp only [zP, zO, zA, zB, zC, zD, zE, zF]
  refine wpAnyH_take (i := 7) (v := undef) rfl (by kernel_rfl) (by kernel_rfl) (by kernel_rfl) (fun _ _ _ h => h) (Or.inr ⟨by kernel_rfl, rfl⟩) hHeld ?_
  simp only [zP, zO, zA, zB, zC, zD, zE, zF]
  refine wpAnyH_take (i := 8) (v := undef) rfl (by kernel_rfl) (by kernel_rfl) (by kernel_rfl) (fun _ _ _ h => h) (Or.inr ⟨by kernel_rfl, rfl⟩) hHeld ?_
  simp only [zP, zO, zA, zB, zC, zD, zE, zF]
  refine tkH 9 ?_ rfl (by kernel_rfl) (fun _ _ _ h => h) ?_ hHeld ?_
  rotate_left
  ·intro w' hSw; (try dsimp only at hSw); go_simp
   all_goals (with_reducible rfl)
  simp only [zP, zO, zA, zB, zC, zD, zE, zF]
  refine tkH 10 ?_ rfl (by kernel_rfl) (fun _ _ _ h => h) ?_ hHeld ?_
  rotate_left
  ·intro w' hSw; (try dsimp only at hSw); go_simp
   all_goals (with_reducible rfl)
  simp only [zP, zO, zA, zB, zC, zD, zE, zF]
  refine tkH 11 ?_ rfl (by kernel_rfl) (fun _ _ _ h => h) ?_ hHeld ?_
  rotate_left
  ·intro w' hSw; (try dsimp only at hSw); go_simp
   all_goals (with_reducible rfl)
  simp only [zP, zO, zA, zB, zC, zD, zE, zF]
  refine wpAnyH_done (by kernel_rfl) ?_ _
  clear v0 v1 v2 v3 v4 v5 hHeld
  go_wp2_with fail
  go_ret2
  refine ⟨ba, bn, bc, by rw [hokH.out]; rfl, fun _ => ?_, hst1H.out.tail hs3H.out⟩
  rw [henH.out]
  exact ⟨hbnH.out, hbH.out.keep (fun k h => .inl h) (fun k hP hk => ((hst1H.out.tail hs3H.out).keep k hk (by simp)).2)⟩
 ·by_cases h0 : bn = 12
  ·have hd0 : ((bn : Int) == 12) = true := by rw [beq_iff_eq]; omega
   have hokH := Lib.hid (show okV d (.mk 9 n s b f l) = true by rw [heH.out, ← hrH.out, decide_eq_true h0]; rfl)
   clear h0
   go_enter Tryz.func43, Tryz.ntmps43
   go_wp2_with fail
   rw [← hW1H.out]
   refine wp_region_held_drew (S := fun w' => w'.cell? ⟨w.heap.size, 0, none⟩ = some (.int .i64 9) ∧ w'.cell? ⟨w.heap.size, 1, none⟩ = some (.int .i64 n) ∧ w'.cell? ⟨w.heap.size, 2, none⟩ = some (.string S0) ∧ w'.cell? ⟨w.heap.size, 3, none⟩ = some (.slice ba bn bc) ∧ w'.cell? ⟨w.heap.size, 4, none⟩ = some (.slice fa fn fc) ∧ w'.cell? ⟨w.heap.size, 5, none⟩ = some (.slice la ln lc)) (by kernel_rfl) ⟨v0, v1, v2, v3, v4, v5⟩ (fun hHeld => ?_)
   refine tkH 0 ?_ rfl (by kernel_rfl) (fun _ _ _ h => h) ?_ hHeld ?_
   rotate_left
   ·intro w' hSw; (try dsimp only at hSw); go_simp
    all_goals (with_reducible rfl)
   simp only [zP, zO, zA, zB, zC, zD, zE, zF]
   refine tkH 1 ?_ rfl (by kernel_rfl) (fun _ _ _ h => h) ?_ hHeld ?_
   rotate_left
   ·intro w' hSw; (try dsimp only at hSw); go_simp
    all_goals (with_reducible rfl)
   simp only [zP, zO, zA, zB, zC, zD, zE, zF]
   refine tkH 2 ?_ rfl (by kernel_rfl) (fun _ _ _ h => h) ?_ hHeld ?_
   rotate_left
   ·intro w' hSw; (try dsimp only at hSw); go_simp
    all_goals (with_reducible rfl)
   simp only [zP, zO, zA, zB, zC, zD, zE, zF]
   refine wpAnyH_ready (rs := [3]) (by kernel_rfl) (by simp) ?_
   refine AllReadyH.cons (o := _) rfl (fun K hK => ?_) AllReadyH.nil
   go_simp
   refine (hbc.out W1.drew Step.drew).mono ?_
   rintro e w3 ⟨rfl, hs3⟩
   rw [← hrH.out]
   have hs3r : Step [] id id W1 w3 := Step.drew.tail hs3
   have hs3H := Lib.hid hs3r
   clear hs3 hs3r
   go_wp2_with fail
   refine hK.out _ _ ?_ (fun hHeld => ?_)
   ·exact cells_of6P (hs3H.out.at hVH.out (by simp))
   clear hK K
   refine tkH 4 ?_ rfl (by kernel_rfl) (fun _ _ _ h => h) ?_ hHeld ?_
   rotate_left
   ·intro w' hSw; (try dsimp only at hSw); go_simp
    all_goals (with_reducible rfl)
   simp only [zP, zO, zA, zB, zC, zD, zE, zF]
   refine tkH 5 ?_ rfl (by kernel_rfl) (fun _ _ _ h => h) ?_ hHeld ?_
   rotate_left
   ·intro w' hSw; (try dsimp only at hSw); go_simp
    all_goals (with_reducible rfl)
   simp only [zP, zO, zA, zB, zC, zD, zE, zF]
   refine tkH 6 ?_ rfl (by kernel_rfl) (fun _ _ _ h => h) ?_ hHeld ?_
   rotate_left
   ·intro w' hSw; (try dsimp only at hSw); go_simp
    all_goals (with_reducible rfl)
   simp only [zP, zO, zA, zB, zC, zD, zE, zF]
   refine tkH 7 ?_ rfl (by kernel_rfl) (fun _ _ _ h => h) ?_ hHeld ?_
   rotate_left
   ·intro w' hSw; (try dsimp only at hSw); go_simp
    all_goals (with_reducible rfl)
   simp only [zP, zO, zA, zB, zC, zD, zE, zF]
   refine tkH 8 ?_ rfl (by kernel_rfl) (fun _ _ _ h => h) ?_ hHeld ?_
   rotate_left
   ·intro w' hSw; (try dsimp only at hSw); go_simp
    all_goals (with_reducible rfl)
   simp only [zP, zO, zA, zB, zC, zD, zE, zF]
   refine tkH 9 ?_ rfl (by kernel_rfl) (fun _ _ _ h => h) ?_ hHeld ?_
   rotate_left
   ·intro w' hSw; (try dsimp only at hSw); go_simp
    all_goals (with_reducible rfl)
   simp only [zP, zO, zA, zB, zC, zD, zE, zF]
   refine tkH 10 ?_ rfl (by kernel_rfl) (fun _ _ _ h => h) ?_ hHeld ?_
   rotate_left
   ·intro w' hSw; (try dsimp only at hSw); go_simp
    all_goals (with_reducible rfl)
   simp only [zP, zO, zA, zB, zC, zD, zE, zF]
   refine tkH 11 ?_ rfl (by kernel_rfl) (fun _ _ _ h => h) ?_ hHeld ?_
   rotate_left
   ·intro w' hSw; (try dsimp only at hSw); go_simp
    all_goals (with_reducible rfl)
   simp only [zP, zO, zA, zB, zC, zD, zE, zF]
   refine wpAnyH_done (by kernel_rfl) ?_ _
   clear v0 v1 v2 v3 v4 v5 hHeld
   go_wp2_with fail
   go_ret2
   refine ⟨ba, bn, bc, by rw [hokH.out]; rfl, fun _ => ?_, hst1H.out.tail hs3H.out⟩
   rw [henH.out]
   exact ⟨hbnH.out, hbH.out.keep (fun k h => .inl h) (fun k hP hk => ((hst1H.out.tail hs3H.out).keep k hk (by simp)).2)⟩
  ·have hd0 : ((bn : Int) == 12) = false := by rw [beq_eq_false_iff_ne]; omega
   have hokH := Lib.hid (show okV d (.mk 9 n s b f l) = false by rw [heH.out, ← hrH.out, decide_eq_false h0]; rfl)
   go_enter Tryz.func43, Tryz.ntmps43
   go_wp2_with fail
   rw [← hW1H.out]
   refine wp_region_held_drew (S := fun w' => w'.cell? ⟨w.heap.size, 0, none⟩ = some (.int .i64 9) ∧ w'.cell? ⟨w.heap.size, 1, none⟩ = some (.int .i64 n) ∧ w'.cell? ⟨w.heap.size, 2, none⟩ = some (.string S0) ∧ w'.cell? ⟨w.heap.size, 3, none⟩ = some (.slice ba bn bc) ∧ w'.cell? ⟨w.heap.size, 4, none⟩ = some (.slice fa fn fc) ∧ w'.cell? ⟨w.heap.size, 5, none⟩ = some (.slice la ln lc)) (by kernel_rfl) ⟨v0, v1, v2, v3, v4, v5⟩ (fun hHeld => ?_)
   refine tkH 0 ?_ rfl (by kernel_rfl) (fun _ _ _ h => h) ?_ hHeld ?_
   rotate_left
   ·intro w' hSw; (try dsimp only at hSw); go_simp
    all_goals (with_reducible rfl)
   simp only [zP, zO, zA, zB, zC, zD, zE, zF]
   refine tkH 1 ?_ rfl (by kernel_rfl) (fun _ _ _ h => h) ?_ hHeld ?_
   rotate_left
   ·intro w' hSw; (try dsimp only at hSw); go_simp
    all_goals (with_reducible rfl)
   simp only [zP, zO, zA, zB, zC, zD, zE, zF]
   refine tkH 2 ?_ rfl (by kernel_rfl) (fun _ _ _ h => h) ?_ hHeld ?_
   rotate_left
   ·intro w' hSw; (try dsimp only at hSw); go_simp
    all_goals (with_reducible rfl)
   simp only [zP, zO, zA, zB, zC, zD, zE, zF]
   refine wpAnyH_ready (rs := [3]) (by kernel_rfl) (by simp) ?_
   refine AllReadyH.cons (o := _) rfl (fun K hK => ?_) AllReadyH.nil
   go_simp
   refine (hbc.out W1.drew Step.drew).mono ?_
   rintro e w3 ⟨rfl, hs3⟩
   rw [← hrH.out]
   have hs3r : Step [] id id W1 w3 := Step.drew.tail hs3
   have hs3H := Lib.hid hs3r
   clear hs3 hs3r
   go_wp2_with fail
   refine hK.out _ _ ?_ (fun hHeld => ?_)
   ·exact cells_of6P (hs3H.out.at hVH.out (by simp))
   clear hK K
   refine tkH 4 ?_ rfl (by kernel_rfl) (fun _ _ _ h => h) ?_ hHeld ?_
   rotate_left
   ·intro w' hSw; (try dsimp only at hSw); go_simp
    all_goals (with_reducible rfl)
   simp only [zP, zO, zA, zB, zC, zD, zE, zF]
   refine tkH 5 ?_ rfl (by kernel_rfl) (fun _ _ _ h => h) ?_ hHeld ?_
   rotate_left
   ·intro w' hSw; (try dsimp only at hSw); go_simp
    all_goals (with_reducible rfl)
   simp only [zP, zO, zA, zB, zC, zD, zE, zF]
   refine tkH 6 ?_ rfl (by kernel_rfl) (fun _ _ _ h => h) ?_ hHeld ?_
   rotate_left
   ·intro w' hSw; (try dsimp only at hSw); go_simp
    all_goals (with_reducible rfl)
   simp only [zP, zO, zA, zB, zC, zD, zE, zF]
   refine tkH 7 ?_ rfl (by kernel_rfl) (fun _ _ _ h => h) ?_ hHeld ?_
   rotate_left
   ·intro w' hSw; (try dsimp only at hSw); go_simp
    all_goals (with_reducible rfl)
   simp only [zP, zO, zA, zB, zC, zD, zE, zF]
   refine tkH 8 ?_ rfl (by kernel_rfl) (fun _ _ _ h => h) ?_ hHeld ?_
   rotate_left
   ·intro w' hSw; (try dsimp only at hSw); go_simp
    all_goals (with_reducible rfl)
   simp only [zP, zO, zA, zB, zC, zD, zE, zF]
   refine tkH 9 ?_ rfl (by kernel_rfl) (fun _ _ _ h => h) ?_ hHeld ?_
   rotate_left
   ·intro w' hSw; (try dsimp only at hSw); go_simp
    all_goals (with_reducible rfl)
   simp only [zP, zO, zA, zB, zC, zD, zE, zF]
   refine tkH 10 ?_ rfl (by kernel_rfl) (fun _ _ _ h => h) ?_ hHeld ?_
   rotate_left
   ·intro w' hSw; (try dsimp only at hSw); go_simp
    all_goals (with_reducible rfl)
   simp only [zP, zO, zA, zB, zC, zD, zE, zF]
   refine tkH 11 ?_ rfl (by kernel_rfl) (fun _ _ _ h => h) ?_ hHeld ?_
   rotate_left
   ·intro w' hSw; (try dsimp only at hSw); go_simp
    all_goals (with_reducible rfl)
   simp only [zP, zO, zA, zB, zC, zD, zE, zF]
   refine wpAnyH_done (by kernel_rfl) ?_ _
   clear v0 v1 v2 v3 v4 v5 hHeld
   go_wp2_with fail
   go_ret2
   refine ⟨ba, bn, bc, by rw [hokH.out]; rfl, fun _ => ?_, hst1H.out.tail hs3H.out⟩
   rw [henH.out]
   exact ⟨hbnH.out, hbH.out.keep (fun k h => .inl h) (fun k hP hk => ((hst1H.out.tail hs3H.out).keep k hk (by simp)).2)⟩
end Go.Proofs.YtembpajlllnncaaGreatDoor
