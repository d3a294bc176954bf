/- AccumAdds: any accumulator, whatever comes: each answer, its value, its size are those of the reference: the tied card. No condition besides what the row lists. -/
import Derived.Test.YtembpajlllnncaaGreatDoorAcF
import Derived.Test.YtembpajlllnncaaGreatDoorAdV
set_option linter.unusedVariables false
set_option linter.unusedSimpArgs false
namespace Go.Proofs.YtembpajlllnncaaGreatDoor
open Go.ChangeShapes Go.WideShapes Go.ChangeAt Go.RowKit

theorem add_block (a : Addr) (n : Nat) : (a.add n).block = a.block := by unfold Addr.add; split <;> rfl
theorem add_off (a : Addr) (n : Nat) : (a.add n).off = a.off + n := by unfold Addr.add; split <;> simp_all
theorem range_of_cells {W : World} {base : Nat} {a : Addr} {n : Nat} {cs : List Value} (h : W.cells? base a n = some cs) (hn : 0 < n) :
  cs.length = n ∧ a.spot = none ∧ W.rangeAt a.block a.off cs ∧ a.block < W.heap.size := by
 unfold World.cells? at h
 split at h
 ·have hl : cs.length = n := by simpa using mapM_some_length h
  have hg : ∀ i, i < n → W.cell? (a.add i) = cs[i]? := fun i hi => mapM_some_get h i i (by simp [hi])
  have h0 : W.cell? a = some (cs[0]'(by omega)) := by
   have := hg 0 hn
   rw [show a.add 0 = a from by simp [Addr.add], List.getElem?_eq_getElem (by omega)] at this
   exact this
  have hs : a.spot = none := World.cell?_spot h0
  refine ⟨hl, hs, fun j v hj => ?_, World.block_lt_of_cell? W _ h0⟩
  have hjn : j < n := by
   rw [← hl]; exact (List.getElem?_eq_some_iff.1 hj).1
  have := hg j hjn
  rw [hj] at this
  have e : a.add j = ⟨a.block, a.off + j, none⟩ := by
   obtain ⟨b, o, s⟩ := a
   simp only at hs
   subst hs
   exact addr_add b o j
  rw [e] at this
  exact this
 ·cases h

section
variable {H : Type} {enc : TypeId × Value → H} {W : World} {base : Nat} {sp : Nat → Bool} {held : Bool}
theorem mem_weightsAll {P : Program} {e : TypeId} {d : DataW H} {n : Nat} : ∀ {l : List (DataW H)}, d ∈ l → n ∈ d.weights P e → n ∈ DataW.weightsAll P e l
 | x :: r, h, hn => by
  simp only [DataW.weightsAll, List.mem_append]
  rcases List.mem_cons.1 h with rfl | h
  ·exact .inl hn
  ·exact .inr (mem_weightsAll h hn)

theorem c_u8 : Tryz.prog.cellsOf 5 = 1 := by kernel_rfl
theorem c_val : Tryz.prog.cellsOf 35 = 6 := by kernel_rfl
theorem c_fld : Tryz.prog.cellsOf 38 = 7 := by kernel_rfl
theorem c_bys : Tryz.prog.cellsOf 32 = 1 := by kernel_rfl
theorem c_str : Tryz.prog.cellsOf 9 = 1 := by kernel_rfl
theorem c_int : Tryz.prog.cellsOf 3 = 1 := by kernel_rfl
theorem c_i64 : Tryz.prog.cellsOf 2 = 1 := by kernel_rfl
theorem c_fls : Tryz.prog.cellsOf 33 = 1 := by kernel_rfl
theorem c_vls : Tryz.prog.cellsOf 22 = 1 := by kernel_rfl
theorem y_u8 : Tryz.prog.bytesOf 5 = 1 := by kernel_rfl
theorem y_val : Tryz.prog.bytesOf 35 = 104 := by kernel_rfl
theorem y_fld : Tryz.prog.bytesOf 38 = 120 := by kernel_rfl

/-- Bytes that came in. -/
theorem bin_of_trod {N : Nat} {cs : List Value} {x : DataW H × List MemPlace} (h : DataW.trod enc Tryz.prog W base sp held N 32 cs = some x) (hw : ∀ n ∈ x.1.weights Tryz.prog 32, n ≤ reachBytes) :
  ∃ (c : Value) (b : Bs), cs = [c] ∧ BIn (fun k => k < W.heap.size) W c b ∧ b.length ≤ 140737488351232 := by
 rcases DataW.trod_slice Tryz.underlying32 h with ⟨rfl, -⟩ | ⟨a, len, cap, elems, rest, n, rfl, rfl, rfl, -, hlc, -, hel, hget, -, -⟩
 ·exact ⟨_, [], rfl, .inl ⟨none, 0, rfl, rfl, fun _ => rfl⟩, by simp⟩
 ·have hb := hw ((elems.length + rest.length) * 1) (by simp only [DataW.weights, Tryz.underlying32, y_u8, List.length_map]; exact List.mem_cons_self ..)
  simp only [reachBytes] at hb
  have hcell : ∀ i, i < len → ∃ u : UInt8, W.cell? (a.add i) = some (.int .u8 (u.toNat : Int)) := by
   intro i hi
   have hg := hget i hi
   rw [List.getElem?_eq_getElem (by omega)] at hg
   obtain ⟨cs', hc, ht⟩ := Option.bind_eq_some_iff.1 hg
   rw [c_u8, Nat.mul_one] at hc
   obtain ⟨z, rfl, -, hwf⟩ := DataW.trod_int Tryz.underlying5 ht
   have hz := bounds_u8 hwf
   have hc2 := mapM_some_get (show (List.range 1).mapM (fun j => W.cell? ((a.add i).add j)) = some [.int .u8 z] by unfold World.cells? at hc; split at hc <;> simp_all) 0 0 rfl
   refine ⟨UInt8.ofNat z.toNat, ?_⟩
   rw [show (a.add i).add 0 = a.add i from by simp [Addr.add]] at hc2
   rw [hc2, UInt8.toNat_ofNat']
   simp
   omega
  by_cases hl0 : len = 0
  ·subst hl0
   exact ⟨_, [], rfl, .inl ⟨some a, cap, rfl, rfl, fun h => by cases h⟩, by simp⟩
  ·have hch : ∃ b : Bs, b.length = len ∧ ∀ i (hi : i < b.length), W.cell? (a.add i) = some (.int .u8 (b[i].toNat : Int)) := by
    refine ⟨(List.range len).map fun i => if h : i < len then Classical.choose (hcell i h) else 0, by simp, fun i hi => ?_⟩
    have hi' : i < len := by simpa using hi
    simp only [List.getElem_map, List.getElem_range, dif_pos hi']
    exact Classical.choose_spec (hcell i hi')
   obtain ⟨b, hbl, hbc⟩ := hch
   obtain ⟨blk, o, s⟩ := a
   have h0 := hbc 0 (by omega)
   have hs : s = none := World.cell?_spot (by simpa [Addr.add] using h0)
   subst hs
   refine ⟨_, b, rfl, .inr ⟨blk, o, cap, by rw [hbl], by omega, ?_, fun i hi => ?_⟩, by omega⟩
   ·have := World.block_lt_of_cell? W _ h0
    rw [add_block] at this
    exact this
   ·rw [← addr_add]; exact hbc i hi

theorem int_of_trod {k : IntKind} {t : TypeId} (ht : Tryz.prog.underlying t = some (.int k)) {N : Nat} {c : Value} {x : DataW H × List MemPlace} (h : DataW.trod enc Tryz.prog W base sp held N t [c] = some x) : ∃ n, c = .int k n ∧ (Lit.int k n).wf = true := by
 obtain ⟨n, hc, -, hwf⟩ := DataW.trod_int ht h
 exact ⟨n, by simpa using hc, hwf⟩
theorem string_of_trod {N : Nat} {c : Value} {x : DataW H × List MemPlace} (h : DataW.trod enc Tryz.prog W base sp held N 9 [c] = some x) (hw : ∀ n ∈ x.1.weights Tryz.prog 9, n ≤ reachBytes) : ∃ s : Bs, c = .string (strOf s) ∧ s.length ≤ 140737488351232 := by
 obtain ⟨s, hc, rfl, -⟩ := DataW.trod_string Tryz.underlying9 h
 refine ⟨s.data.toList, by rw [strOf_back]; simpa using hc, ?_⟩
 have := hw s.data.toList.length (by simp [DataW.weights])
 simpa [reachBytes] using this

/-- Each element of a slice that came in. -/
theorem elems_of_trod {e t : TypeId} {K Y : Nat} (ht : Tryz.prog.underlying t = some (.slice e)) (hK : Tryz.prog.cellsOf e = K) (hK0 : 0 < K) (hY : Tryz.prog.bytesOf e = Y) (hY0 : 0 < Y) {N : Nat} {cs : List Value} {x : DataW H × List MemPlace}
  (h : DataW.trod enc Tryz.prog W base sp held N t cs = some x) (hw : ∀ n ∈ x.1.weights Tryz.prog t, n ≤ reachBytes) :
  ∃ a len cap, cs = [.slice a len cap] ∧ len ≤ cap ∧ (a = none → cap = 0) ∧ len ≤ 140737488351232 ∧
   ∀ i, i < len → ∃ b o cs' y n, n < N ∧ a = some ⟨b, o, none⟩ ∧ b < W.heap.size ∧ cs'.length = K ∧ W.rangeAt b (o + i * K) cs' ∧ DataW.trod enc Tryz.prog W base sp held n e cs' = some y ∧ ∀ m ∈ y.1.weights Tryz.prog e, m ≤ reachBytes := by
 rcases DataW.trod_slice ht h with ⟨rfl, -⟩ | ⟨a, len, cap, elems, rest, n, rfl, rfl, rfl, -, hlc, -, hel, hget, -, -⟩
 ·exact ⟨none, 0, 0, rfl, Nat.le_refl _, fun _ => rfl, by simp, fun i hi => absurd hi (Nat.not_lt_zero _)⟩
 ·have hb := hw ((elems.length + rest.length) * Y) (by simp only [DataW.weights, ht, hY, List.length_map]; exact List.mem_cons_self ..)
  have hb2 : len ≤ 140737488351232 := by
   simp only [reachBytes] at hb
   have h1 : (elems.length + rest.length) * 1 ≤ (elems.length + rest.length) * Y := Nat.mul_le_mul_left _ hY0
   omega
  refine ⟨some a, len, cap, rfl, hlc, (fun h => by cases h), hb2, fun i hi => ?_⟩
  have hg := hget i hi
  rw [List.getElem?_eq_getElem (by omega)] at hg
  obtain ⟨cs', hc, htr⟩ := Option.bind_eq_some_iff.1 hg
  rw [hK] at hc
  obtain ⟨hl, hs, hr, hlt⟩ := range_of_cells hc hK0
  rw [add_block, add_off] at hr
  rw [add_block] at hlt
  have ha : a.spot = none := by
   have hg0 := hget 0 (by omega)
   rw [List.getElem?_eq_getElem (by omega)] at hg0
   obtain ⟨cs0, hc0, -⟩ := Option.bind_eq_some_iff.1 hg0
   rw [hK, Nat.zero_mul, show a.add 0 = a from by simp [Addr.add]] at hc0
   exact (range_of_cells hc0 hK0).2.1
  obtain ⟨b, o, s⟩ := a
  simp only at ha
  subst ha
  refine ⟨b, o, cs', _, n, Nat.lt_succ_self _, rfl, hlt, hl, hr, htr, fun m hm => hw m ?_⟩
  simp only [DataW.weights, ht]
  exact List.mem_cons_of_mem _ (List.mem_append_left _ (mem_weightsAll (List.mem_map.2 ⟨elems[i], List.getElem_mem _, rfl⟩) hm))

theorem six_of {α : Type} {l : List α} (h : l.length = 6) : ∃ c0 c1 c2 c3 c4 c5, l = [c0, c1, c2, c3, c4, c5] := by
 match l, h with
 | [c0, c1, c2, c3, c4, c5], _ => exact ⟨c0, c1, c2, c3, c4, c5, rfl⟩
theorem two_of {α : Type} {l : List α} (h : l.length = 2) : ∃ c0 c1, l = [c0, c1] := by
 match l, h with
 | [c0, c1], _ => exact ⟨c0, c1, rfl⟩
theorem i64_in {n : Int} (h : (Lit.int .i64 n).wf = true) : -9223372036854775808 ≤ n ∧ n ≤ 9223372036854775807 := bounds_i64 h
/-- A value that came in. -/
theorem vis_of_trod : ∀ (N : Nat) (cs : List Value) (x : DataW H × List MemPlace), DataW.trod enc Tryz.prog W base sp held N 35 cs = some x → (∀ n ∈ x.1.weights Tryz.prog 35, n ≤ reachBytes) → ∃ v : Val, VIs (fun k => k < W.heap.size) W v cs := by
 intro N
 induction N using Nat.strongRecOn with
 | ind N ih =>
  intro cs x h hw
  obtain ⟨xs, n, rfl, rfl, hcl, hxl, hget⟩ := DataW.trod_struct Tryz.underlying35 h
  rw [c_val] at hcl
  obtain ⟨c0, c1, c2, c3, c4, c5, rfl⟩ : ∃ c0 c1 c2 c3 c4 c5, cs = [c0, c1, c2, c3, c4, c5] := six_of hcl
  obtain ⟨x0, x1, x2, x3, x4, x5, rfl⟩ : ∃ c0 c1 c2 c3 c4 c5, xs = [c0, c1, c2, c3, c4, c5] := six_of (hxl.trans (by kernel_rfl))
  have g0 : DataW.trod enc Tryz.prog W base sp held n 3 (List.take (Tryz.prog.cellsOf 3) (List.drop 0 [c0, c1, c2, c3, c4, c5])) = some x0 := hget 0 _ rfl
  rw [c_int] at g0
  change DataW.trod enc Tryz.prog W base sp held n 3 [c0] = some x0 at g0
  have g1 : DataW.trod enc Tryz.prog W base sp held n 2 (List.take (Tryz.prog.cellsOf 2) (List.drop 1 [c0, c1, c2, c3, c4, c5])) = some x1 := hget 1 _ rfl
  rw [c_i64] at g1
  change DataW.trod enc Tryz.prog W base sp held n 2 [c1] = some x1 at g1
  have g2 : DataW.trod enc Tryz.prog W base sp held n 9 (List.take (Tryz.prog.cellsOf 9) (List.drop 2 [c0, c1, c2, c3, c4, c5])) = some x2 := hget 2 _ rfl
  rw [c_str] at g2
  change DataW.trod enc Tryz.prog W base sp held n 9 [c2] = some x2 at g2
  have g3 : DataW.trod enc Tryz.prog W base sp held n 32 (List.take (Tryz.prog.cellsOf 32) (List.drop 3 [c0, c1, c2, c3, c4, c5])) = some x3 := hget 3 _ rfl
  rw [c_bys] at g3
  change DataW.trod enc Tryz.prog W base sp held n 32 [c3] = some x3 at g3
  have g4 : DataW.trod enc Tryz.prog W base sp held n 33 (List.take (Tryz.prog.cellsOf 33) (List.drop 4 [c0, c1, c2, c3, c4, c5])) = some x4 := hget 4 _ rfl
  rw [c_fls] at g4
  change DataW.trod enc Tryz.prog W base sp held n 33 [c4] = some x4 at g4
  have g5 : DataW.trod enc Tryz.prog W base sp held n 22 (List.take (Tryz.prog.cellsOf 22) (List.drop 5 [c0, c1, c2, c3, c4, c5])) = some x5 := hget 5 _ rfl
  rw [c_vls] at g5
  change DataW.trod enc Tryz.prog W base sp held n 22 [c5] = some x5 at g5
  have hws : ∀ (m : Nat), m ∈ x0.1.weights Tryz.prog 3 ∨ m ∈ x1.1.weights Tryz.prog 2 ∨ m ∈ x2.1.weights Tryz.prog 9 ∨ m ∈ x3.1.weights Tryz.prog 32 ∨ m ∈ x4.1.weights Tryz.prog 33 ∨ m ∈ x5.1.weights Tryz.prog 22 → m ≤ reachBytes := by
   intro m hm
   refine hw m ?_
   simp only [DataW.weights, Tryz.underlying35, List.map, DataW.weightsEach, List.mem_append, List.append_nil]
   simpa using hm
  obtain ⟨k, rfl, hk⟩ := int_of_trod Tryz.underlying3 g0
  obtain ⟨m, rfl, hm⟩ := int_of_trod Tryz.underlying2 g1
  obtain ⟨s, rfl, hs⟩ := string_of_trod g2 (fun z hz => hws z (by simp [hz]))
  obtain ⟨bv, b, hbc, hb, hbl⟩ := bin_of_trod g3 (fun z hz => hws z (by simp [hz]))
  obtain rfl : c3 = bv := by simpa using hbc
  obtain ⟨fa, fl, fc, hfc, hf1, hf2, hf3, hf4⟩ := elems_of_trod Tryz.underlying33 c_fld (by omega) y_fld (by omega) g4 (fun z hz => hws z (by simp [hz]))
  obtain rfl : c4 = .slice fa fl fc := by simpa using hfc
  obtain ⟨la, ll, lc, hlc, hl1, hl2, hl3, hl4⟩ := elems_of_trod Tryz.underlying22 c_val (by omega) y_val (by omega) g5 (fun z hz => hws z (by simp [hz]))
  obtain rfl : c5 = .slice la ll lc := by simpa using hlc
  have hF : ∀ i, i < fl → ∃ (nm : Bs) (y : Val), ∃ b o cs', fa = some ⟨b, o, none⟩ ∧ b < W.heap.size ∧ nm.length ≤ 140737488351232 ∧ W.rangeAt b (o + i * 7) (.string (strOf nm) :: cs') ∧ VIs (fun k => k < W.heap.size) W y cs' := by
   intro i hi
   obtain ⟨b', o', cs', y, n', hn', ha, hbl', hcl', hr, ht, hwy⟩ := hf4 i hi
   obtain ⟨ys, n2, rfl, rfl, -, hyl, hyg⟩ := DataW.trod_struct Tryz.underlying38 ht
   obtain ⟨y0, y1, rfl⟩ : ∃ c0 c1, ys = [c0, c1] := two_of (hyl.trans (by kernel_rfl))
   obtain ⟨d0, ds, rfl⟩ : ∃ d0 ds, cs' = d0 :: ds := by
    cases cs' with
    | nil => cases hcl'
    | cons d0 ds => exact ⟨d0, ds, rfl⟩
   have e0 : DataW.trod enc Tryz.prog W base sp held n2 9 (List.take (Tryz.prog.cellsOf 9) (List.drop 0 (d0 :: ds))) = some y0 := hyg 0 _ rfl
   rw [c_str] at e0
   change DataW.trod enc Tryz.prog W base sp held n2 9 [d0] = some y0 at e0
   have e1 : DataW.trod enc Tryz.prog W base sp held n2 35 (List.take (Tryz.prog.cellsOf 35) ds) = some y1 := hyg 1 _ rfl
   rw [c_val, List.take_of_length_le (Nat.le_of_eq (Nat.succ.inj hcl'))] at e1
   have hwy2 : ∀ (m : Nat), m ∈ y0.1.weights Tryz.prog 9 ∨ m ∈ y1.1.weights Tryz.prog 35 → m ≤ reachBytes := by
    intro m hm
    refine hwy m ?_
    simp only [DataW.weights, Tryz.underlying38, List.map, DataW.weightsEach, List.mem_append, List.append_nil]
    simpa using hm
   obtain ⟨nm, rfl, hnm⟩ := string_of_trod e0 (fun z hz => hwy2 z (by simp [hz]))
   obtain ⟨v, hv⟩ := ih n2 (by omega) ds y1 e1 (fun z hz => hwy2 z (by simp [hz]))
   exact ⟨nm, v, b', o', ds, ha, hbl', hnm, hr, hv⟩
  have hL : ∀ i, i < ll → ∃ (y : Val), ∃ b o cs', la = some ⟨b, o, none⟩ ∧ b < W.heap.size ∧ W.rangeAt b (o + i * 6) cs' ∧ VIs (fun k => k < W.heap.size) W y cs' := by
   intro i hi
   obtain ⟨b', o', cs', y, n', hn', ha, hbl', hcl', hr, ht, hwy⟩ := hl4 i hi
   obtain ⟨v, hv⟩ := ih n' (by omega) cs' y ht hwy
   exact ⟨v, b', o', cs', ha, hbl', hr, hv⟩
  obtain ⟨f, hfl, hff⟩ : ∃ f : List (Bs × Val), f.length = fl ∧ ∀ i (hi : i < f.length), ∃ b o cs', fa = some ⟨b, o, none⟩ ∧ b < W.heap.size ∧ f[i].1.length ≤ 140737488351232 ∧ W.rangeAt b (o + i * 7) (.string (strOf f[i].1) :: cs') ∧ VIs (fun k => k < W.heap.size) W f[i].2 cs' := by
   refine ⟨(List.range fl).map fun i => if h : i < fl then (Classical.choose (hF i h), Classical.choose (Classical.choose_spec (hF i h))) else ([], .bare 0), by simp, fun i hi => ?_⟩
   have hi' : i < fl := by simpa using hi
   simp only [List.getElem_map, List.getElem_range, dif_pos hi']
   exact Classical.choose_spec (Classical.choose_spec (hF i hi'))
  obtain ⟨l, hll, hlf⟩ : ∃ l : List Val, l.length = ll ∧ ∀ i (hi : i < l.length), ∃ b o cs', la = some ⟨b, o, none⟩ ∧ b < W.heap.size ∧ W.rangeAt b (o + i * 6) cs' ∧ VIs (fun k => k < W.heap.size) W l[i] cs' := by
   refine ⟨(List.range ll).map fun i => if h : i < ll then Classical.choose (hL i h) else .bare 0, by simp, fun i hi => ?_⟩
   have hi' : i < ll := by simpa using hi
   simp only [List.getElem_map, List.getElem_range, dif_pos hi']
   exact Classical.choose_spec (hL i hi')
  refine ⟨.mk k m s b f l, ?_⟩
  rw [VIs]
  have hk' := bounds_i64 hk
  have hm' := bounds_i64 hm
  refine ⟨c3, fa, fc, la, lc, by rw [hfl, hll], hb, ⟨by omega, by omega, hf2, hl2⟩, ⟨hk'.1, hk'.2, hm'.1, hm'.2⟩, ⟨hs, hbl, by omega, by omega⟩, FIs.of fun {j} hj => ?_, LIs.of fun {j} hj => ?_⟩
  ·rw [Nat.zero_add]; exact hff j hj
  ·rw [Nat.zero_add]; exact hlf j hj
theorem okWide_agg_of {P : Program} {r : Reach} {t : TypeId} {fs : Array Field} {v : Value} (ht : P.underlying t = some (.struct fs)) (hv : Value.okWide P W r base t v) : ∃ cs : Array Value, v = .agg cs := by
 unfold Value.okWide at hv
 rw [ht] at hv
 obtain ⟨cs, rfl, -⟩ := hv
 exact ⟨cs, rfl⟩
set_option maxRecDepth 100000 in
/-- .. as an argument. -/
theorem open_value {v : Value} {d : DataW H} {p : List MemPlace} (hv : Value.okWide Tryz.prog W .any base 35 v) (h : DataW.Trod enc Tryz.prog W 0 (fun _ => true) true 35 v d p)
  (hw : ∀ n ∈ d.weights Tryz.prog 35, n ≤ reachBytes) : ∃ (x : Val) (cs : List Value), v = .agg cs.toArray ∧ VIs (fun k => k < W.heap.size) W x cs := by
 obtain ⟨cs, rfl⟩ := okWide_agg_of Tryz.underlying35 hv
 obtain ⟨N, hN⟩ := h
 obtain ⟨x, hx⟩ := vis_of_trod N cs.toList (d, p) hN hw
 exact ⟨x, cs.toList, by simp, hx⟩
end
set_option maxRecDepth 100000 in
/-- Values that came in. -/
theorem open_vals {H : Type} {enc : TypeId × Value → H} {W : World} {base : Nat} {v : Value} {d : DataW H} {p : List MemPlace} (hv : Value.okWide Tryz.prog W .any base 22 v) (h : DataW.Trod enc Tryz.prog W 0 (fun _ => true) true 22 v d p) (hw : ∀ n ∈ d.weights Tryz.prog 22, n ≤ reachBytes) :
  ∃ (a : Option Addr) (n c : Nat) (l : List Val), v = .slice a n c ∧ LIs (fun k => k < W.heap.size) W l a 0 ∧ n = l.length ∧ n ≤ 140737488351232 := by
 obtain ⟨a0, len, cap, rfl⟩ := okWide_slice Tryz.underlying22 hv
 obtain ⟨fuel, hf⟩ := h
 obtain ⟨a, n, c, hcs, hlc, ha, hn, hel⟩ := elems_of_trod Tryz.underlying22 c_val (by omega) y_val (by omega) hf hw
 simp [Value.cells] at hcs
 obtain ⟨rfl, rfl, rfl⟩ := hcs
 have hL : ∀ i, i < len → ∃ (y : Val), ∃ b o cs', a0 = some ⟨b, o, none⟩ ∧ b < W.heap.size ∧ W.rangeAt b (o + i * 6) cs' ∧ VIs (fun k => k < W.heap.size) W y cs' := by
  intro i hi
  obtain ⟨b', o', cs', y, n', hn', ha, hbl', hcl', hr, ht, hwy⟩ := hel i hi
  obtain ⟨v, hv⟩ := vis_of_trod n' cs' y ht hwy
  exact ⟨v, b', o', cs', ha, hbl', hr, hv⟩
 obtain ⟨l, hll, hlf⟩ : ∃ l : List Val, l.length = len ∧ ∀ i (hi : i < l.length), ∃ b o cs', a0 = some ⟨b, o, none⟩ ∧ b < W.heap.size ∧ W.rangeAt b (o + i * 6) cs' ∧ VIs (fun k => k < W.heap.size) W l[i] cs' := by
  refine ⟨(List.range len).map fun i => if h : i < len then Classical.choose (hL i h) else .bare 0, by simp, fun i hi => ?_⟩
  have hi' : i < len := by simpa using hi
  simp only [List.getElem_map, List.getElem_range, dif_pos hi']
  exact Classical.choose_spec (hL i hi')
 exact ⟨a0, len, cap, l, rfl, LIs.of fun {j} hj => by rw [Nat.zero_add]; exact hlf j hj, hll.symm, hn⟩
set_option maxRecDepth 100000 in
/-- A text that came in. -/
theorem open_text {H : Type} {enc : TypeId × Value → H} {W : World} {base : Nat} {v : Value} {d : DataW H} {p : List MemPlace} (hv : Value.okWide Tryz.prog W .any base 9 v) (h : DataW.Trod enc Tryz.prog W 0 (fun _ => true) true 9 v d p) (hw : ∀ n ∈ d.weights Tryz.prog 9, n ≤ reachBytes) :
  ∃ s : Bs, v = .string (strOf s) ∧ s.length ≤ 140737488351232 := by
 obtain ⟨s0, rfl⟩ := okWide_string Tryz.underlying9 hv
 obtain ⟨fuel, hf⟩ := h
 obtain ⟨s, hs, hl⟩ := string_of_trod (c := .string s0) hf hw
 exact ⟨s, hs, hl⟩
set_option maxRecDepth 100000 in
theorem adds_lifted (os : Os) (started : os.Started) (H : Type) (enc : TypeId × Value → H) (F : Stop.Interp) :
  ReturnsInHanded {} Tryz.checked os 3 .any ((OpenSpec.ofChange Rows.accumAddsSpec).preRow enc Tryz.prog Tryz.f3 Rows.accumAddsRow.domain false Rows.accumAddsRow.laid) (((OpenSpec.ofChange Rows.accumAddsSpec).at F).post enc Tryz.prog Tryz.f3 false true false false) := by
 obtain ⟨A0, hA0⟩ : ∃ A0 : Array Value, A0 = #[.int .i64 0, .slice none 0 0, .string ByteArray.empty] := ⟨_, rfl⟩
 have hx : ∃ places, DataW.whole enc Tryz.prog ((laidWorld os ⟨#[], A0, []⟩).forCall (fun _ _ => 0) ⟨#[], A0, []⟩).memory Tryz.f3.params.toList Rows.accumAddsSpec.vars false A0.toList 8 = some ([.lit (.int .i64 0), .nil, .lit (.string [])], [], places) := by subst hA0; exact ⟨[], by kernel_rfl⟩
 obtain ⟨places, hx⟩ := hx
 subst hA0
 refine returnsInHanded_of_row (C := Tryz.checked) (s := OpenSpec.ofChange Rows.accumAddsSpec) own_ started (by kernel_rfl) Tryz.func3
  (witness_row_at (enc := enc) (C := Tryz.checked) false (laidWorld os ⟨#[], _, []⟩) _ rfl (by kernel_rfl) (by kernel_rfl) (by kernel_rfl)
   (OpenSpec.preRow_of_cond 8 hx (by kernel_rfl) (fun k hk => by cases hk) (by kernel_rfl) (laid_met os))) ?_
 intro W base args ds gs before hval0 hW _ _ hsz0 hL _ _
 have hsz : (DataW.weightsEach Tryz.prog (Tryz.f3.params.toList ++ (OpenSpec.ofChange Rows.accumAddsSpec).bare.plain.varTypes Tryz.prog) (ds ++ gs)).all (· ≤ reachBytes) = true := hsz0
 have hval : ∀ (j : Nat) t v, Tryz.f3.params[j]? = some t → args[j]? = some v → Value.okWide Tryz.prog W .any base t v := hval0
 have hW' := hW
 obtain ⟨p, q, hA0, hV, rfl, hfz, hnd⟩ := hW
 have hA : DataW.TrodAll enc Tryz.prog W 0 (fun _ => true) true Tryz.f3.params.toList args.toList ds p := hA0
 rw [Tryz.params3] at hA hval hsz
 obtain ⟨v0, vs0, d0, ds0, p0, q0, hargs, rfl, rfl, h0, r0⟩ := trodAll_cons hA
 obtain ⟨v1, vs1, d1, ds1, p1, q1, rfl, rfl, rfl, h1, r1⟩ := trodAll_cons r0
 obtain ⟨v2, vs2, d2, ds2, p2, q2, rfl, rfl, rfl, h2, r2⟩ := trodAll_cons r1
 obtain ⟨rfl, rfl, rfl⟩ := trodAll_nil r2
 obtain rfl : args = #[v0, v1, v2] := by cases args; simp_all
 obtain ⟨rfl, rfl⟩ := trodVars_none hV
 have lt0 : ∀ x ∈ p0, x.block < W.heap.size := by obtain ⟨m, hm⟩ := h0; exact DataW.trod_lt m _ _ _ hm
 have lt1 : ∀ x ∈ p1, x.block < W.heap.size := by obtain ⟨m, hm⟩ := h1; exact DataW.trod_lt m _ _ _ hm
 have lt2 : ∀ x ∈ p2, x.block < W.heap.size := by obtain ⟨m, hm⟩ := h2; exact DataW.trod_lt m _ _ _ hm
 obtain ⟨kind, rfl, hk0, hk1, wk⟩ := open_int Tryz.underlying3 (hval 0 _ v0 rfl rfl) h0
 obtain ⟨a1, n1, c1, l1, rfl, hz1, hw1, hl1⟩ := open_vals (hval 1 _ v1 rfl rfl) h1 (fun n hn => of_decide_eq_true (List.all_eq_true.1 hsz n (DataW.weights_mem_each (j := 1) rfl rfl n hn)))
 obtain ⟨nm, rfl, hnm⟩ := open_text (hval 2 _ v2 rfl rfl) h2 (fun n hn => of_decide_eq_true (List.all_eq_true.1 hsz n (DataW.weights_mem_each (j := 2) rfl rfl n hn)))
 clear hA0 hval0 hsz0
 refine (law_adds (tw_of_laid hL) (bounds_i64 wk) hz1 hw1 hl1 hnm).mono fun e W' ⟨he, hs⟩ => ?_
 subst he
 have bel := start_below hs
 exact ⟨_, rfl, _, _, _, [], _, [], hW', trodAll_mk1 (shut_bool Tryz.underlying4 _), (trodAll_cons_mk (Below.trod laid_ (by kernel_rfl) (of_decide_eq_true (by kernel_rfl)) h0 bel lt0) (trodAll_cons_mk (Below.trod laid_ (by kernel_rfl) (of_decide_eq_true (by kernel_rfl)) h1 bel lt1) (trodAll_cons_mk (Below.trod laid_ (by kernel_rfl) (of_decide_eq_true (by kernel_rfl)) h2 bel lt2) trodAll_mk0))), rfl, bel.frame _, fun h => by cases h⟩

theorem adds_said : Rows.AccumAddsSaid :=
 OpenClaim.holds_of_cond 3 Tryz.f3 rfl rfl rfl rfl rfl rfl rfl ⟨rfl, rfl, rfl, rfl, rfl⟩ rfl rfl rfl rfl rfl (by kernel_rfl) Tryz.func3 (by kernel_rfl)
  (of_decide_eq_true (by kernel_rfl)) (by unfold Func.isWrapper; first | (rw [if_pos (by decide +kernel)]; kernel_rfl) | (rw [if_neg (by decide +kernel)]; exact ⟨rfl, rfl⟩))
  (fun os started H enc _ F => by rw [OpenClaim.pre_eq_preRow]; exact adds_lifted os started H enc F)

theorem adds_plain (f : FuncId) (fn : Func) (hf : Tryz.pinned.checked.prog.funcNamed "aqueduct/aqueductlaw12.AccumAdds" = some f) (hfn : Tryz.pinned.checked.prog.funcs[f]? = some fn) :
  true = Tryz.pinned.checked.prog.looks [] ∧ ∀ (j : Nat) t, fn.params[j]? = some t → Tryz.pinned.checked.prog.wantsStandIn t = false := by
 obtain rfl : f = 3 := Option.some.inj ((show Tryz.prog.funcNamed "aqueduct/aqueductlaw12.AccumAdds" = some 3 by kernel_rfl).symm.trans hf) |>.symm
 obtain rfl : fn = Tryz.f3 := (Option.some.inj (Tryz.func3.symm.trans hfn)).symm
 refine ⟨by kernel_rfl, fun j t ht => ?_⟩
 rw [Tryz.params3] at ht
 rcases j with _ | _ | _ | j
 ·obtain rfl : 3 = t := by simpa using ht
  have h : Tryz.prog.wantsStandIn 3 = false := by kernel_rfl
  exact h
 ·obtain rfl : 22 = t := by simpa using ht
  have h : Tryz.prog.wantsStandIn 22 = false := by kernel_rfl
  exact h
 ·obtain rfl : 9 = t := by simpa using ht
  have h : Tryz.prog.wantsStandIn 9 = false := by kernel_rfl
  exact h
 ·simp at ht

theorem adds_card : Rows.AccumAddsCardSaid :=
 Claim7.holds_tied_plain_at .later [] _ _ _ _ adds_said (fun _ h => by cases h) (by kernel_rfl) (fun _ h => by cases h) accumAdds_row_tie rfl ⟨rfl, rfl⟩ (by kernel_rfl) rfl adds_plain (by kernel_rfl)
#print axioms adds_card
end Go.Proofs.YtembpajlllnncaaGreatDoor
