/- What all rows' frames share: the rows of bytes that came in. -/
import Derived.Test.YtlppoimdfclbaaaRows
import Derived.Test.YtlppoimdfclbaaaLawMake
import Derived.ProofKit
import Derived.OpenShut
import Derived.Deep.Matrix
import Derived.SizedLaws
import Derived.Below
set_option linter.unusedVariables false
set_option linter.unusedSimpArgs false
namespace Go.Proofs.Ytlppoimdfclbaaa
open Go.ChangeShapes Go.WideShapes Go.ChangeAt Go.RowKit Go.Deep

theorem start_wf (w : World) : GWf id w := ⟨fun _ h => h, fun _ _ => rfl⟩
theorem start_below {g : Nat → Nat} {w w' : World} (h : Step [] id g w w') : Below w.heap.size w w' := h.below (fun _ _ h => by cases h) (Nat.le_refl _)
theorem add_block (a : Addr) (n : Nat) : (a.add n).block = a.block := by unfold Addr.add; split <;> rfl
theorem own_ : ownKnob Try.prog.godebug = none := by kernel_rfl
theorem laid_ : laidOutB Try.prog = true := by kernel_rfl

/-- A row as its bytes. -/
def rowBytes (L : Nat) (zs : List Int) : List UInt8 := (zs.take L).map fun n => UInt8.ofNat n.toNat
theorem rowBytes_length {L : Nat} {zs : List Int} (h : L ≤ zs.length) : (rowBytes L zs).length = L := by simp [rowBytes, h]
theorem u8_back {n : Int} (h : (Lit.int .u8 n).wf = true) : ((UInt8.ofNat n.toNat).toNat : Int) = n := by
  have := bounds_u8 h
  rw [UInt8.toNat_ofNat']; omega

section
variable {H : Type} {enc : TypeId × Value → H} {W : World} {base : Nat}
theorem mem_weightsAll {P : Program} {e : TypeId} {d : DataW H} {n : Nat} : ∀ {l : List (DataW H)}, d ∈ l → n ∈ d.weights P e → n ∈ DataW.weightsAll P e l
  | x :: r, h, hn => by
    simp only [DataW.weightsAll, List.mem_append]
    rcases List.mem_cons.1 h with rfl | h
    · exact .inl hn
    · exact .inr (mem_weightsAll h hn)

set_option maxRecDepth 100000 in
theorem open_rows {v : Value} {d : DataW H} {p : List MemPlace} (hv : Value.okWide Try.prog W .any base 22 v) (h : DataW.Trod enc Try.prog W 0 (fun _ => true) true 22 v d p)
    (hw : ∀ n ∈ d.weights Try.prog 22, n ≤ reachBytes) :
    ∃ (ad : Option Addr) (c : Nat) (ls : List (List UInt8)), v = .slice ad ls.length c ∧ ls.length ≤ c ∧ BR [] id W ad ls ∧ ls.length ≤ 140737488351232 ∧ ∀ l ∈ ls, l.length ≤ 140737488351232 := by
  have b1 : Try.prog.bytesOf 35 = 24 := by kernel_rfl
  have b2 : Try.prog.bytesOf 5 = 1 := by kernel_rfl
  obtain ⟨a0, len, cap, rfl⟩ := okWide_slice Try.underlying22 hv
  obtain ⟨fuel, hf⟩ := h
  rcases open_int_rows Try.underlying22 Try.underlying35 Try.underlying5 (by kernel_rfl) (by kernel_rfl) hf with ⟨hcs, hx⟩ | ⟨a, len', cap', A, L, C, Z, hcs, _, hl, hm, hx, hrows⟩
  · simp [Value.cells] at hcs
    obtain ⟨rfl, rfl, rfl⟩ := hcs
    exact ⟨none, 0, [], rfl, Nat.le_refl _, ⟨fun h => absurd rfl h, fun i hi => by simp at hi⟩, by simp, fun l hl => by cases hl⟩
  · simp [Value.cells] at hcs
    obtain ⟨rfl, rfl, rfl⟩ := hcs
    simp only [Prod.mk.injEq] at hx
    obtain ⟨rfl, -⟩ := hx
    obtain ⟨ls, hls⟩ : ∃ ls : List (List UInt8), ls = (List.range len).map fun r => rowBytes (L r) (Z r) := ⟨_, rfl⟩
    have hlen : ls.length = len := by rw [hls]; simp
    have hget : ∀ i (h : i < ls.length), ls[i] = rowBytes (L i) (Z i) := fun i h => by simp only [hls, List.getElem_map, List.getElem_range]
    have hgl : ∀ i (h : i < ls.length), ls[i].length = L i := fun i h => by
      rw [hget i h]
      obtain ⟨_, h1, _, h3, _⟩ := hrows i (by omega)
      exact rowBytes_length (by omega)
    refine ⟨some a, cap, ls, by rw [hlen], by rw [hlen]; exact hl, ⟨fun hne k hk => ?_, fun i hi => ?_⟩, ?_, fun l hl2 => ?_⟩
    · have h0 : 0 < len := by
        rw [← hlen]; exact List.length_pos_iff.2 hne
      have := World.block_lt_of_cell? W _ (hrows 0 (by omega)).1
      rw [add_block] at this
      cases hk
      exact ⟨this, rfl, by simp⟩
    · obtain ⟨h1, h2, h3, h4, h5, h6, h7⟩ := hrows i (by omega)
      obtain ⟨b, o, spot⟩ := a
      have hspot : spot = none := by simpa [Addr.add] using World.cell?_spot (hrows 0 (by omega)).1
      subst hspot
      rw [addr_add] at h1
      have hli := hgl i hi
      refine ⟨b, o, A i, C i, rfl, by rw [hli]; exact h1, ?_, fun _ _ _ => ⟨rfl, by simp⟩⟩
      rw [hli]
      cases hA : A i with
      | none =>
        have hC := h6 hA
        have hL0 : L i = 0 := by omega
        rw [hL0, hC]
        exact .inl (.inl ⟨rfl, List.eq_nil_of_length_eq_zero (by rw [hli, hL0])⟩)
      | some a' =>
        by_cases hL0 : L i = 0
        · rw [hL0]
          exact .inr ⟨a', C i, rfl, List.eq_nil_of_length_eq_zero (by rw [hli, hL0])⟩
        · obtain ⟨_, h8⟩ := h7 a' hA
          obtain ⟨b', o', spot'⟩ := a'
          have hc0 := h8 0 (by omega)
          have hspot : spot' = none := by simpa [Addr.add] using World.cell?_spot hc0
          subst hspot
          have hb := World.block_lt_of_cell? W _ hc0
          rw [add_block] at hb
          refine .inl (.inr ⟨b', o', C i, by rw [hli], by rw [hli]; exact h2, hb, fun j hj => ?_⟩)
          have hjL : j < L i := by rw [← hli]; exact hj
          have h9 := h8 j (by omega)
          rw [addr_add] at h9
          rw [h9]
          have hzj : j < (Z i).length := by omega
          have e : ls[i][j] = UInt8.ofNat ((Z i)[j]).toNat := by
            simp only [hget i hi, rowBytes, List.getElem_map, List.getElem_take]
          rw [e, u8_back (h5 _ (List.getElem_mem _)), List.getD_eq_getElem?_getD, List.getElem?_eq_getElem hzj]; rfl
    · have := hw (((List.range len).map fun r => intRow (H := H) .u8 (A r) (L r) (Z r)).length + ((List.range (cap - len)).map fun j => intRow (H := H) .u8 (A (len + j)) (L (len + j)) (Z (len + j))).length |>.mul 24) (by
        simp only [DataW.weights, Try.underlying22, b1]
        exact List.mem_cons_self ..)
      simp only [List.length_map, List.length_range, reachBytes] at this
      rw [hlen]
      have e : (len + (cap - len)).mul 24 = (len + (cap - len)) * 24 := rfl
      rw [e] at this
      omega
    · obtain ⟨i, hi, rfl⟩ := List.getElem_of_mem hl2
      obtain ⟨h1, h2, h3, h4, h5, h6, h7⟩ := hrows i (by omega)
      rw [hgl i hi]
      cases hA : A i with
      | none =>
        have hC := h6 hA
        omega
      | some a' =>
        have := hw (((lits (H := H) .u8 ((Z i).take (L i))).length + (lits (H := H) .u8 ((Z i).drop (L i))).length) * 1) (by
          simp only [DataW.weights, Try.underlying22]
          refine List.mem_cons_of_mem _ (List.mem_append_left _ (mem_weightsAll (d := intRow .u8 (A i) (L i) (Z i)) (List.mem_map.2 ⟨i, List.mem_range.2 (by omega), rfl⟩) ?_))
          simp only [hA, intRow, DataW.weights, Try.underlying35, b2]
          exact List.mem_cons_self ..)
        simp only [lits, List.length_map, List.length_take, List.length_drop, reachBytes] at this
        omega
end
end Go.Proofs.Ytlppoimdfclbaaa
