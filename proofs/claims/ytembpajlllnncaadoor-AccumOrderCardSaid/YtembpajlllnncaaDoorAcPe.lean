/- Accumulators: push: what it comes to, plain. -/
import Derived.Test.YtembpajlllnncaaDoorAcPv
set_option linter.unusedVariables false
set_option linter.unusedSimpArgs false
namespace Go.Proofs.YtembpajlllnncaaDoor
open Go.RowKit

/-- A value was pushed. -/
def PushOK (P : Nat → Prop) (S : Nat) (K many size : Int) (l : List Val) (row : Option Nat) (x : Val) (w : World) (e : Ending) (w' : World) : Prop :=
  e = .returned (.int .i64 0) ∧ ∃ row', AccL P w' S K many (l ++ [x]) (size + moreV x l.length) row' ∧ Step (S :: row.toList) id id w w' ∧ (row' = row ∨ ∃ k, row' = some k ∧ w.heap.size ≤ k)
theorem LRow.below {P : Nat → Nat → Prop} {w : World} {l : List Val} {xs : List Value} (h : LRow P w l xs) : LRow (fun i k => P i k ∧ k < w.heap.size) w l xs :=
  ⟨h.1, fun i hi => VIs.below _ _ (h.2 i hi)⟩
theorem LRow.snoc6 {P : Nat → Prop} {w : World} {l : List Val} {xs zs : List Value} {x : Val} {d0 d1 d2 d3 d4 d5 : Value} (h : LRow (fun _ => P) w l xs) (hz : zs.length = 6) (hx : VIs P w x [d0, d1, d2, d3, d4, d5]) :
    LRow (fun _ => P) w (l ++ [x]) (setL6 (xs ++ zs) (l.length * 6) d0 d1 d2 d3 d4 d5) := by
  have hlen : (xs ++ zs).length = l.length * 6 + 6 := by rw [List.length_append, h.1, hz]
  refine ⟨by rw [setL6_len, hlen]; simp; omega, fun i hi => ?_⟩
  rw [List.length_append, List.length_singleton] at hi
  by_cases hij : i < l.length
  · have h3 := h.2 i hij
    rw [List.getElem_append_left hij]
    rw [piece_ext (ys := xs) fun t ht => ?_]
    · exact h3
    · rw [setL6_far (by omega), List.getElem?_append_left (by rw [h.1]; omega)]
  · obtain rfl : i = l.length := by omega
    have e : piece 6 (setL6 (xs ++ zs) (l.length * 6) d0 d1 d2 d3 d4 d5) l.length = [d0, d1, d2, d3, d4, d5] := piece_is rfl (fun t ht => setL6_at (by omega) t ht)
    rw [e]
    simpa using hx
theorem push_end {P : Nat → Prop} {w W6 w9 w10 Wf : World} {S : Nat} {K many size M : Int} {l : List Val} {row : Option Nat} {x : Val} {va : Option Addr} {vc : Nat} {xs zs : List Value} {g c' : Nat} {d0 d1 d2 d3 d4 d5 : Value}
    (hrow : row = (Value.slice va l.length vc).ownBlock) (hL : LRow (fun _ k => P k ∧ k ≠ S ∧ row ≠ some k) w l xs) (hrS : row ≠ some S) (hrl : ∀ k, row = some k → P k ∧ k < w.heap.size) (hls : (l.length : Int) ≤ size)
    (hM : moreV x l.length = M) (hMr : 3 ≤ M ∧ size + M ≤ 65529) (hP : ∀ k, w.heap.size ≤ k → P k) (hSl : S < w.heap.size)
    (hs6 : Step [S] id id w W6) (hS6 : StC W6 S K many (.int .i64 7) (.int .i64 0) (.string ⟨#[]⟩) (.slice none 0 0) (.slice none 0 0) (.slice va l.length vc) (size + M) false)
    (hs9 : Step [] id id W6 w9) (hxd : VIs (fun k => W6.heap.size ≤ k) w9 x [d0, d1, d2, d3, d4, d5]) (hzs : zs.length = 6)
    (hown : w10.ownsRow 0 32 6 (.slice (some ⟨g, 0, none⟩) (l.length + 1) c') (l.length + 1) (xs ++ zs)) (hg : w9.grownBy w10 (Value.slice va l.length vc).ownBlock) (hat : some g = row ∨ g = w9.heap.size)
    (hWf : Wf = (setC6 w10 g (l.length * 6) d0 d1 d2 d3 d4 d5).setCell ⟨S, 7, none⟩ (.slice (some ⟨g, 0, none⟩) (l.length + 1) c') ∨ Wf = setC6 (w10.setCell ⟨S, 7, none⟩ (.slice (some ⟨g, 0, none⟩) (l.length + 1) c')) g (l.length * 6) d0 d1 d2 d3 d4 d5) :
    AccL P Wf S K many (l ++ [x]) (size + moreV x l.length) (some g) ∧ Step (S :: row.toList) id id w Wf ∧ (some g = row ∨ ∃ k, some g = some k ∧ w.heap.size ≤ k) := by
  rw [hM]
  have z6 := hs6.size
  have z9 := hs9.size
  have z10 := hg.size
  have hgS : g ≠ S := by
    rcases hat with h | h
    · intro e; exact hrS (by rw [← h, e])
    · omega
  have hS10 : StC w10 S K many (.int .i64 7) (.int .i64 0) (.string ⟨#[]⟩) (.slice none 0 0) (.slice none 0 0) (.slice va l.length vc) (size + M) false := by
    have h9 := hs9.at hS6 (by simp)
    exact (hg.block S (lt_of_block h9) (by rw [← hrow]; exact fun e => hrS e.symm)).trans h9
  have hgo : w10.frozen? ⟨g, 0, none⟩ = w10.frozen? ⟨g, 0, none⟩ := rfl
  have hfin : Wf.ownsRow 0 32 6 (.slice (some ⟨g, 0, none⟩) (l.length + 1) c') (l.length + 1) (setL6 (xs ++ zs) (l.length * 6) d0 d1 d2 d3 d4 d5) ∧ StC Wf S K many (.int .i64 7) (.int .i64 0) (.string ⟨#[]⟩) (.slice none 0 0) (.slice none 0 0) (.slice (some ⟨g, 0, none⟩) (l.length + 1) c') (size + M) false ∧ Step [S, g] id id w10 Wf := by
    rcases hWf with rfl | rfl
    · obtain ⟨h1, g1⟩ := setC6_row (o := l.length * 6) (v0 := d0) (v1 := d1) (v2 := d2) (v3 := d3) (v4 := d4) (v5 := d5) hown
      have hS11 := (g1.block S (lt_of_block hS10) (by intro e; injection e with e; exact hgS e.symm)).trans hS10
      have hset : Step [S] id id (setC6 w10 g (l.length * 6) d0 d1 d2 d3 d4 d5) ((setC6 w10 g (l.length * 6) d0 d1 d2 d3 d4 d5).setCell ⟨S, 7, none⟩ (.slice (some ⟨g, 0, none⟩) (l.length + 1) c')) := Step.set _ _ (by simp)
      refine ⟨ownsRow_step h1 hset (fun k hk => by cases hk; simpa using hgS), ?_, (Step.grown g1 (fun k hk => by cases hk; simp)).tail (hset.mono (by simp))⟩
      have h7 := set_blk hS11 7 (.slice (some ⟨g, 0, none⟩) (l.length + 1) c')
      unfold StC
      simpa using h7
    · have hset : Step [S] id id w10 (w10.setCell ⟨S, 7, none⟩ (.slice (some ⟨g, 0, none⟩) (l.length + 1) c')) := Step.set _ _ (by simp)
      obtain ⟨h1, g1⟩ := setC6_row (o := l.length * 6) (v0 := d0) (v1 := d1) (v2 := d2) (v3 := d3) (v4 := d4) (v5 := d5) (ownsRow_step hown hset (fun k hk => by cases hk; simpa using hgS))
      have h7 := set_blk hS10 7 (.slice (some ⟨g, 0, none⟩) (l.length + 1) c')
      have h7' : (w10.setCell ⟨S, 7, none⟩ (.slice (some ⟨g, 0, none⟩) (l.length + 1) c')).heap[S]? = some (.cells #[.func (.func (addF K)) #[.pointer (some ⟨S, 0, none⟩)] #[], .int .i64 many, .int .i64 7, .int .i64 0, (.string ⟨#[]⟩), (.slice none 0 0), (.slice none 0 0), (.slice (some ⟨g, 0, none⟩) (l.length + 1) c'), .int .i64 (size + M), .bool false] 47 (0, 0)) := by simpa using h7
      refine ⟨h1, (g1.block S (lt_of_block h7') (by intro e; injection e with e; exact hgS e.symm)).trans h7', (hset.mono (by simp)).tail (Step.grown g1 (fun k hk => by cases hk; simp))⟩
  obtain ⟨hownf, hSf, hsf⟩ := hfin
  have hs9f : Step (S :: row.toList) id id w w9 := (hs6.mono (by simp)).tail (hs9.mono (fun _ h => by cases h))
  have hs10 : Step (S :: row.toList) id id w w10 := hs9f.tail (.grown hg (fun k hk => by rw [← hrow] at hk; rw [hk]; simp))
  have hst : Step (S :: row.toList) id id w Wf := hs10.tailNew hsf (fun r hr => by
    simp only [List.mem_cons, List.mem_nil_iff, or_false] at hr
    rcases hr with rfl | rfl
    · exact .inl (by simp)
    · rcases hat with h | h
      · exact .inl (by rw [← h]; simp)
      · exact .inr (by omega))
  refine ⟨⟨some ⟨g, 0, none⟩, c', _, by rw [show (l ++ [x]).length = l.length + 1 by simp]; exact hSf, rfl, by rw [show (l ++ [x]).length = l.length + 1 by simp]; exact hownf, ?_, by intro e; injection e with e; exact hgS e, ?_, by simp; omega, by omega⟩, hst, ?_⟩
  · refine LRow.snoc6 (hL.below.keep (fun _ k hk => ⟨hk.1.1, hk.1.2.1, fun e => ?_⟩) (fun _ k hk hl => (hst.keep k hl ?_).2)) hzs ((VIs.below _ _ hxd).keep (fun k hk => ⟨hP k (by have := hk.1; omega), by have := hk.1; omega, fun e => ?_⟩) (fun k hk hl => ?_))
    · injection e with e
      rcases hat with h | h
      · exact hk.1.2.2 (by rw [← e, h])
      · have := hk.2; omega
    · rw [List.mem_cons]
      rintro (h | h)
      · exact hk.1.2.1 h
      · exact hk.1.2.2 (by simpa using h)
    · have hk1 : W6.heap.size ≤ k := hk.1
      have hk2 : k < w9.heap.size := hk.2
      have hkr : row ≠ some k := fun e => by have := (hrl k e).2; omega
      have hkg : k ≠ g := by
        rcases hat with h | h
        · intro e; exact hkr (by rw [← h, e])
        · omega
      rw [(hsf.keep k (by omega) (by simp; exact ⟨by omega, hkg⟩)).2]
      exact hg.block k hk2 (by rw [← hrow]; exact fun e => hkr e.symm)
    · injection e with e
      rcases hat with h | h
      · have := (hrl g h.symm).2; have := hk.1; omega
      · have := hk.2; omega
  · intro k hk
    injection hk with hk
    subst hk
    rcases hat with h | h
    · exact (hrl g h.symm).1
    · exact hP g (by omega)
  · rcases hat with h | h
    · exact .inl h
    · exact .inr ⟨g, rfl, by omega⟩
end Go.Proofs.YtembpajlllnncaaDoor
