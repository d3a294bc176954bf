/- The laws of bson: awake. -/
import Derived.Test.YtbkmnhogfegmcaaDoorBsGA
import Derived.Test.YtbkmnhogfegmcaaDoorBsS6
set_option linter.unusedVariables false
set_option linter.unusedSimpArgs false
namespace Go.Proofs.YtbkmnhogfegmcaaDoor
open Go.RowKit

/-- The tables are there. -/
abbrev Tw (w : World) : Prop := Tabs (fun k => k < w.heap.size) w
section
variable {w w' : World}
theorem Tw.step (h : Tw w) (hs : Step [] id id w w') : Tw w' := (h.quiet hs).more (fun k hk => Nat.lt_of_lt_of_le hk hs.size) (fun _ h => h)
theorem EncP.ok {x : Val} {e : Ending} (h : EncP w x e w') (hk : okDoc x = true) : ∃ v, e = .returned (.tuple #[v, .int .i64 0]) ∧ Row w' v (wrapDoc (encFs x.f)) ∧ Step [] id id w w' ∧ ∀ k, v.ownBlock = some k → w.heap.size ≤ k := by
  rcases h.2 with ⟨_, v, h1, h2, h3⟩ | ⟨h1, _⟩
  · exact ⟨v, h1, h2, h.1, h3⟩
  · rw [hk] at h1; cases h1
theorem EncP.ill {x : Val} {e : Ending} (h : EncP w x e w') (hk : okDoc x = false) : e = .returned (.tuple #[.slice none 0 0, .int .i64 1]) ∧ Step [] id id w w' := by
  rcases h.2 with ⟨h1, _⟩ | ⟨_, h1⟩
  · rw [hk] at h1; cases h1
  · exact ⟨h1, h.1⟩
theorem Row.some {v : Value} {l : Bs} (h : Row w v l) (hl : l ≠ []) : ∃ b c, v = .slice (Option.some ⟨b, 0, none⟩) l.length c ∧ Lie w ⟨b, 0, none⟩ l ∧ l.length ≤ c ∧ b < w.heap.size := by
  rcases h.2 with ⟨e, hn⟩ | ⟨g, cap, cur, e, _, hg, hn, hc, hs, ht⟩
  · exact absurd (List.eq_nil_of_length_eq_zero hn) hl
  · refine ⟨g, cap, e, ?_, hn, lt_of_block hg⟩
    rcases h.bytes with ⟨e2, _⟩ | ⟨b, o, c, e2, h1, h2, h3⟩
    · rw [e] at e2; cases e2
    · rw [e] at e2
      injection e2 with e3 e4 e5
      injection e3 with e6
      injection e6 with e7 e8
      subst e7 e8
      exact fun i hi => by rw [addr_add]; exact h3 i hi
theorem Row.bin {v : Value} {l : Bs} (h : Row w v l) : BIn (fun k => k < w.heap.size) w v l := by
  rcases h.bytes with ⟨rfl, rfl⟩ | ⟨b, o, cap, rfl, hc, hbl, hcell⟩
  · exact .inl ⟨none, 0, rfl, rfl, fun _ => rfl⟩
  · exact .inr ⟨b, o, cap, rfl, hc, hbl, hcell⟩
theorem VIs.low {P : Nat → Prop} {x : Val} {cs : List Value} (h : VIs P w x cs) : VIs (fun k => k < w.heap.size) w x cs := (VIs.below x cs h).keep (fun k hk => hk.2) (fun _ _ _ => rfl)
theorem VIs.onto {x : Val} {cs : List Value} (h : VIs (fun k => k < w.heap.size) w x cs) (hs : Step [] id id w w') : VIs (fun k => k < w'.heap.size) w' x cs :=
  h.keep (fun k hk => Nat.lt_of_lt_of_le hk hs.size) (fun k hk hl => (hs.keep k hl (by simp)).2)
end

def awakeF : List (Bs × Val) := [([97], .mk 3 1 [] [] [] [])]
theorem awake_ok : okDoc (.doc awakeF) = true := by
  simp [okDoc, Val.doc, Val.kind, Val.plain, Val.f, awakeF, okFs, okV, nameOk, utf8, codeOf, wrapDoc_length, encFs, encV, layI_length]
theorem awake_bytes : wrapDoc (encFs awakeF) = [12, 0, 0, 0, 16, 97, 0, 1, 0, 0, 0, 0] := by
  have h1 : encFs awakeF = [16, 97, 0, 1, 0, 0, 0] := by simp [encFs, awakeF, encV, codeOf, Val.kind, layI, leBytes]
  unfold wrapDoc
  rw [h1]
  simp [layI, leBytes]
theorem awake_decode : decode [12, 0, 0, 0, 16, 97, 0, 1, 0, 0, 0, 0] = .ok (.doc awakeF) 12 := by
  have h := decode_encode (v := .doc awakeF) (c := [12, 0, 0, 0, 16, 97, 0, 1, 0, 0, 0, 0]) (by unfold encode; rw [if_pos awake_ok]; exact congrArg some awake_bytes)
  exact h

theorem awake_size : sizeOf_ (.doc awakeF) = 12 := by
  unfold sizeOf_
  rw [if_pos awake_ok, show (Val.doc awakeF).f = awakeF from rfl, awake_bytes]; rfl

set_option maxRecDepth 100000 in
set_option maxHeartbeats 4000000 in
theorem bs_awake (w : World) (ht : Tw w) : Calls Tryd.prog 10 #[] w fun e w' => e = .returned (.bool true) ∧ Step [] id id w w' := by
  obtain ⟨W1, hW1⟩ : ∃ W1, W1 = w.alloc (.cells #[.string ⟨#[97]⟩, .int .i64 3, .int .i64 1, .string ⟨#[]⟩, .slice none 0 0, .slice none 0 0, .slice none 0 0] 44) := ⟨_, rfl⟩
  obtain ⟨W2, hW2⟩ : ∃ W2, W2 = W1.alloc (.cells #[.int .i64 6, .int .i64 0, .string ⟨#[]⟩, .slice none 0 0, .slice (some ⟨w.heap.size, 0, none⟩) 1 1, .slice none 0 0] 27) := ⟨_, rfl⟩
  have z1 : W1.heap.size = w.heap.size + 1 := by rw [hW1]; simp
  have hs2 : Step [] id id w W2 := by rw [hW2, hW1]; exact (Step.alloc _).tail (Step.alloc _)
  have hF : W2.heap[w.heap.size]? = some (.cells #[.string ⟨#[97]⟩, .int .i64 3, .int .i64 1, .string ⟨#[]⟩, .slice none 0 0, .slice none 0 0, .slice none 0 0] 44 (0, 0)) := by rw [hW2]; refine alloc_old ?_; rw [hW1]; exact heap_alloc_new w _
  have hV : W2.heap[w.heap.size + 1]? = some (.cells #[.int .i64 6, .int .i64 0, .string ⟨#[]⟩, .slice none 0 0, .slice (some ⟨w.heap.size, 0, none⟩) 1 1, .slice none 0 0] 27 (0, 0)) := by rw [hW2, ← z1]; exact heap_alloc_new W1 _
  have hx : VIs (fun k => k < W2.heap.size) W2 (.doc awakeF) (#[.int .i64 6, .int .i64 0, .string ⟨#[]⟩, .slice none 0 0, .slice (some ⟨w.heap.size, 0, none⟩) 1 1, .slice none 0 0] : Array Value).toList := by
    refine VIs.mk ⟨.slice none 0 0, some ⟨w.heap.size, 0, none⟩, 1, none, 0, rfl, .inl ⟨none, 0, rfl, rfl, fun _ => rfl⟩, ⟨by simp [Val.doc, Val.f, awakeF], by simp [Val.doc, Val.l], (fun h => by cases h), fun _ => rfl⟩, ⟨by simp [Val.doc, Val.kind], by simp [Val.doc, Val.kind], by simp [Val.doc, Val.num], by simp [Val.doc, Val.num]⟩, ⟨by simp [Val.doc, Val.s], by simp [Val.doc, Val.b], by simp [Val.doc, Val.f, awakeF], by simp [Val.doc, Val.l]⟩, ?_, by simp [Val.doc, Val.l, LIs]⟩
    simp only [Val.doc, Val.f, awakeF]
    rw [FIs]
    refine ⟨⟨w.heap.size, 0, _, rfl, lt_of_block hF, by simp, fun t u ht => ?_, VIs.flat [] (by omega) (by omega) (by simp)⟩, by rw [FIs]; trivial⟩
    refine cell_blk hF (i := 0 + 0 * 7 + t) ?_
    simp only [Nat.zero_mul, Nat.zero_add, Nat.add_zero]
    rw [← ht, ← List.getElem?_toArray]; rfl
  have ht2 := Lib.hid (ht.step hs2)
  have hxH := Lib.hid hx
  have hs2H := Lib.hid hs2
  have hVH := Lib.hid hV
  have hW1H := Lib.hid hW1
  have hW2H := Lib.hid hW2
  clear hx hs2 hV hF hW1 hW2 z1 ht
  go_enter Tryd.func10, Tryd.ntmps10
  go_wp2_with fail
  rw [← hW1H.out, ← hW2H.out]
  refine (bs_encode hxH.out ht2.out).mono ?_
  rintro e w3 h
  obtain ⟨v, rfl, hrow, hs3, hnew⟩ := h.ok awake_ok
  rw [show (Val.doc awakeF).f = awakeF from rfl, awake_bytes] at hrow
  obtain ⟨vb, vc, rfl, hlie, hvc, hvb⟩ := hrow.some (by simp)
  have hs3H := Lib.hid hs3
  have hrowH := Lib.hid hrow
  have hlieH := Lib.hid hlie
  clear h hs3 hrow hlie hnew hvb
  go_wp2_with fail
  have hdec := bs_decode (P := fun k => k < w3.heap.size) (w := w3) hrowH.out.bin (by simp) (ht2.out.step hs3H.out)
  rw [awake_decode] at hdec
  refine hdec.mono ?_
  clear hdec
  rintro e w4 ⟨hs4, cs, rfl, hx4⟩
  obtain ⟨bv, fa, fc, la, lc, hcs, hb4, -, -, -, hf4, -⟩ := hx4.cells
  obtain ⟨ba, bc, rfl⟩ := hb4.shape
  obtain ⟨fb, fo, fcs, hfa, -, -, hrng, hfx⟩ := FIs.get hf4 (j := 0) (by simp [valOf, Val.doc, Val.f, awakeF])
  obtain ⟨bv2, fa2, fc2, la2, lc2, hfcs, -⟩ := hfx.cells
  subst hfa
  simp only [Nat.zero_add, Nat.zero_mul, Nat.add_zero] at hrng
  have hq := hrng 2 (.int .i64 1) (by rw [hfcs]; rfl)
  have hfblt := World.block_lt_of_cell? w4 _ hq
  rw [show cs.toArray = #[.int .i64 6, .int .i64 0, .string ⟨#[]⟩, .slice ba 0 bc, .slice (some ⟨fb, fo, none⟩) 1 fc, .slice la 0 lc] by rw [hcs]; rfl]
  rw [show errOf (Res.ok (Val.doc awakeF) 12) = 0 from rfl]
  have hV4 := hs4.at (hs3H.out.at hVH.out (by simp)) (by simp)
  have v0 := cell_blk hV4 (i := 0) rfl
  have v1 := cell_blk hV4 (i := 1) rfl
  have v2 := cell_blk hV4 (i := 2) rfl
  have v3 := cell_blk hV4 (i := 3) rfl
  have v4 := cell_blk hV4 (i := 4) rfl
  have v5 := cell_blk hV4 (i := 5) rfl
  have hV4lt := lt_of_block hV4
  obtain ⟨W5, hW5⟩ : ∃ W5, W5 = w4.alloc (.cells #[.int .i64 6, .int .i64 0, .string ⟨#[]⟩, .slice ba 0 bc, .slice (some ⟨fb, fo, none⟩) 1 fc, .slice la 0 lc] 27) := ⟨_, rfl⟩
  have hs45 : Step [] id id w4 W5 := by rw [hW5]; exact Step.alloc _
  have hs25 := (hs3H.out.tail hs4).tail hs45
  have hcv : (convert 22 9 (.slice (some ⟨vb, 0, none⟩) 12 vc)).run Tryd.prog W5 = .ok (.string ⟨#[12, 0, 0, 0, 16, 97, 0, 1, 0, 0, 0, 0]⟩) W5 := bs_str vb 0 12 vc [12, 0, 0, 0, 16, 97, 0, 1, 0, 0, 0, 0] W5 rfl (fun i hi => by
    have h1 := hlieH.out i hi
    have h2 := World.block_lt_of_cell? w3 _ h1
    rw [addr_add] at h1 h2 ⊢
    rw [cell_of_blk_eq ((hs4.tail hs45).keep vb h2 (by simp)).2]; exact h1)
  rw [hW5] at hcv
  have hx5 := Lib.hid (hxH.out.onto hs25)
  have ht5 := Lib.hid (ht2.out.step hs25)
  have hs25H := Lib.hid hs25
  have hW5H := Lib.hid hW5
  clear hs4 hx4 hcs hb4 hf4 hrng hfx hfcs hV4 hs45 hs25 hW5
  go_wp2_with (first | (go_at_call 15; rw [← hW5H.out]; refine (bs_size hx5.out ht5.out).mono ?_; rintro e w6 ⟨rfl, hs6⟩; rw [awake_size]; have hV6 := (hs25H.out.tail hs6).at hVH.out (by simp); have u0 := cell_blk hV6 (i := 0) rfl; have u1 := cell_blk hV6 (i := 1) rfl; have u2 := cell_blk hV6 (i := 2) rfl; have u3 := cell_blk hV6 (i := 3) rfl; have u4 := cell_blk hV6 (i := 4) rfl; have u5 := cell_blk hV6 (i := 5) rfl; have hs6H := Lib.hid hs6; clear hs6 hV6) | (go_at_call 18; refine (bs_may (hx5.out.onto hs6H.out) (ht5.out.step hs6H.out)).mono ?_; rintro e w7 ⟨rfl, hs7⟩; rw [awake_ok]; have hs7H := Lib.hid hs7; clear hs7))
  go_ret
  exact ⟨rfl, ((hs2H.out.tail hs25H.out).tail hs6H.out).tail hs7H.out⟩
end Go.Proofs.YtbkmnhogfegmcaaDoor
