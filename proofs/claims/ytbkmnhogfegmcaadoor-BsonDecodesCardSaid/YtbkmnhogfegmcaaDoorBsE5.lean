/- bson: what the encoder writes. bson: what the encoder writes of fields. -/
import Derived.Test.YtbkmnhogfegmcaaDoorBsE2
import Derived.Test.YtbkmnhogfegmcaaDoorBsE3
set_option linter.unusedVariables false
set_option linter.unusedSimpArgs false
namespace Go.Proofs.YtbkmnhogfegmcaaDoor
open Go.RowKit

section
variable {P : Nat → Prop} {w w' : World} {v v' : Value}
theorem Pow10.of {w w' : World} (h : Pow10 w) (hk : ∀ k, Tryd.prog.globalNamed "internal/strconv.uint64pow10" = some k → k < w.heap.size → w'.heap[k]? = w.heap[k]?) : Pow10 w' := by
  unfold Pow10 Lib.TabIs World.var? at h ⊢
  cases hn : Tryd.prog.globalNamed "internal/strconv.uint64pow10" with
  | none => rw [hn] at h; simp at h
  | some g =>
    rw [hn] at h
    simp only [Option.bind_some] at h ⊢
    cases hb : w.heap[g]? with
    | none => rw [hb] at h; simp at h
    | some o => rw [hk g hn (lt_of_block hb), hb]; rw [hb] at h; exact h
/-- The tables and the values lie in P's blocks; what is written does not. -/
structure Lies (P : Nat → Prop) (w : World) (v : Value) : Prop where
  lt : ∀ k, P k → k < w.heap.size
  tab : ∀ k, Tryd.prog.globalNamed "internal/strconv.uint64pow10" = some k → P k
  pow : Pow10 w
  out : ∀ k, v.ownBlock = some k → ¬ P k
theorem Lies.old (h : Lies P w v) (hg : Grew w v w' v') : ∀ k, P k → k < w.heap.size → w'.heap[k]? = w.heap[k]? := fun k hP hk =>
  hg.grown.block k hk (fun e => h.out k e.symm hP)
theorem Lies.grew (h : Lies P w v) (hg : Grew w v w' v') : Lies P w' v' :=
  ⟨fun k hk => Nat.lt_of_lt_of_le (h.lt k hk) hg.grown.size, h.tab, h.pow.of fun k hk hl => h.old hg k (h.tab k hk) hl, fun k hk hP => by
    rcases hg.own k hk with e | e
    · exact h.out k e hP
    · have := h.lt k hP; omega⟩
theorem Lies.grown (h : Lies P w v) (hg : w.grownBy w' none) : Lies P w' v :=
  ⟨fun k hk => Nat.lt_of_lt_of_le (h.lt k hk) hg.size, h.tab, h.pow.keep hg, h.out⟩
/-- .. new blocks may be P's too. -/
theorem Lies.more (h : Lies P w v) (hg : w.grownBy w' none) (hv : ∀ k, v.ownBlock = some k → k < w.heap.size) : Lies (fun k => (P k ∨ w.heap.size ≤ k) ∧ k < w'.heap.size) w' v :=
  ⟨fun k hk => hk.2, fun k hk => ⟨.inl (h.tab k hk), Nat.lt_of_lt_of_le (h.lt k (h.tab k hk)) hg.size⟩, h.pow.keep hg, fun k hk hP => by
    rcases hP.1 with h1 | h1
    · exact h.out k hk h1
    · have := hv k hk; omega⟩
end

theorem BIn.src {P : Nat → Prop} {w : World} {v : Value} {l : Bs} (h : BIn P w v l) : Src w 1 v l.length (byteVals l) := by
  refine ⟨by simp, ?_⟩
  rcases h with ⟨a, c, rfl, rfl, hn⟩ | ⟨b, o, c, rfl, hc, hP, h⟩
  · cases a with
    | none => exact .inl ⟨by rw [hn rfl], rfl⟩
    | some a => exact .inr ⟨a, c, rfl, fun j u hj => by simp [byteVals] at hj⟩
  · refine .inr ⟨⟨b, o, none⟩, c, rfl, fun j u hj => ?_⟩
    have hjl : j < l.length := by
      rcases Nat.lt_or_ge j l.length with h' | h'
      · exact h'
      · rw [List.getElem?_eq_none (by simpa using h')] at hj; cases hj
    rw [byteVals_get hjl] at hj
    cases hj
    rw [addr_add]; exact h j hjl
theorem encFs_named : ∀ (i : Nat) (l : List Val), encFs (named i l) = encLs i l
  | i, [] => by simp [named, encFs, encLs]
  | i, v :: r => by simp [named, encFs, encLs, encFs_named (i + 1) r]
/-- The encoder's contracts, up to a size. -/
def EncF (N : Nat) : Prop := ∀ (P : Nat → Prop) (f : List (Bs × Val)) (fa : Option Addr) (fc : Nat) (v : Value) (l : Bs) (w : World), (wrapDoc (encFs f)).length ≤ N → f.length ≤ fc → FIs P w f fa 0 → Row w v l → l.length + (wrapDoc (encFs f)).length ≤ 200000 → Lies P w v →
  Calls Tryd.prog 29 #[v, .slice fa f.length fc] w fun e w' => ∃ v', e = .returned v' ∧ Row w' v' (l ++ wrapDoc (encFs f)) ∧ Grew w v w' v'
def EncV (N : Nat) : Prop := ∀ (P : Nat → Prop) (x : Val) (cs : List Value) (v : Value) (l : Bs) (w : World), (encV x).length ≤ N → VIs P w x cs → Row w v l → l.length + (encV x).length ≤ 200000 → Lies P w v →
  Calls Tryd.prog 62 #[v, .agg cs.toArray] w fun e w' => ∃ v', e = .returned v' ∧ Row w' v' (l ++ encV x) ∧ Grew w v w' v'

set_option maxRecDepth 100000 in
set_option maxHeartbeats 4000000 in
theorem enc_value (N : Nat) (hF : EncF N) : EncV N := by
  intro P x cs v l w hN hx hrow hlen hlies
  obtain ⟨bv, fa, fc, la, lc, hcs, hb, ⟨hfc, hlc, hfn, hln⟩, ⟨hk0, hk1, hn0, hn1⟩, ⟨hs2, hb2, hf2, hl2⟩, hf, hl⟩ := hx.cells
  obtain ⟨ba, bc, rfl⟩ := hb.shape
  cases x with
  | mk k n s b f it =>
    simp only [Val.kind, Val.num, Val.s, Val.b, Val.f, Val.l] at *
    subst hcs
    have hW : w.grownBy (w.alloc (.cells #[.int .i64 k, .int .i64 n, .string (strOf s), .slice ba b.length bc, .slice fa f.length fc, .slice la it.length lc] 27)) none := World.grownBy_alloc w _ none
    obtain ⟨W1, hW1⟩ : ∃ W1, W1 = w.alloc (.cells #[.int .i64 k, .int .i64 n, .string (strOf s), .slice ba b.length bc, .slice fa f.length fc, .slice la it.length lc] 27) := ⟨_, rfl⟩
    have hrow1 : Row W1 v l := by rw [hW1]; exact World.ownsRow.alloc hrow _
    rw [← hW1] at hW
    obtain ⟨va, vN, vc, rfl, hvN⟩ := hrow.shapeN
    have hrow1H := Lib.hid hrow1
    have hWH := Lib.hid hW
    have hlenH := Lib.hid hlen
    have hliesH := Lib.hid hlies
    have hvNH := Lib.hid hvN
    have hNH := Lib.hid hN
    have hll : l.length ≤ 200000 := by omega
    have hltv := fun k hk => (World.ownsRow.lt hrow k hk).2
    have hltvH := Lib.hid hltv
    have hbox : ∀ (W : World) (v' : Value), Grew W1 (.slice va vN vc) W v' → W.heap[w.heap.size]? = W1.heap[w.heap.size]? := fun W v' hg => by
      refine hg.grown.block _ (by rw [hW1]; simp) (fun e => ?_)
      have := hltv _ e.symm
      omega
    have hboxH := Lib.hid hbox
    clear hbox
    clear hrow1 hW hrow hlen hlies hvN hN hx hltv
    by_cases k3 : k = 3
    · subst k3
      have he : encV (.mk 3 n s b f it) = layI 4 n := by simp [encV]
      rw [he]
      have c1 := (bs_lay _ l n 4 W1 (by omega) (by omega) ⟨hn0, hn1⟩ hrow1H.out)
      have c1H := Lib.hid c1
      clear c1
      go_enter Tryd.func62, Tryd.ntmps62
      go_wp2_with (go_at_call 60; rw [← hW1]; refine c1H.out.mono ?_; rintro e w' ⟨v', rfl, hr, hg⟩; have hrH := Lib.hid hr; have hgH := Lib.hid hg; clear hr hg)
      go_ret
      exact ⟨_, rfl, hrH.out, Grew.left hWH.out hgH.out⟩
    by_cases k4 : k = 4
    · subst k4
      have he : encV (.mk 4 n s b f it) = layI 8 n := by simp [encV]
      rw [he]
      have c1 := (bs_lay _ l n 8 W1 (by omega) (by omega) ⟨hn0, hn1⟩ hrow1H.out)
      have c1H := Lib.hid c1
      clear c1
      go_enter Tryd.func62, Tryd.ntmps62
      go_wp2_with (go_at_call 60; rw [← hW1]; refine c1H.out.mono ?_; rintro e w' ⟨v', rfl, hr, hg⟩; have hrH := Lib.hid hr; have hgH := Lib.hid hg; clear hr hg)
      go_ret
      exact ⟨_, rfl, hrH.out, Grew.left hWH.out hgH.out⟩
    by_cases k11 : k = 11
    · subst k11
      have he : encV (.mk 11 n s b f it) = layI 8 n := by simp [encV]
      rw [he]
      have c1 := (bs_lay _ l n 8 W1 (by omega) (by omega) ⟨hn0, hn1⟩ hrow1H.out)
      have c1H := Lib.hid c1
      clear c1
      go_enter Tryd.func62, Tryd.ntmps62
      go_wp2_with (go_at_call 60; rw [← hW1]; refine c1H.out.mono ?_; rintro e w' ⟨v', rfl, hr, hg⟩; have hrH := Lib.hid hr; have hgH := Lib.hid hg; clear hr hg)
      go_ret
      exact ⟨_, rfl, hrH.out, Grew.left hWH.out hgH.out⟩
    by_cases k10 : k = 10
    · subst k10
      have he : encV (.mk 10 n s b f it) = layI 1 n := by simp [encV]
      rw [he]
      have c1 := (bs_lay _ l n 1 W1 (by omega) (by omega) ⟨hn0, hn1⟩ hrow1H.out)
      have c1H := Lib.hid c1
      clear c1
      go_enter Tryd.func62, Tryd.ntmps62
      go_wp2_with (go_at_call 60; rw [← hW1]; refine c1H.out.mono ?_; rintro e w' ⟨v', rfl, hr, hg⟩; have hrH := Lib.hid hr; have hgH := Lib.hid hg; clear hr hg)
      go_ret
      exact ⟨_, rfl, hrH.out, Grew.left hWH.out hgH.out⟩
    by_cases k5 : k = 5
    · subst k5
      have he : encV (.mk 5 n s b f it) = layI 4 (s.length + 1 : Nat) ++ (s ++ [0]) := by simp [encV]
      obtain ⟨E, hE⟩ : ∃ E, E = encV (.mk 5 n s b f it) := ⟨_, rfl⟩
      have hlen2 : l.length + 4 + s.length + 1 ≤ 200000 := by
        have := hlenH.out
        rw [he] at this; simp only [List.length_append, layI_length, List.length_singleton] at this; omega
      rw [← hE]
      have hEH := Lib.hid (hE.trans he)
      obtain ⟨s0, hs0⟩ : ∃ s0, s0 = strOf s := ⟨_, rfl⟩
      have hsz : s0.size = s.length := by rw [hs0, strOf_size]
      rw [← hs0] at hW1 ⊢
      have c1 := (bs_lay _ l ((s0.size : Int) + 1) 4 W1 (by omega) (by omega) (by omega) hrow1H.out)
      have c1H := Lib.hid c1
      have hszH := Lib.hid hsz
      have hs0H := Lib.hid hs0
      have hl1 : l.length + 4 ≤ 1000000 := by omega
      have hl1H := Lib.hid hl1
      have hl2H := Lib.hid hlen2
      have hq : W1.cell? ⟨w.heap.size, 2, none⟩ = some (.string s0) := by rw [hW1]; exact cell_blk (heap_alloc_new w _) rfl
      have hqH := Lib.hid hq
      have hwr : IntKind.i64.wrap ((s0.size : Int) + 1) = (s0.size : Int) + 1 := IntWalk.i64_in _ (by omega)
      clear c1 hsz hs0 hE he hl1 hlen2 hq
      go_enter Tryd.func62, Tryd.ntmps62
      go_wp2_with (first | (go_at_call 60; rw [← hW1]; refine c1H.out.mono ?_; rintro e w2 ⟨v2, rfl, hr2, hg2⟩; obtain ⟨va2, vN2, vc2, rfl, -⟩ := hr2.shapeN; have hr2H := Lib.hid hr2; have hg2H := Lib.hid hg2; have q2 : w2.cell? ⟨w.heap.size, 2, none⟩ = some (.string s0) := (cell_of_blk_eq (hboxH.out _ _ hg2)).trans hqH.out; clear hr2 hg2 c1H) | (at_builtin; refine wpList_put_str rfl _ _ rfl (by rfl) hr2H.out s (by rw [← hs0H.out]; rfl) (by rw [List.length_append, layI_length]; have := hl2H.out; omega) ?_; intro va3 vN3 vc3 w3 hr3 hg3; have hr3H := Lib.hid hr3; have hg3H := Lib.hid hg3; clear hr3 hg3 hr2H) | (at_builtin; refine wpList_put_byte rfl _ _ rfl (by rfl) hr3H.out 0 (by rfl) (by first | rfl | exact hB1) (by rfl) (by simp only [List.length_append, layI_length]; have := hl2H.out; omega) ?_; intro va4 vN4 vc4 w4 hr4 hg4; have hr4H := Lib.hid hr4; have hg4H := Lib.hid hg4; clear hr4 hg4 hr3H))
      go_ret
      refine ⟨_, rfl, ?_, Grew.left hWH.out ((hg2H.out.trans hg3H.out).trans hg4H.out)⟩
      have h1 := hr4H.out
      rw [hszH.out] at h1
      rw [hEH.out]
      simpa using h1
    by_cases k6 : k = 6
    · subst k6
      have he : encV (.mk 6 n s b f it) = wrapDoc (encFs f) := by simp [encV]
      obtain ⟨E, hE⟩ : ∃ E, E = encV (.mk 6 n s b f it) := ⟨_, rfl⟩
      have h1 := hNH.out
      have h2 := hlenH.out
      rw [he] at h1 h2
      have c1 := hF P f fa fc _ l W1 h1 hfc (FIs.keep (fun _ h => h) (fun k hP hk => hWH.out.block k hk (by simp)) f fa 0 hf) hrow1H.out h2 (hliesH.out.grown hWH.out)
      rw [← he, ← hE] at c1
      rw [← hE]
      have c1H := Lib.hid c1
      clear c1 h1 h2 he hE hf hl hb
      go_enter Tryd.func62, Tryd.ntmps62
      go_wp2_with (go_at_call 29; rw [← hW1]; refine c1H.out.mono ?_; rintro e w' ⟨v', rfl, hr, hg⟩; have hrH := Lib.hid hr; have hgH := Lib.hid hg; clear hr hg)
      go_ret
      exact ⟨_, rfl, hrH.out, Grew.left hWH.out hgH.out⟩
    by_cases k7 : k = 7
    · subst k7
      have he : encV (.mk 7 n s b f it) = wrapDoc (encFs (named 0 it)) := by simp [encV, encFs_named]
      obtain ⟨E, hE⟩ : ∃ E, E = encV (.mk 7 n s b f it) := ⟨_, rfl⟩
      have h1 := hNH.out
      have h2 := hlenH.out
      rw [he] at h1 h2
      have h3 : it.length ≤ 200000 := by
        have h4 := encFs_len (named 0 it)
        rw [named_length] at h4
        rw [wrapDoc_length] at h2
        omega
      have c1 := bs_named it la lc W1 h3 (LIs.keep (fun _ h => h) (fun k hP hk => hWH.out.block k hk (by simp)) it la 0 hl) (hliesH.out.pow.keep hWH.out)
      rw [← hE]
      have c1H := Lib.hid c1
      have hcont : ∀ (W : World) (ad : Option Addr) (c : Nat), FIs (fun k => P k ∨ W1.heap.size ≤ k) W (named 0 it) ad 0 → W1.grownBy W none → it.length ≤ c →
          Calls Tryd.prog 29 #[.slice va vN vc, .slice ad it.length c] W fun e w' => ∃ v', e = .returned v' ∧ Row w' v' (l ++ E) ∧ Grew W (.slice va vN vc) w' v' := fun W ad c hFI hg hc => by
        have h5 := FIs.below (named 0 it) ad 0 hFI
        have h6 := hF (fun k => (P k ∨ W1.heap.size ≤ k) ∧ k < W.heap.size) (named 0 it) ad c (.slice va vN vc) l W h1 (by rw [named_length]; exact hc) h5 (ownsRow_grown hrow1H.out hg) h2 ((hliesH.out.grown hWH.out).more hg (fun k hk => Nat.lt_of_lt_of_le (hltvH.out k hk) hWH.out.size))
        rw [named_length, ← he, ← hE] at h6
        exact h6
      have hcontH := Lib.hid hcont
      clear c1 h1 h2 he hE hf hl hb hcont
      go_enter Tryd.func62, Tryd.ntmps62
      go_wp2_with (first | (go_at_call 93; rw [← hW1]; refine c1H.out.mono ?_; rintro e w2 ⟨ad2, c2, rfl, hFI2, hg2, hc2⟩; have hFI2H := Lib.hid hFI2; have hg2H := Lib.hid hg2; clear hFI2 hg2 c1H) | (go_at_call 29; refine (hcontH.out _ _ _ hFI2H.out hg2H.out hc2).mono ?_; rintro e w3 ⟨v3, rfl, hr3, hg3⟩; have hr3H := Lib.hid hr3; have hg3H := Lib.hid hg3; clear hr3 hg3))
      go_ret
      exact ⟨_, rfl, hr3H.out, Grew.left (hWH.out.trans hg2H.out) hg3H.out⟩
    by_cases k8 : k = 8
    · subst k8
      have he : encV (.mk 8 n s b f it) = layI 4 b.length ++ (0 :: b) := by simp [encV]
      obtain ⟨E, hE⟩ : ∃ E, E = encV (.mk 8 n s b f it) := ⟨_, rfl⟩
      have hlen2 : l.length + 4 + b.length + 1 ≤ 200000 := by
        have := hlenH.out
        rw [he] at this; simp only [List.length_append, layI_length, List.length_cons] at this; omega
      rw [← hE]
      have hEH := Lib.hid (hE.trans he)
      obtain ⟨bn, hbn⟩ : ∃ bn, bn = b.length := ⟨_, rfl⟩
      rw [← hbn] at hW1 ⊢
      have hbsrc : ∀ W : World, w.grownBy W (Value.ownBlock (.slice va vN vc)) → Src W 1 (.slice ba bn bc) b.length (byteVals b) := fun W hW => by
        rw [hbn]
        exact (hb.keep (fun _ h => h) (fun k hP hk => hW.block k hk (fun e => hliesH.out.out k e.symm hP))).src
      have hbsrcH := Lib.hid hbsrc
      have c1 := (bs_lay _ l (bn : Int) 4 W1 (by omega) (by omega) (by omega) hrow1H.out)
      have c1H := Lib.hid c1
      have hbnH := Lib.hid hbn
      have hl2H := Lib.hid hlen2
      have hq : W1.cell? ⟨w.heap.size, 3, none⟩ = some (.slice ba bn bc) := by rw [hW1]; exact cell_blk (heap_alloc_new w _) rfl
      have hqH := Lib.hid hq
      have hltW1H := Lib.hid (show w.heap.size < W1.heap.size by rw [hW1]; simp)
      clear c1 hbn hE he hlen2 hbsrc hb hf hl hq
      go_enter Tryd.func62, Tryd.ntmps62
      go_wp2_with (first | (go_at_call 60; rw [← hW1]; refine c1H.out.mono ?_; rintro e w2 ⟨v2, rfl, hr2, hg2⟩; obtain ⟨va2, vN2, vc2, rfl, -⟩ := hr2.shapeN; have hr2H := Lib.hid hr2; have hg2H := Lib.hid hg2; have hlt2 : w.heap.size < w2.heap.size := Nat.lt_of_lt_of_le hltW1H.out hg2.grown.size; clear hr2 hg2 c1H) | (at_builtin; refine wpList_put_byte rfl _ _ rfl (by rfl) hr2H.out 0 (by rfl) (by first | rfl | exact hB1) (by rfl) (by simp only [List.length_append, layI_length]; have := hl2H.out; omega) ?_; intro va3 vN3 vc3 w3 hr3 hg3; have hr3H := Lib.hid hr3; have hg3H := Lib.hid (Grew.left hWH.out (hg2H.out.trans hg3)); have q3 : w3.cell? ⟨w.heap.size, 3, none⟩ = some (.slice ba bn bc) := (cell_of_blk_eq (hboxH.out _ _ (hg2H.out.trans hg3))).trans hqH.out; clear hr3 hg3 hr2H) | (at_builtin; refine wpList_put_src rfl _ _ rfl (by rfl) hr3H.out b (by rfl) (hbsrcH.out _ hg3H.out.grown) (by simp only [List.length_append, layI_length, List.length_singleton]; have := hl2H.out; omega) ?_; intro va4 vN4 vc4 w4 hr4 hg4; have hr4H := Lib.hid hr4; have hg4H := Lib.hid hg4; clear hr4 hg4 hr3H))
      go_ret
      refine ⟨_, rfl, ?_, hg3H.out.trans hg4H.out⟩
      have h1 := hr4H.out
      rw [hbnH.out] at h1
      rw [hEH.out]
      simpa using h1
    by_cases k9 : k = 9
    · subst k9
      have he : encV (.mk 9 n s b f it) = b := by simp [encV]
      rw [he]
      have hlen2 : l.length + b.length ≤ 200000 := by
        have := hlenH.out
        rw [he] at this; exact this
      obtain ⟨bn, hbn⟩ : ∃ bn, bn = b.length := ⟨_, rfl⟩
      rw [← hbn] at hW1 ⊢
      have hbsrc : Src W1 1 (.slice ba bn bc) b.length (byteVals b) := by
        rw [hbn]
        exact (hb.keep (fun _ h => h) (fun k hP hk => hWH.out.block k hk (by simp))).src
      have hbsrcH := Lib.hid hbsrc
      have hl2H := Lib.hid hlen2
      clear hbn he hlen2 hbsrc hb hf hl
      go_enter Tryd.func62, Tryd.ntmps62
      go_wp2_with (at_builtin; rw [← hW1]; refine wpList_put_src rfl _ _ rfl (by rfl) hrow1H.out b (by rfl) hbsrcH.out (by have := hl2H.out; omega) ?_; intro va4 vN4 vc4 w4 hr4 hg4; have hr4H := Lib.hid hr4; have hg4H := Lib.hid hg4; clear hr4 hg4)
      go_ret
      exact ⟨_, rfl, hr4H.out, Grew.left hWH.out hg4H.out⟩
    have he : encV (.mk k n s b f it) = [] := by simp [encV, k3, k4, k11, k10, k5, k6, k7, k8, k9]
    rw [he, List.append_nil]
    clear he hb hf hl
    go_enter Tryd.func62, Tryd.ntmps62
    go_wp2_with fail
    go_ret
    rw [← hW1]
    exact ⟨_, rfl, hrow1H.out, Grew.left hWH.out (Grew.refl _ _)⟩
end Go.Proofs.YtbkmnhogfegmcaaDoor
namespace Go.Proofs.YtbkmnhogfegmcaaDoor
open Go.RowKit

theorem Row.tail0 {w : World} {ad : Option Addr} {N c : Nat} {m : Bs} {x : UInt8} (h : Row w (.slice ad N c) (m ++ [x])) : ∃ g, ad = Option.some ⟨g, 0, none⟩ ∧ N ≤ c ∧ N = m.length + 1 := by
  have hN := h.len
  rw [List.length_append, List.length_singleton] at hN
  rcases h.2 with ⟨e, h0⟩ | ⟨g, cap, cur, e, _, h1, h2, _⟩
  · simp at h0
  · injection e with e1 e2 e3
    exact ⟨g, e1, by rw [e2, e3]; exact h2, hN⟩
theorem encFs_append : ∀ (a b : List (Bs × Val)), encFs (a ++ b) = encFs a ++ encFs b
  | [], b => by simp [encFs]
  | (nm, v) :: r, b => by simp [encFs, encFs_append r b]
theorem encFs_take (f : List (Bs × Val)) (j : Nat) (h : j < f.length) : encFs (f.take (j + 1)) = encFs (f.take j) ++ (codeOf f[j].2.kind :: (f[j].1 ++ (0 :: encV f[j].2))) := by
  rw [List.take_succ_eq_append_getElem h, encFs_append]
  cases hf : f[j] with
  | mk nm v => simp [encFs]
theorem encFs_take_le (f : List (Bs × Val)) (j : Nat) : (encFs (f.take j)).length ≤ (encFs f).length := by
  conv => rhs; rw [← List.take_append_drop j f]
  rw [encFs_append, List.length_append]; omega

set_option maxRecDepth 100000 in
set_option maxHeartbeats 4000000 in
theorem enc_fields (N : Nat) (hV : ∀ M, M < N → EncV M) : EncF N := by
  intro P f fa fc v l w hN hfc hf hrow hlen hlies
  have hwl := wrapDoc_length (encFs f)
  have hflen := encFs_len f
  have hb0 : l.length + ((encFs f).length + 5) ≤ 200000 := by rw [← hwl]; exact hlen
  have hNb : (encFs f).length + 5 ≤ N := by rw [← hwl]; exact hN
  have hNbH := Lib.hid hNb
  have hb0H := Lib.hid hb0
  have hfl : f.length ≤ 200000 := by omega
  obtain ⟨va, vN, vc, rfl, hvN⟩ := hrow.shapeN
  have c1 := bs_lay _ l 0 4 w (by omega) (by omega) (by omega) hrow
  have c1H := Lib.hid c1
  have hfH := Lib.hid hf
  have hliesH := Lib.hid hlies
  have hrowH := Lib.hid hrow
  have hvNH := Lib.hid hvN
  have hltv := fun k hk => (World.ownsRow.lt hrow k hk).2
  have hltvH := Lib.hid hltv
  have hlb : l.length ≤ 199995 := by omega
  clear c1 hf hlies hrow hlen hwl hflen hN hNb hltv hvN hb0
  go_enter Tryd.func29, Tryd.ntmps29
  go_wp2_with (go_at_call 60; refine c1H.out.mono ?_; rintro e w1 ⟨v1, rfl, hr1, hg1⟩; have hr1H := Lib.hid hr1; have hg1H := Lib.hid hg1; clear hr1 hg1)
  go_loopw [0, 14] (fun bv i wr => ∃ j : Nat, i = .int .i64 j ∧ j ≤ f.length ∧ Row wr bv (l ++ (layI 4 0 ++ encFs (f.take j))) ∧ Grew w (.slice va vN vc) wr bv) (fun _ i _ => f.length - (intOf i).toNat)
  case atStart => exact ⟨0, rfl, Nat.zero_le _, by simpa [encFs] using hr1H.out, hg1H.out⟩
  case round =>
    obtain ⟨j, rfl, hj, hrow, hgr⟩ := hrel
    obtain ⟨ad, M0, c, rfl, -⟩ := hrow.shapeN
    have hrowH := Lib.hid hrow
    have hgrH := Lib.hid hgr
    have hlsH := Lib.hid (hliesH.out.grew hgr)
    clear hrow hgr
    by_cases hjl : j < f.length
    · have hjl1 : (j : Int) < (f.length : Int) := by omega
      have hj0 : (0 : Int) ≤ (j : Int) := by omega
      have hfw := FIs.keep (fun _ h => h) (fun k hP hk => hliesH.out.old hgrH.out k hP hk) f fa 0 hfH.out
      obtain ⟨b, o, cs, hae, hPb, hnl, hrng, hx⟩ := hfw.get hjl
      subst hae
      obtain ⟨s0, ba, bn, bc, fa2, fn, fc2, la2, ln, lc2, hcs, -⟩ := hx.six
      have hlenj : (encFs (f.take (j + 1))).length ≤ (encFs f).length := encFs_take_le f (j + 1)
      have htk := encFs_take f j hjl
      obtain ⟨nm, hnm⟩ : ∃ nm, nm = f[j].1 := ⟨_, rfl⟩
      obtain ⟨x, hxe⟩ : ∃ x, x = f[j].2 := ⟨_, rfl⟩
      rw [← hnm] at hrng hnl htk
      rw [← hxe] at hx hcs htk
      obtain ⟨n0, hn0⟩ : ∃ k, k = x.num := ⟨_, rfl⟩
      obtain ⟨k0, hk0⟩ : ∃ k, k = x.kind := ⟨_, rfl⟩
      obtain ⟨nms, hnms⟩ : ∃ k, k = strOf nm := ⟨_, rfl⟩
      rw [← hk0, ← hn0] at hcs
      rw [← hk0] at htk
      rw [hcs, Nat.zero_add, ← hnms] at hrng
      subst hcs
      have q0 := hrng 0 _ rfl
      have q1 := hrng 1 _ rfl
      have q2 := hrng 2 _ rfl
      have q3 := hrng 3 _ rfl
      have q4 := hrng 4 _ rfl
      have q5 := hrng 5 _ rfl
      have q6 := hrng 6 _ rfl
      rw [Nat.add_zero] at q0
      have hltad := fun k hk => (World.ownsRow.lt hrowH.out k hk).2
      have htl : (encFs (f.take j)).length + (nm.length + (encV x).length + 2) ≤ (encFs f).length := by
        rw [htk] at hlenj
        simp only [List.length_append, List.length_cons] at hlenj
        omega
      have hxH := Lib.hid hx
      have htkH := Lib.hid htk
      have htlH := Lib.hid htl
      have hnmsH := Lib.hid hnms
      obtain ⟨m, hm⟩ : ∃ m, m = l ++ (layI 4 0 ++ encFs (f.take j)) := ⟨_, rfl⟩
      have hml : m.length = l.length + 4 + (encFs (f.take j)).length := by rw [hm]; simp only [List.length_append, layI_length]; omega
      rw [← hm] at hrowH
      have hmH := Lib.hid hm
      have hmlH := Lib.hid hml
      obtain ⟨W1, hW1⟩ : ∃ W1, W1 = wr.alloc (.cells #[.string nms, .int .i64 k0, .int .i64 n0, .string s0, .slice ba bn bc, .slice fa2 fn fc2, .slice la2 ln lc2] 44) := ⟨_, rfl⟩
      have hrow1H := Lib.hid (show Row W1 (.slice ad M0 c) m by rw [hW1]; exact World.ownsRow.alloc hrowH.out _)
      have hgW := Lib.hid (show wr.grownBy W1 none by rw [hW1]; exact World.grownBy_alloc wr _ none)
      have hblk := Lib.hid (show W1.heap[wr.heap.size]? = some (.cells #[.string nms, .int .i64 k0, .int .i64 n0, .string s0, .slice ba bn bc, .slice fa2 fn fc2, .slice la2 ln lc2] 44 (0, 0)) by rw [hW1]; exact heap_alloc_new wr _)
      have hkeep : ∀ (W : World) (v' : Value), Grew W1 (.slice ad M0 c) W v' → W.heap[wr.heap.size]? = some (.cells #[.string nms, .int .i64 k0, .int .i64 n0, .string s0, .slice ba bn bc, .slice fa2 fn fc2, .slice la2 ln lc2] 44 (0, 0)) := fun W v' hg => by
        refine (hg.grown.block _ (lt_of_block hblk.out) (fun e => ?_)).trans hblk.out
        have := hltad _ e.symm
        omega
      have hkeepH := Lib.hid hkeep
      have hwrap : IntKind.i64.wrap ((j : Int) + 1) = (j : Int) + 1 := IntWalk.i64_in _ (by omega)
      have hlt1 : wr.heap.size < W1.heap.size := lt_of_block hblk.out
      have hB1 := Lib.hid (show wr.heap.size + 1 = W1.heap.size by rw [hW1]; simp)
      clear hrng hx htk hn0 hk0 hnms hnm hxe hlenj htl hm hml hkeep hltad hfw
      go_wp2_with (first
        | (go_at_call 61; refine (bs_code k0 _).mono ?_; rintro e w' ⟨rfl, rfl⟩)
        | (at_builtin; rw [← hW1]; refine wpList_put_byte rfl _ _ rfl (by rfl) hrow1H.out (codeOf k0) (by rfl) (by first | rfl | exact hB1.out) (by rfl) (by rw [hmlH.out]; have := htlH.out; have := hb0H.out; omega) ?_; intro va2 vN2 vc2 w2 hr2 hg2; have p0 : w2.cell? ⟨wr.heap.size, 0, none⟩ = some (.string nms) := cell_blk (hkeepH.out _ _ hg2) rfl; have hr2H := Lib.hid hr2; have hg2H := Lib.hid hg2; clear hr2 hg2)
        | (at_builtin; refine wpList_put_str rfl _ _ rfl (by rfl) hr2H.out nm (by rw [← hnmsH.out]; rfl) (by rw [List.length_append, hmlH.out]; simp only [List.length_singleton]; have := htlH.out; have := hb0H.out; omega) ?_; intro va3 vN3 vc3 w3 hr3 hg3; have hr3H := Lib.hid hr3; have hg3H := Lib.hid (hg2H.out.trans hg3); clear hr3 hg3)
        | (at_builtin; refine wpList_put_byte rfl _ _ rfl (by rfl) hr3H.out 0 (by rfl) (by first | rfl | exact hB1.out) (by rfl) (by simp only [List.length_append, List.length_singleton]; rw [hmlH.out]; have := htlH.out; have := hb0H.out; omega) ?_; intro va4 vN4 vc4 w4 hr4 hg4; have hg4b := hg3H.out.trans hg4; have hb4 := hkeepH.out _ _ hg4b; have p1 : w4.cell? ⟨wr.heap.size, 1, none⟩ = some (.int .i64 k0) := cell_blk hb4 rfl; have p2 : w4.cell? ⟨wr.heap.size, 2, none⟩ = some (.int .i64 n0) := cell_blk hb4 rfl; have p3 : w4.cell? ⟨wr.heap.size, 3, none⟩ = some (.string s0) := cell_blk hb4 rfl; have p4 : w4.cell? ⟨wr.heap.size, 4, none⟩ = some (.slice ba bn bc) := cell_blk hb4 rfl; have p5 : w4.cell? ⟨wr.heap.size, 5, none⟩ = some (.slice fa2 fn fc2) := cell_blk hb4 rfl; have p6 : w4.cell? ⟨wr.heap.size, 6, none⟩ = some (.slice la2 ln lc2) := cell_blk hb4 rfl; have hr4H := Lib.hid hr4; have hg4H := Lib.hid hg4b; clear hr4 hg4 hg4b hb4))
      have hg04 : Grew wr (.slice ad M0 c) w4 (.slice va4 vN4 vc4) := Grew.left hgW.out hg4H.out
      have hx4 := hxH.out.keep (fun _ h => h) (fun k hP hk => hlsH.out.old hg04 k hP hk)
      have hcall := hV (encV x).length (by have := hNbH.out; have := htlH.out; omega) P x _ _ _ w4 (Nat.le_refl _) hx4 hr4H.out (by simp only [List.length_append, List.length_singleton]; rw [hmlH.out]; have := htlH.out; have := hb0H.out; omega) (hlsH.out.grew hg04)
      refine hcall.mono ?_
      rintro e w5 ⟨v5, rfl, hr5, hg5⟩
      have hr5H := Lib.hid hr5
      have hg5H := Lib.hid (hg04.trans hg5)
      clear hr5 hg5 hg04 hx4 hcall p0 p1 p2 p3 p4 p5 p6 q0 q1 q2 q3 q4 q5 q6
      go_wp2_with fail
      go_roundw
      case rel =>
        refine ⟨j + 1, rfl, by omega, ?_, hgrH.out.trans hg5H.out⟩
        have h1 := hr5H.out
        rw [hmH.out] at h1
        rw [htkH.out]
        simpa using h1
      case measure => simp [intOf]; omega
    · have hjl1 : ¬ (j : Int) < (f.length : Int) := by omega
      have hje : f.take j = f := List.take_of_length_le (by omega)
      rw [hje] at hrowH
      obtain ⟨m, hm⟩ : ∃ m, m = l ++ (layI 4 0 ++ encFs f) := ⟨_, rfl⟩
      rw [← hm] at hrowH
      have hml : m.length = l.length + 4 + (encFs f).length := by rw [hm]; simp only [List.length_append, layI_length]; omega
      have hmH := Lib.hid hm
      have hmlH := Lib.hid hml
      clear hm hml hje
      go_wp2_with (at_builtin; refine wpList_put_byte rfl _ _ rfl (by rfl) hrowH.out 0 (by rfl) (by rfl) (by rfl) (by rw [hmlH.out]; have := hb0H.out; omega) ?_; intro va2 vN2 vc2 w2 hr2 hg2; obtain ⟨g2, rfl, hc2, hN2⟩ := hr2.tail0; have e1 := hmlH.out; have e2 := hvNH.out; have hle : vN ≤ vc2 := (by omega); have hle2 : (vN : Int) ≤ (vc2 : Int) := (by omega); clear e1 e2; have hN2H := Lib.hid hN2; have hr2H := Lib.hid hr2; have hg2H := Lib.hid hg2; clear hr2 hg2 hN2)
      have e1 := hmlH.out
      have e2 := hvNH.out
      have e3 := hN2H.out
      have e4 := hb0H.out
      have hsum : wrap64 ((vN2 : Int) - (vN : Int)) = (((encFs f).length + 5 : Nat) : Int) := by
        rw [wrap_id (by omega) (by omega)]; omega
      rw [hsum, show ((4 : Int) = ((4 : Nat) : Int)) from rfl, e2]
      have hr3 : Row w2 (.slice (some ⟨g2, 0, none⟩) vN2 vc2) (l ++ (layI 4 0 ++ (encFs f ++ [0]))) := by
        have := hr2H.out
        rw [hmH.out] at this
        simpa using this
      refine (bs_lay_over l (layI 4 0) (encFs f ++ [0]) (((encFs f).length + 5 : Nat) : Int) g2 vN2 vc2 w2 (layI_length _ _) (by omega) (by omega) hr3).mono ?_
      rintro e w3 ⟨⟨v3, rfl⟩, hr4, hg4⟩
      have hr4H := Lib.hid hr4
      have hg4H := Lib.hid hg4
      clear hr3 hr4 hg4 e1 e2 e3 e4 hsum
      go_wp2_with fail
      go_ret
      exact ⟨_, rfl, hr4H.out, (hgrH.out.trans hg2H.out).trans ⟨hg4H.out, fun k hk => .inl hk⟩⟩

/-- THE ENCODER's CONTRACTS, whatever the size. -/
theorem enc_all : ∀ N, EncF N ∧ EncV N := by
  intro N
  induction N using Nat.strongRecOn with
  | ind N ih =>
    have h := enc_fields N (fun M hM => (ih M hM).2)
    exact ⟨h, enc_value N h⟩
end Go.Proofs.YtbkmnhogfegmcaaDoor
