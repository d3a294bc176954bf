/- The disk: Alloc. -/
import Derived.Test.YtlppoimdfclbaaaDisk4
set_option linter.unusedVariables false
set_option linter.unusedSimpArgs false
namespace Go.Proofs.Ytlppoimdfclbaaa
open Go.RowKit

section
variable {T : List Nat} {g g1 : Nat → Nat} {w w1 : World} {r : Nat} {D : Dk} {bm bf : Nat} {sv lv : Value} {es : Array MapEntry} {clock : Nat} {ents : List (Int × Value × List UInt8)} {free : List Int} {fl : List (Int × Int)} {high ops since : Int}

theorem run_make_bytes (n : Nat) (hn : n ≤ 1000000000) (w : World) :
    (Instr.makeSlice 35 (.int .i64 (n : Int)) (.int .i64 (n : Int))).run Try.prog w = .ok (.slice (some ⟨w.heap.size, 0, none⟩) n n) (w.alloc (.cells (byteVals (List.replicate n 0)).toArray 5)) := by
  obtain ⟨i0, hi, hz0, hz1, hz2⟩ := info_parts info_u8
  have hrun := run_make (P := Try.prog) w 35 5 i0 (.int .u8 0) Try.underlying35 hi hz0 .i64 .i64 n n (by omega) (Int.le_refl _) (by rw [hz2]; omega) (by omega)
  rw [hz1, Nat.mul_one, Int.toNat_natCast] at hrun
  have hm : madeCells (Value.int .u8 0).cells n = (byteVals (List.replicate n 0)).toArray := by
    apply Array.ext'
    rw [show (Value.int .u8 0).cells = #[.int .u8 0] from rfl, toList_madeCells_one]
    simp [byteVals]
  rw [hm] at hrun
  exact hrun

/-- One cell of the disk's own block is set. -/
theorem DiskMem.set {D' : Dk} {high' ops' since' : Int} (h : DiskMem g w r D bm bf lv es clock ents fl high ops since) (i : Nat) (u : Value)
    (hc : (diskCells D r bm bf lv high ops since).setIfInBounds i u = diskCells D' r bm bf lv high' ops' since') (h1 : D'.page = D.page) (h2 : D'.most = D.most) (h3 : D'.pages = D.pages) (h4 : D'.clean = D.clean) :
    DiskMem g (w.setCell ⟨r, i, none⟩ u) r D' bm bf lv es clock ents fl high' ops' since' :=
  { blk := by rw [← hc]; exact set_blk h.blk i u
    own := h.own, map := set_other h.map h.bm_ne, ownm := h.ownm, es := h.es
    pg := by rw [h3]; exact h.pg
    rows := fun t ht => by
      rw [h1]
      have hp := h.rows t ht
      exact ⟨ownsRow_setOther hp.row h.blk (by decide), hp.len, hp.own⟩
    apart := h.apart
    flt := ownsRow_setOther h.flt h.blk (by decide)
    ownf := h.ownf, fln := h.fln
    clean := by rw [h4]; exact h.clean
    valid := by rw [h1]; exact h.valid
    most := by rw [h2]; exact h.most }
theorem DiskMem.cell (h : DiskMem g w r D bm bf lv es clock ents fl high ops since) {i : Nat} {v : Value} (hi : (diskCells D r bm bf lv high ops since)[i]? = some v) : w.cell? ⟨r, i, none⟩ = some v := cell_blk h.blk hi
theorem DiskMem.step {T : List Nat} (h : DiskMem g w r D bm bf lv es clock ents fl high ops since) (hs : Step T g g1 w w1) (hr : r ∉ T) : DiskMem g1 w1 r D bm bf lv es clock ents fl high ops since :=
  { h with
    blk := hs.at h.blk (by rw [h.own]; exact hr)
    own := by rw [hs.own_at h.blk (by rw [h.own]; exact hr)]; exact h.own
    map := hs.at h.map (by rw [h.ownm]; exact hr)
    ownm := by rw [hs.own_at h.map (by rw [h.ownm]; exact hr)]; exact h.ownm
    rows := fun t ht => (h.rows t ht).step hs hr
    flt := h.flt.step hs (fun k hk => by rw [h.ownf k hk]; exact hr)
    ownf := fun k hk => by
      have hlt := (World.ownsRow.lt h.flt k hk).2
      rw [(hs.keep k hlt (by rw [h.ownf k hk]; exact hr)).1]; exact h.ownf k hk }

/-- A new page is put into the map. -/
theorem DiskMem.insert (h : DiskMem g w r D bm bf lv es clock ents fl high ops since) {n : Int} {z : List UInt8} (hn : ∀ t ∈ D.pages, t.1 ≠ n) {v : Value} {k : Nat} (hv : Row w v z) (hz : z.length = D.page) (hk : v.ownBlock = some k) (hgk : g k ≠ r) :
    ∃ W es' clock', (Instr.mapUpdate 65 (.map (some bm)) (.int .i64 n) v).run Try.prog w = .ok () W ∧ w.grownBy W (some bm) ∧ W.heap.size = w.heap.size ∧
      DiskMem (Go.Proofs.Ytlppoimdfclbaaa.giveTo g v r) W r { D with pages := D.pages ++ [(n, z)] } bm bf lv es' clock' (ents ++ [(n, v, z)]) fl high ops since := by
  have hup := run_update_new (w := w) (P := Try.prog) (n := n) Try.underlying65 Try.underlying3 h.map v h.es (fun t ht => by
    obtain ⟨t', h1, h2⟩ := mem_keysVals ht
    rw [← h2]
    exact hn (t'.1, t'.2.2) (by rw [h.pg]; exact List.mem_map_of_mem h1))
  have hg := putObj_grown (w := w) bm (.map (es.push { key := .int .i64 n, val := v, born := clock }) (clock + 1))
  have hgv := h.giveTo v
  refine ⟨_, _, _, hup, hg, putObj_size _ _, hgv.remap hg (putObj_same h.map) (by rw [keysVals_append]; exact h.es.push) (by simp [keysPages, h.pg]) rfl rfl rfl rfl ?_ ?_⟩
  · intro t ht
    rw [List.mem_append, List.mem_singleton] at ht
    rcases ht with ht | rfl
    · exact (hgv.rows t ht).kept hg h.map
    · exact ⟨hv.kept hg (.inr (fun e => ownsRow_ne_map hv hk h.map (by rw [hk] at e; cases e; rfl))), hz, k, hk, giveTo_same hk⟩
  · simp only [List.map_append, List.map_cons, List.map_nil]
    rw [List.nodup_append]
    refine ⟨h.apart, by simp, ?_⟩
    intro a ha c hc e
    rw [List.mem_singleton] at hc
    obtain ⟨t, ht, e'⟩ := List.mem_map.1 ha
    obtain ⟨k', h1, h2⟩ := (h.rows t ht).own
    rw [e', e, hc, hk] at h1
    cases h1
    exact hgk h2

/-- What Alloc comes to. -/
inductive AllocOut (D : Dk) : Ending → Dk → Prop where
  | full (h : D.clean = true → D.most ≤ D.pages.length) : AllocOut D (.returned (.tuple #[.int .i64 0, .int .i64 17])) D
  | ok (n : Int) (h0 : 0 ≤ n) (h1 : n < D.most) (hn : ∀ t ∈ D.pages, t.1 ≠ n) (hl : D.pages.length < D.most) : AllocOut D (.returned (.tuple #[.int .i64 n, .int .i64 0])) { D with pages := D.pages ++ [(n, List.replicate D.page 0)] }

set_option maxRecDepth 100000 in
set_option maxHeartbeats 2000000 in
theorem disk_alloc (h : DiskAt g w r D) (hw : GWf g w) :
    Calls Try.prog 57 #[.pointer (some ⟨r, 0, none⟩)] w fun e w' => ∃ g' D', AllocOut D e D' ∧ DiskAt g' w' r D' ∧ Step [r] g g' w w' := by
  have hrlt := h.lt
  obtain ⟨bm, bf, sv, lv, es, clock, ents, free, fl, high, ops, since, h⟩ := h
  have hwH := Lib.hid hw; clear hw
  have hH := Lib.hid h; clear h
  go_enter Try.func57, Try.ntmps57
  go_wp2_with fail
  refine (disk_made hH.out).mono ?_
  rintro e w' ⟨rfl, rfl⟩
  go_wp2_with fail
  refine (disk_op hH.out).mono ?_
  rintro e w1 ⟨rfl, h1, hs1, _⟩
  have c8 : w1.cell? ⟨r, 8, none⟩ = some (.func (.func 48) #[.agg #[.pointer (some ⟨r, 0, none⟩), lv]] #[]) := h1.cell rfl
  have c2 : w1.cell? ⟨r, 2, none⟩ = some (.map (some bm)) := h1.cell rfl
  have c1 : w1.cell? ⟨r, 1, none⟩ = some (.int .i64 D.most) := h1.cell rfl
  have hmap := h1.map
  have hlen : es.size = D.pages.length := by
    have := h1.es.length
    rw [h1.pg]; simp [keysVals, keysPages] at *; omega
  have hlenH := Lib.hid hlen; clear hlen
  have hmost := h1.most
  have hr1 : r < w1.heap.size := lt_of_block h1.blk
  have hr2 : bm < w1.heap.size := lt_of_block h1.map
  have h1H := Lib.hid h1; clear h1
  have hs1H := Lib.hid hs1; clear hs1
  by_cases hf : (wrap64 (since + 1), (3 : Int)) ∈ fl
  · go_wp2_with fail
    refine wp_region_held_drew (S := fun w' => w'.cell? ⟨r, 8, none⟩ = some (.func (.func 48) #[.agg #[.pointer (some ⟨r, 0, none⟩), lv]] #[])) (by kernel_rfl) c8 (fun hHeld => ?_)
    refine wpAnyH_take (i := 0) (v := ?_) rfl (by kernel_rfl) (by kernel_rfl) (by kernel_rfl) (fun _ _ _ h => h) (Or.inl ⟨by kernel_rfl, ?_⟩) hHeld ?_
    rotate_left
    · intro w' hSw; (try dsimp only at hSw); go_simp
      all_goals (with_reducible rfl)
    simp only [Act.put, List.getElem_toArray, List.getElem_cons_zero, List.getElem_cons_succ, List.setIfInBounds_toArray, List.set_cons_zero, List.set_cons_succ]
    refine wpAnyH_take (i := 1) (v := ?_) rfl (by kernel_rfl) (by kernel_rfl) (by kernel_rfl) (fun _ _ _ h => h) (Or.inl ⟨by kernel_rfl, ?_⟩) hHeld ?_
    rotate_left
    · intro w' hSw; (try dsimp only at hSw); go_simp
      all_goals (with_reducible rfl)
    simp only [Act.put, List.getElem_toArray, List.getElem_cons_zero, List.getElem_cons_succ, List.setIfInBounds_toArray, List.set_cons_zero, List.set_cons_succ]
    refine wpAnyH_take (i := 2) (v := ?_) rfl (by kernel_rfl) (by kernel_rfl) (by kernel_rfl) (fun _ _ _ h => h) (Or.inl ⟨by kernel_rfl, ?_⟩) hHeld ?_
    rotate_left
    · intro w' hSw; (try dsimp only at hSw); go_simp
      all_goals (with_reducible rfl)
    simp only [Act.put, List.getElem_toArray, List.getElem_cons_zero, List.getElem_cons_succ, List.setIfInBounds_toArray, List.set_cons_zero, List.set_cons_succ]
    refine wpAnyH_take (i := 3) (v := ?_) rfl (by kernel_rfl) (by kernel_rfl) (by kernel_rfl) (fun _ _ _ h => h) (Or.inl ⟨by kernel_rfl, ?_⟩) hHeld ?_
    rotate_left
    · intro w' hSw; (try dsimp only at hSw); go_simp
      all_goals (with_reducible rfl)
    simp only [Act.put, List.getElem_toArray, List.getElem_cons_zero, List.getElem_cons_succ, List.setIfInBounds_toArray, List.set_cons_zero, List.set_cons_succ]
    refine wpAnyH_ready (rs := [4]) (by kernel_rfl) (by simp) ?_
    refine AllReadyH.cons (o := _) rfl (fun K hK => ?_) AllReadyH.nil
    go_simp
    refine ((h1H.out.step (T := []) (g1 := g) (w1 := w1.drew) Step.drew (by simp)).nowD 3).mono ?_
    rintro e w2 ⟨rfl, hg2⟩
    rw [decide_eq_true hf]
    go_wp2_with fail
    refine hK.out _ _ ?_ (fun hHeld => ?_)
    · exact (World.cell?_of_block (hg2.block r hr1 (by simp))).trans c8
    clear hK K

    refine wpAnyH_take (i := 5) (v := ?_) rfl (by kernel_rfl) (by kernel_rfl) (by kernel_rfl) (fun _ _ _ h => h) (Or.inl ⟨by kernel_rfl, ?_⟩) hHeld ?_
    rotate_left
    · intro w' hSw; (try dsimp only at hSw); go_simp
      all_goals (with_reducible rfl)
    simp only [Act.put, List.getElem_toArray, List.getElem_cons_zero, List.getElem_cons_succ, List.setIfInBounds_toArray, List.set_cons_zero, List.set_cons_succ]
    refine wpAnyH_take (i := 6) (v := undef) rfl (by kernel_rfl) (by kernel_rfl) (by kernel_rfl) (fun _ _ _ h => h) (Or.inr ⟨by kernel_rfl, rfl⟩) hHeld ?_
    simp only [Act.put, List.getElem_toArray, List.getElem_cons_zero, List.getElem_cons_succ, List.setIfInBounds_toArray, List.set_cons_zero, List.set_cons_succ]
    refine wpAnyH_take (i := 7) (v := undef) rfl (by kernel_rfl) (by kernel_rfl) (by kernel_rfl) (fun _ _ _ h => h) (Or.inr ⟨by kernel_rfl, rfl⟩) hHeld ?_
    simp only [Act.put, List.getElem_toArray, List.getElem_cons_zero, List.getElem_cons_succ, List.setIfInBounds_toArray, List.set_cons_zero, List.set_cons_succ]
    refine wpAnyH_take (i := 8) (v := undef) rfl (by kernel_rfl) (by kernel_rfl) (by kernel_rfl) (fun _ _ _ h => h) (Or.inr ⟨by kernel_rfl, rfl⟩) hHeld ?_
    simp only [Act.put, List.getElem_toArray, List.getElem_cons_zero, List.getElem_cons_succ, List.setIfInBounds_toArray, List.set_cons_zero, List.set_cons_succ]
    refine wpAnyH_take (i := 9) (v := undef) rfl (by kernel_rfl) (by kernel_rfl) (by kernel_rfl) (fun _ _ _ h => h) (Or.inr ⟨by kernel_rfl, rfl⟩) hHeld ?_
    simp only [Act.put, List.getElem_toArray, List.getElem_cons_zero, List.getElem_cons_succ, List.setIfInBounds_toArray, List.set_cons_zero, List.set_cons_succ]
    refine wpAnyH_take (i := 10) (v := undef) rfl (by kernel_rfl) (by kernel_rfl) (by kernel_rfl) (fun _ _ _ h => h) (Or.inr ⟨by kernel_rfl, rfl⟩) hHeld ?_
    simp only [Act.put, List.getElem_toArray, List.getElem_cons_zero, List.getElem_cons_succ, List.setIfInBounds_toArray, List.set_cons_zero, List.set_cons_succ]
    refine wpAnyH_take (i := 11) (v := undef) rfl (by kernel_rfl) (by kernel_rfl) (by kernel_rfl) (fun _ _ _ h => h) (Or.inr ⟨by kernel_rfl, rfl⟩) hHeld ?_
    simp only [Act.put, List.getElem_toArray, List.getElem_cons_zero, List.getElem_cons_succ, List.setIfInBounds_toArray, List.set_cons_zero, List.set_cons_succ]
    refine wpAnyH_take (i := 12) (v := undef) rfl (by kernel_rfl) (by kernel_rfl) (by kernel_rfl) (fun _ _ _ h => h) (Or.inr ⟨by kernel_rfl, rfl⟩) hHeld ?_
    simp only [Act.put, List.getElem_toArray, List.getElem_cons_zero, List.getElem_cons_succ, List.setIfInBounds_toArray, List.set_cons_zero, List.set_cons_succ]
    refine wpAnyH_take (i := 13) (v := undef) rfl (by kernel_rfl) (by kernel_rfl) (by kernel_rfl) (fun _ _ _ h => h) (Or.inr ⟨by kernel_rfl, rfl⟩) hHeld ?_
    simp only [Act.put, List.getElem_toArray, List.getElem_cons_zero, List.getElem_cons_succ, List.setIfInBounds_toArray, List.set_cons_zero, List.set_cons_succ]
    refine wpAnyH_take (i := 14) (v := undef) rfl (by kernel_rfl) (by kernel_rfl) (by kernel_rfl) (fun _ _ _ h => h) (Or.inr ⟨by kernel_rfl, rfl⟩) hHeld ?_
    simp only [Act.put, List.getElem_toArray, List.getElem_cons_zero, List.getElem_cons_succ, List.setIfInBounds_toArray, List.set_cons_zero, List.set_cons_succ]
    refine wpAnyH_take (i := 15) (v := undef) rfl (by kernel_rfl) (by kernel_rfl) (by kernel_rfl) (fun _ _ _ h => h) (Or.inr ⟨by kernel_rfl, rfl⟩) hHeld ?_
    simp only [Act.put, List.getElem_toArray, List.getElem_cons_zero, List.getElem_cons_succ, List.setIfInBounds_toArray, List.set_cons_zero, List.set_cons_succ]
    refine wpAnyH_take (i := 16) (v := ?_) rfl (by kernel_rfl) (by kernel_rfl) (by kernel_rfl) (fun _ _ _ h => h) (Or.inl ⟨by kernel_rfl, ?_⟩) hHeld ?_
    rotate_left
    · intro w' hSw; (try dsimp only at hSw); go_simp
      all_goals (with_reducible rfl)
    simp only [Act.put, List.getElem_toArray, List.getElem_cons_zero, List.getElem_cons_succ, List.setIfInBounds_toArray, List.set_cons_zero, List.set_cons_succ]
    refine wpAnyH_done (by kernel_rfl) ?_ _
    go_wp2_with fail
    go_ret2
    have hs2 : Step [] g g w1 w2 := .grown ((grown_drew w1 none).trans hg2) (fun _ h => by cases h)
    refine ⟨g, D, .full (fun hc => ?_), ⟨_, _, _, _, _, _, _, _, _, _, _, _, h1H.out.step hs2 (by simp)⟩, hs1H.out.tail (hs2.mono (fun _ h => by cases h))⟩
    have := h1H.out.clean hc
    rw [this] at hf; cases hf
  · have hfd : decide ((wrap64 (since + 1), (3 : Int)) ∈ fl) = false := decide_eq_false hf
    go_wp2_with fail
    refine wp_region_held_drew (S := fun w' => w'.cell? ⟨r, 8, none⟩ = some (.func (.func 48) #[.agg #[.pointer (some ⟨r, 0, none⟩), lv]] #[]) ∧ w'.cell? ⟨r, 2, none⟩ = some (.map (some bm)) ∧ w'.cell? ⟨r, 1, none⟩ = some (.int .i64 D.most) ∧ w'.heap[bm]? = some (.map es clock)) (by kernel_rfl) ⟨c8, c2, c1, hmap⟩ (fun hHeld => ?_)
    refine wpAnyH_take (i := 0) (v := ?_) rfl (by kernel_rfl) (by kernel_rfl) (by kernel_rfl) (fun _ _ _ h => h) (Or.inl ⟨by kernel_rfl, ?_⟩) hHeld ?_
    rotate_left
    · intro w' hSw; (try dsimp only at hSw); go_simp
      all_goals (with_reducible rfl)
    simp only [Act.put, List.getElem_toArray, List.getElem_cons_zero, List.getElem_cons_succ, List.setIfInBounds_toArray, List.set_cons_zero, List.set_cons_succ]
    refine wpAnyH_take (i := 1) (v := ?_) rfl (by kernel_rfl) (by kernel_rfl) (by kernel_rfl) (fun _ _ _ h => h) (Or.inl ⟨by kernel_rfl, ?_⟩) hHeld ?_
    rotate_left
    · intro w' hSw; (try dsimp only at hSw); go_simp
      all_goals (with_reducible rfl)
    simp only [Act.put, List.getElem_toArray, List.getElem_cons_zero, List.getElem_cons_succ, List.setIfInBounds_toArray, List.set_cons_zero, List.set_cons_succ]
    refine wpAnyH_take (i := 2) (v := ?_) rfl (by kernel_rfl) (by kernel_rfl) (by kernel_rfl) (fun _ _ _ h => h) (Or.inl ⟨by kernel_rfl, ?_⟩) hHeld ?_
    rotate_left
    · intro w' hSw; (try dsimp only at hSw); go_simp
      all_goals (with_reducible rfl)
    simp only [Act.put, List.getElem_toArray, List.getElem_cons_zero, List.getElem_cons_succ, List.setIfInBounds_toArray, List.set_cons_zero, List.set_cons_succ]
    refine wpAnyH_take (i := 3) (v := ?_) rfl (by kernel_rfl) (by kernel_rfl) (by kernel_rfl) (fun _ _ _ h => h) (Or.inl ⟨by kernel_rfl, ?_⟩) hHeld ?_
    rotate_left
    · intro w' hSw; (try dsimp only at hSw); go_simp
      all_goals (with_reducible rfl)
    simp only [Act.put, List.getElem_toArray, List.getElem_cons_zero, List.getElem_cons_succ, List.setIfInBounds_toArray, List.set_cons_zero, List.set_cons_succ]
    refine wpAnyH_ready (rs := [4]) (by kernel_rfl) (by simp) ?_
    refine AllReadyH.cons (o := _) rfl (fun K hK => ?_) AllReadyH.nil
    go_simp
    refine ((h1H.out.step (T := []) (g1 := g) (w1 := w1.drew) Step.drew (by simp)).nowD 3).mono ?_
    rintro e w2 ⟨rfl, hg2⟩
    rw [hfd]
    go_wp2_with fail
    refine hK.out _ _ ?_ (fun hHeld => ?_)
    · exact ⟨(World.cell?_of_block (hg2.block r hr1 (by simp))).trans c8, (World.cell?_of_block (hg2.block r hr1 (by simp))).trans c2, (World.cell?_of_block (hg2.block r hr1 (by simp))).trans c1, (hg2.block bm hr2 (by simp)).trans hmap⟩
    clear hK K
    refine wpAnyH_take (i := 5) (v := ?_) rfl (by kernel_rfl) (by kernel_rfl) (by kernel_rfl) (fun _ _ _ h => h) (Or.inl ⟨by kernel_rfl, ?_⟩) hHeld ?_
    rotate_left
    · intro w' hSw; (try dsimp only at hSw); go_simp
      all_goals (with_reducible rfl)
    simp only [Act.put, List.getElem_toArray, List.getElem_cons_zero, List.getElem_cons_succ, List.setIfInBounds_toArray, List.set_cons_zero, List.set_cons_succ]
    refine wpAnyH_take (i := 6) (v := ?_) rfl (by kernel_rfl) (by kernel_rfl) (by kernel_rfl) (fun _ _ _ h => h) (Or.inl ⟨by kernel_rfl, ?_⟩) hHeld ?_
    rotate_left
    · intro w' hSw; (try dsimp only at hSw); go_simp
      all_goals (with_reducible rfl)
    simp only [Act.put, List.getElem_toArray, List.getElem_cons_zero, List.getElem_cons_succ, List.setIfInBounds_toArray, List.set_cons_zero, List.set_cons_succ]
    refine wpAnyH_take (i := 7) (v := ?_) rfl (by kernel_rfl) (by kernel_rfl) (by kernel_rfl) (fun _ _ _ h => h) (Or.inl ⟨by kernel_rfl, ?_⟩) hHeld ?_
    rotate_left
    · intro w' hSw; (try dsimp only at hSw); go_simp
      all_goals (with_reducible rfl)
    simp only [Act.put, List.getElem_toArray, List.getElem_cons_zero, List.getElem_cons_succ, List.setIfInBounds_toArray, List.set_cons_zero, List.set_cons_succ]
    refine wpAnyH_take (i := 8) (v := ?_) rfl (by kernel_rfl) (by kernel_rfl) (by kernel_rfl) (fun _ _ _ h => h) (Or.inl ⟨by kernel_rfl, ?_⟩) hHeld ?_
    rotate_left
    · intro w' hSw; (try dsimp only at hSw); go_simp
      all_goals (with_reducible rfl)
    simp only [Act.put, List.getElem_toArray, List.getElem_cons_zero, List.getElem_cons_succ, List.setIfInBounds_toArray, List.set_cons_zero, List.set_cons_succ]
    refine wpAnyH_take (i := 9) (v := ?_) rfl (by kernel_rfl) (by kernel_rfl) (by kernel_rfl) (fun _ _ _ h => h) (Or.inl ⟨by kernel_rfl, ?_⟩) hHeld ?_
    rotate_left
    · intro w' hSw; (try dsimp only at hSw); go_simp
      all_goals (with_reducible rfl)
    simp only [Act.put, List.getElem_toArray, List.getElem_cons_zero, List.getElem_cons_succ, List.setIfInBounds_toArray, List.set_cons_zero, List.set_cons_succ]
    refine wpAnyH_take (i := 10) (v := ?_) rfl (by kernel_rfl) (by kernel_rfl) (by kernel_rfl) (fun _ _ _ h => h) (Or.inl ⟨by kernel_rfl, ?_⟩) hHeld ?_
    rotate_left
    · intro w' hSw; (try dsimp only at hSw); go_simp; rw [run_len_map Try.underlying65 hSw.2.2.2 _ _ rfl]; rfl
    simp only [Act.put, List.getElem_toArray, List.getElem_cons_zero, List.getElem_cons_succ, List.setIfInBounds_toArray, List.set_cons_zero, List.set_cons_succ]
    refine wpAnyH_take (i := 11) (v := ?_) rfl (by kernel_rfl) (by kernel_rfl) (by kernel_rfl) (fun _ _ _ h => h) (Or.inl ⟨by kernel_rfl, ?_⟩) hHeld ?_
    rotate_left
    · intro w' hSw; (try dsimp only at hSw); go_simp
      all_goals (with_reducible rfl)
    simp only [Act.put, List.getElem_toArray, List.getElem_cons_zero, List.getElem_cons_succ, List.setIfInBounds_toArray, List.set_cons_zero, List.set_cons_succ]
    refine wpAnyH_take (i := 12) (v := ?_) rfl (by kernel_rfl) (by kernel_rfl) (by kernel_rfl) (fun _ _ _ h => h) (Or.inl ⟨by kernel_rfl, ?_⟩) hHeld ?_
    rotate_left
    · intro w' hSw; (try dsimp only at hSw); go_simp
      all_goals (with_reducible rfl)
    simp only [Act.put, List.getElem_toArray, List.getElem_cons_zero, List.getElem_cons_succ, List.setIfInBounds_toArray, List.set_cons_zero, List.set_cons_succ]
    refine wpAnyH_take (i := 13) (v := ?_) rfl (by kernel_rfl) (by kernel_rfl) (by kernel_rfl) (fun _ _ _ h => h) (Or.inl ⟨by kernel_rfl, ?_⟩) hHeld ?_
    rotate_left
    · intro w' hSw; (try dsimp only at hSw); go_simp
      all_goals (with_reducible rfl)
    simp only [Act.put, List.getElem_toArray, List.getElem_cons_zero, List.getElem_cons_succ, List.setIfInBounds_toArray, List.set_cons_zero, List.set_cons_succ]
    refine wpAnyH_take (i := 14) (v := ?_) rfl (by kernel_rfl) (by kernel_rfl) (by kernel_rfl) (fun _ _ _ h => h) (Or.inl ⟨by kernel_rfl, ?_⟩) hHeld ?_
    rotate_left
    · intro w' hSw; (try dsimp only at hSw); go_simp
      all_goals (with_reducible rfl)
    simp only [Act.put, List.getElem_toArray, List.getElem_cons_zero, List.getElem_cons_succ, List.setIfInBounds_toArray, List.set_cons_zero, List.set_cons_succ]
    refine wpAnyH_take (i := 15) (v := ?_) rfl (by kernel_rfl) (by kernel_rfl) (by kernel_rfl) (fun _ _ _ h => h) (Or.inl ⟨by kernel_rfl, ?_⟩) hHeld ?_
    rotate_left
    · intro w' hSw; (try dsimp only at hSw); go_simp
      all_goals (with_reducible rfl)
    simp only [Act.put, List.getElem_toArray, List.getElem_cons_zero, List.getElem_cons_succ, List.setIfInBounds_toArray, List.set_cons_zero, List.set_cons_succ]
    refine wpAnyH_take (i := 16) (v := ?_) rfl (by kernel_rfl) (by kernel_rfl) (by kernel_rfl) (fun _ _ _ h => h) (Or.inl ⟨by kernel_rfl, ?_⟩) hHeld ?_
    rotate_left
    · intro w' hSw; (try dsimp only at hSw); go_simp
      all_goals (with_reducible rfl)
    simp only [Act.put, List.getElem_toArray, List.getElem_cons_zero, List.getElem_cons_succ, List.setIfInBounds_toArray, List.set_cons_zero, List.set_cons_succ]
    refine wpAnyH_done (by kernel_rfl) ?_ _
    by_cases hfull : D.most ≤ D.pages.length
    · have hle : (D.most : Int) ≤ (es.size : Int) := by rw [hlenH.out]; omega
      go_wp2_with fail
      go_ret2
      have hs2 : Step [] g g w1 w2 := .grown ((grown_drew w1 none).trans hg2) (fun _ h => by cases h)
      exact ⟨g, D, .full (fun _ => hfull), ⟨_, _, _, _, _, _, _, _, _, _, _, _, h1H.out.step hs2 (by simp)⟩, hs1H.out.tail (hs2.mono (fun _ h => by cases h))⟩
    · have hle : ¬ (D.most : Int) ≤ (es.size : Int) := by rw [hlenH.out]; omega
      have hs2 : Step [] g g w1 w2 := .grown ((grown_drew w1 none).trans hg2) (fun _ h => by cases h)
      have h2 := h1H.out.step hs2 (by simp)
      have hs2H := Lib.hid (hs1H.out.tail (hs2.mono (fun _ h => by cases h)))
      have c4 : w2.cell? ⟨r, 4, none⟩ = some (.int .i64 high) := h2.cell rfl
      have c3 : w2.cell? ⟨r, 3, none⟩ = some (.pointer (some ⟨bf, 0, none⟩)) := h2.cell rfl
      have cf : w2.cell? ⟨bf, 0, none⟩ = some sv := cell_blk h2.nums.blk rfl
      have hcount := h2.count
      have hhigh := h2.high
      have hfr2 := free_blk h2.blk
      obtain ⟨ad, fcap, rfl⟩ := h2.nums.row.len
      have h2H := Lib.hid h2
      have hlt2 : r < w2.heap.size := lt_of_block h2.blk
      have hfl : free.length ≤ 100000 := by simp at hcount; omega
      have hents : ents.length = D.pages.length := by rw [h2.pg]; simp [keysPages]
      have hhigh0 : 0 ≤ high := by omega
      have hcount' : (ents.length : Int) + (free.length : Int) = high := by simpa using hcount
      clear h2 hs2 c1 c2 c8 hmap hcount hg2 hHeld
      by_cases hfree : 0 < free.length
      · go_wp2_with fail
        refine (nums_len' free.length ad fcap w2).mono ?_
        rintro e w' ⟨rfl, rfl⟩
        go_wp2_with fail
        refine (heap_pop2 bf (.slice ad free.length fcap) free w2 h2H.out.nums.in hfl hfree).mono ?_
        rintro e w4 ⟨x, sv0, free0, rfl, hp4, hn4, hk4, ho4⟩
        have hta : ∀ w : World, (Instr.typeAssert (.iface 3 (.int .i64 x)) 20 3 false).run Try.prog w = .ok (.int .i64 x) w := fun _ => by kernel_rfl
        have hx : x ∈ free := hp4.mem_iff.1 (by simp)
        have hn00 : 0 ≤ x := (h2H.out.range x (List.mem_append_right _ hx)).1
        have hn0h : x < high := (h2H.out.range x (List.mem_append_right _ hx)).2
        have hfreshH := Lib.hid (show ∀ t ∈ D.pages, t.1 ≠ x from fun t ht e => by
          rw [h2H.out.pg] at ht
          obtain ⟨t', h1, h2⟩ := mem_keysPages ht
          exact (List.nodup_append.1 h2H.out.nodup).2.2 t'.1 (List.mem_map_of_mem h1) x hx (by rw [h2, e]))
        have hstep4 : Step [r] g g w2 w4 := hk4.step (fun k hk => by
          rcases hk with rfl | hk
          · rw [h2H.out.nums.own]; exact List.mem_singleton.2 rfl
          · rw [h2H.out.nums.own2 k hk]; exact List.mem_singleton.2 rfl)
        have hs4 : Step [r] g (giveTo g sv0 r) w w4 := (hs2H.out.tail hstep4).giveTo (fun k hk => by
          refine ⟨?_, (World.ownsRow.lt hn4.row k hk).2⟩
          rcases ho4 k hk with hk' | hk'
          · right; rw [h2H.out.nums.own2 k hk']; exact List.mem_singleton.2 rfl
          · left; exact Nat.le_trans hs2H.out.size hk') (Nat.lt_of_lt_of_le hrlt (hs2H.out.tail hstep4).size)
        have m4 := (h2H.out.toDiskMem.nums h2H.out.nums.in hk4).giveTo sv0
        have nm4 : NumsAt (giveTo g sv0 r) w4 r bf sv0 free0 := ⟨hn4.blk, hn4.row, giveTo_keep h2H.out.nums.own, fun k hk => giveTo_same hk, hn4.ne⟩
        have hpc : (keysOf ents ++ [x] ++ free0).Perm (keysOf ents ++ free) := by
          rw [List.append_assoc]
          exact List.Perm.append_left _ ((List.perm_append_comm).trans hp4)
        have hnd0H := Lib.hid (hpc.symm.nodup h2H.out.nodup)
        have hrg0H := Lib.hid (show ∀ m ∈ keysOf ents ++ [x] ++ free0, 0 ≤ m ∧ m < high from fun m hm => h2H.out.range m (hpc.mem_iff.1 hm))
        have hct0H := Lib.hid (show ((ents.length + 1 + free0.length : Nat) : Int) = high by have := hp4.length_eq; simp at this; omega)
        have hs4H := Lib.hid hs4
        have m4H := Lib.hid m4
        have nm4H := Lib.hid nm4
        clear hp4 hn4 hk4 ho4 hx hstep4 hs4 m4 nm4 hpc c3 c4 cf hfr2
        go_wp2_with fail
        obtain ⟨W0, hW0⟩ : ∃ W0, W0 = w4 := ⟨_, rfl⟩
        obtain ⟨n0, hn0e⟩ : ∃ n0, n0 = x := ⟨_, rfl⟩
        obtain ⟨g0, hg0e⟩ : ∃ g0, g0 = giveTo g sv0 r := ⟨_, rfl⟩
        obtain ⟨high0, hh0e⟩ : ∃ high0, high0 = high := ⟨_, rfl⟩
        have m0 := m4H.out
        have nm0 := nm4H.out
        have hs0 := hs4H.out
        have hfresh := hfreshH.out
        have hnd0 := hnd0H.out
        have hrg0 := hrg0H.out
        have hct0 := hct0H.out
        have hn01 : x < (D.most : Int) := by omega
        have hhi0 := hhigh
        have hgw0 := hs0.wf hwH.out
        rw [← hn0e] at hn00 hn01 hfresh hnd0 hrg0
        rw [← hW0, ← hg0e] at m0 nm0 hs0 hgw0
        rw [← hh0e] at hrg0 hct0 hhi0 m0
        rw [← hn0e]
        clear hn0e hg0e hh0e hta hs4H m4H nm4H
        rw [← hW0]
        clear hW0
        have hne0 := Lib.hid (show g0 W0.heap.size ≠ r by rw [hgw0.2 _ (Nat.le_refl _)]; have := lt_of_block m0.blk; omega)
        have k2 : W0.cell? ⟨r, 2, none⟩ = some (.map (some bm)) := m0.cell rfl
        have k0 : W0.cell? ⟨r, 0, none⟩ = some (.int .i64 D.page) := m0.cell rfl
        have hval := m0.valid
        have hpg := hval.hi
        have hmk := run_make_bytes D.page (by omega)
        have m1 := (m0.step (T := []) (g1 := g0) (w1 := W0.alloc (.cells (byteVals (List.replicate D.page 0)).toArray 5)) (Step.alloc _) (by simp)).step (T := []) (g1 := g0) (w1 := (W0.alloc (.cells (byteVals (List.replicate D.page 0)).toArray 5)).drew) Step.drew (by simp)
        have hblk : Blk (W0.alloc (.cells (byteVals (List.replicate D.page 0)).toArray 5)).drew W0.heap.size (List.replicate D.page 0) := heap_alloc_new W0 _
        have hrow := hblk.row (by simp [maxLen]; omega)
        rw [List.length_replicate] at hrow
        obtain ⟨W, es', clock', hup, hgW, hszW, m2⟩ := m1.insert (n := n0) (z := List.replicate D.page 0) hfresh hrow (by simp) (k := W0.heap.size) rfl hne0.out
        have k2a : (W0.alloc (.cells (byteVals (List.replicate D.page 0)).toArray 5)).drew.cell? ⟨r, 2, none⟩ = some (.map (some bm)) := m1.cell rfl
        have k0a : (W0.alloc (.cells (byteVals (List.replicate D.page 0)).toArray 5)).drew.cell? ⟨r, 0, none⟩ = some (.int .i64 D.page) := m1.cell rfl
        have k2b : W.cell? ⟨r, 2, none⟩ = some (.map (some bm)) := m2.cell rfl
        have k0b : W.cell? ⟨r, 0, none⟩ = some (.int .i64 D.page) := m2.cell rfl
        have m0H := Lib.hid m0
        have m1H := Lib.hid m1
        have m2H := Lib.hid m2
        have hrowH := Lib.hid hrow
        have hgWH := Lib.hid hgW
        have hszWH := Lib.hid hszW
        have hgw0H := Lib.hid hgw0
        clear m0 m1 m2 hrow hgW hszW hgw0 hblk
        refine wp_region_held_drew (S := fun w' => w'.cell? ⟨r, 2, none⟩ = some (.map (some bm)) ∧ w'.cell? ⟨r, 0, none⟩ = some (.int .i64 D.page)) (by kernel_rfl) ⟨k2, k0⟩ (fun hHeld => ?_)
        refine wpAnyH_take (i := 0) (v := ?_) rfl (by kernel_rfl) (by kernel_rfl) (by kernel_rfl) (fun _ _ _ h => h) (Or.inl ⟨by kernel_rfl, ?_⟩) hHeld ?_
        rotate_left
        · intro w' hSw; (try dsimp only at hSw); go_simp
          all_goals (with_reducible rfl)
        simp only [Act.put, List.getElem_toArray, List.getElem_cons_zero, List.getElem_cons_succ, List.setIfInBounds_toArray, List.set_cons_zero, List.set_cons_succ]
        refine wpAnyH_take (i := 1) (v := ?_) rfl (by kernel_rfl) (by kernel_rfl) (by kernel_rfl) (fun _ _ _ h => h) (Or.inl ⟨by kernel_rfl, ?_⟩) hHeld ?_
        rotate_left
        · intro w' hSw; (try dsimp only at hSw); go_simp
          all_goals (with_reducible rfl)
        simp only [Act.put, List.getElem_toArray, List.getElem_cons_zero, List.getElem_cons_succ, List.setIfInBounds_toArray, List.set_cons_zero, List.set_cons_succ]
        refine wpAnyH_take (i := 2) (v := ?_) rfl (by kernel_rfl) (by kernel_rfl) (by kernel_rfl) (fun _ _ _ h => h) (Or.inl ⟨by kernel_rfl, ?_⟩) hHeld ?_
        rotate_left
        · intro w' hSw; (try dsimp only at hSw); go_simp
          all_goals (with_reducible rfl)
        simp only [Act.put, List.getElem_toArray, List.getElem_cons_zero, List.getElem_cons_succ, List.setIfInBounds_toArray, List.set_cons_zero, List.set_cons_succ]
        refine wpAnyH_take (i := 3) (v := ?_) rfl (by kernel_rfl) (by kernel_rfl) (by kernel_rfl) (fun _ _ _ h => h) (Or.inl ⟨by kernel_rfl, ?_⟩) hHeld ?_
        rotate_left
        · intro w' hSw; (try dsimp only at hSw); go_simp
          all_goals (with_reducible rfl)
        simp only [Act.put, List.getElem_toArray, List.getElem_cons_zero, List.getElem_cons_succ, List.setIfInBounds_toArray, List.set_cons_zero, List.set_cons_succ]
        refine wpAnyH_take (i := 4) (v := ?_) rfl (by kernel_rfl) (by kernel_rfl) (by kernel_rfl) (fun _ _ _ h => h) (Or.inl ⟨by kernel_rfl, ?_⟩) hHeld ?_
        rotate_left
        · intro w' hSw; (try dsimp only at hSw); go_simp
          all_goals (with_reducible rfl)
        simp only [Act.put, List.getElem_toArray, List.getElem_cons_zero, List.getElem_cons_succ, List.setIfInBounds_toArray, List.set_cons_zero, List.set_cons_succ]
        refine wpAnyH_take (i := 5) (v := ?_) rfl (by kernel_rfl) (by kernel_rfl) (by kernel_rfl) (fun _ _ _ h => h) (Or.inl ⟨by kernel_rfl, ?_⟩) hHeld ?_
        rotate_left
        · intro w' hSw; (try dsimp only at hSw); go_simp
          all_goals (with_reducible rfl)
        simp only [Act.put, List.getElem_toArray, List.getElem_cons_zero, List.getElem_cons_succ, List.setIfInBounds_toArray, List.set_cons_zero, List.set_cons_succ]
        refine wpAnyH_take (i := 6) (v := ?_) rfl (by kernel_rfl) (by kernel_rfl) (by kernel_rfl) (fun _ _ _ h => h) (Or.inl ⟨by kernel_rfl, ?_⟩) hHeld ?_
        rotate_left
        · intro w' hSw; (try dsimp only at hSw); go_simp
          all_goals (with_reducible rfl)
        simp only [Act.put, List.getElem_toArray, List.getElem_cons_zero, List.getElem_cons_succ, List.setIfInBounds_toArray, List.set_cons_zero, List.set_cons_succ]
        refine wpAnyH_take (i := 7) (v := ?_) rfl (by kernel_rfl) (by kernel_rfl) (by kernel_rfl) (fun _ _ _ h => h) (Or.inl ⟨by kernel_rfl, ?_⟩) hHeld ?_
        rotate_left
        · intro w' hSw; (try dsimp only at hSw); go_simp
          all_goals (with_reducible rfl)
        simp only [Act.put, List.getElem_toArray, List.getElem_cons_zero, List.getElem_cons_succ, List.setIfInBounds_toArray, List.set_cons_zero, List.set_cons_succ]
        refine wpAnyH_take (i := 8) (v := ?_) rfl (by kernel_rfl) (by kernel_rfl) (by kernel_rfl) (fun _ _ _ h => h) (Or.inl ⟨by kernel_rfl, ?_⟩) hHeld ?_
        rotate_left
        · intro w' hSw; (try dsimp only at hSw); go_simp
          all_goals (with_reducible rfl)
        simp only [Act.put, List.getElem_toArray, List.getElem_cons_zero, List.getElem_cons_succ, List.setIfInBounds_toArray, List.set_cons_zero, List.set_cons_succ]
        refine wpAnyH_ready (rs := [9]) (by kernel_rfl) (by simp) ?_
        refine AllReadyH.cons (o := _) rfl (fun K hK => ?_) AllReadyH.nil
        go_simp
        refine hK.out _ _ ?_ (fun hHeld => ?_)
        · exact ⟨k2a, k0a⟩
        clear hK K
        try simp only [Act.put, List.getElem_toArray, List.getElem_cons_zero, List.getElem_cons_succ, List.setIfInBounds_toArray, List.set_cons_zero, List.set_cons_succ]
        refine wpAnyH_ready (rs := [10]) (by kernel_rfl) (by simp) ?_
        refine AllReadyH.cons (o := _) rfl (fun K hK => ?_) AllReadyH.nil
        go_simp
        refine hK.out _ _ ?_ (fun hHeld => ?_)
        · exact ⟨k2b, k0b⟩
        clear hK K
        try simp only [Act.put, List.getElem_toArray, List.getElem_cons_zero, List.getElem_cons_succ, List.setIfInBounds_toArray, List.set_cons_zero, List.set_cons_succ]
        refine wpAnyH_done (by kernel_rfl) ?_ _
        go_wp2_with fail
        go_ret2
        have hS1 : Step [r] g g0 w W := ((hs0.tail (Step.alloc _)).tail Step.drew).tail (.grown hgWH.out (fun i hi => by cases hi; rw [m0H.out.ownm]; exact List.mem_singleton.2 rfl))
        have hn3 := ((nm0.step (T := []) (g1 := g0) (Step.alloc (.cells (byteVals (List.replicate D.page 0)).toArray 5)) (by simp)).step (T := []) (g1 := g0) Step.drew (by simp)).kept hgWH.out m1H.out.map
        have hsz0 : w.heap.size ≤ W0.heap.size := hs0.size
        refine ⟨giveTo g0 (.slice (some ⟨W0.heap.size, 0, none⟩) D.page D.page) r, _, .ok n0 hn00 hn01 hfresh (by omega), ⟨_, _, sv0, _, _, _, _, free0, _, high0, _, _, { m2H.out with
          nums := ⟨hn3.blk, hn3.row, giveTo_keep hn3.own, fun k hk => giveTo_keep (hn3.own2 k hk), hn3.ne⟩
          nodup := by rw [keysOf_append]; exact hnd0
          range := by rw [keysOf_append]; exact hrg0
          count := by rw [List.length_append]; exact hct0
          high := hhi0 }⟩, hS1.giveTo (fun k hk => ?_) (Nat.lt_of_lt_of_le hrlt hS1.size)⟩
        obtain rfl : W0.heap.size = k := by simpa [Value.ownBlock] using hk
        exact ⟨.inl hsz0, by rw [hszWH.out]; simp⟩
      · go_wp2_with fail
        refine (nums_len' free.length ad fcap w2).mono ?_
        rintro e w' ⟨rfl, rfl⟩
        go_wp2_with fail
        have hf0 : free = [] := List.eq_nil_of_length_eq_zero (by omega)
        have hfreshH := Lib.hid (show ∀ t ∈ D.pages, t.1 ≠ high from fun t ht e => by
          rw [h2H.out.pg] at ht
          obtain ⟨t', h1, h2⟩ := mem_keysPages ht
          have := (h2H.out.range t'.1 (List.mem_append_left _ (List.mem_map_of_mem h1))).2
          rw [h2, e] at this; omega)
        have m4H := Lib.hid (h2H.out.toDiskMem.set (D' := D) (high' := high + 1) (ops' := wrap64 (ops + 1)) (since' := wrap64 (since + 1)) 4 (.int .i64 (high + 1)) rfl rfl rfl rfl rfl)
        have nm4H := Lib.hid (show NumsAt g (w2.setCell ⟨r, 4, none⟩ (.int .i64 (high + 1))) r bf (.slice ad free.length fcap) free from ⟨set_other h2H.out.nums.blk h2H.out.bf_ne, ownsRow_setOther h2H.out.nums.row h2H.out.blk (by decide), h2H.out.nums.own, h2H.out.nums.own2, h2H.out.nums.ne⟩)
        have hs4H := Lib.hid (hs2H.out.tail (h2H.out.stepSet 4 (.int .i64 (high + 1))))
        have hnd0H := Lib.hid (show (keysOf ents ++ [high] ++ free).Nodup by
          have h1 := h2H.out.nodup
          have h2 := h2H.out.range
          rw [hf0, List.append_nil] at h1 h2 ⊢
          rw [List.nodup_append]
          refine ⟨h1, by simp, fun a ha b hb e => ?_⟩
          rw [List.mem_singleton] at hb
          have := (h2 a ha).2
          omega)
        have hrg0H := Lib.hid (show ∀ m ∈ keysOf ents ++ [high] ++ free, 0 ≤ m ∧ m < high + 1 from fun m hm => by
          rw [List.mem_append, List.mem_append, List.mem_singleton] at hm
          rcases hm with (hm | hm) | hm
          · have := h2H.out.range m (List.mem_append_left _ hm); omega
          · omega
          · have := h2H.out.range m (List.mem_append_right _ hm); omega)
        have hct0H := Lib.hid (show ((ents.length + 1 + free.length : Nat) : Int) = high + 1 by omega)
        have hx1 : (high : Int) < D.most := by rw [hf0] at hcount'; simp at hcount'; omega
        obtain ⟨sv0, hsv0⟩ : ∃ sv0, sv0 = Value.slice ad free.length fcap := ⟨_, rfl⟩
        obtain ⟨free0, hfree0⟩ : ∃ free0, free0 = free := ⟨_, rfl⟩
        obtain ⟨W0, hW0⟩ : ∃ W0, W0 = w2.setCell ⟨r, 4, none⟩ (.int .i64 (high + 1)) := ⟨_, rfl⟩
        obtain ⟨n0, hn0e⟩ : ∃ n0, n0 = high := ⟨_, rfl⟩
        obtain ⟨g0, hg0e⟩ : ∃ g0, g0 = g := ⟨_, rfl⟩
        obtain ⟨high0, hh0e⟩ : ∃ high0, high0 = high + 1 := ⟨_, rfl⟩
        have m0 : DiskMem g0 W0 r D bm bf lv es clock ents fl high0 (wrap64 (ops + 1)) (wrap64 (since + 1)) := by rw [hg0e, hW0, hh0e]; exact m4H.out
        have nm0 : NumsAt g0 W0 r bf sv0 free0 := by rw [hg0e, hW0, hsv0, hfree0]; exact nm4H.out
        have hs0 : Step [r] g g0 w W0 := by rw [hg0e, hW0]; exact hs4H.out
        have hfresh : ∀ t ∈ D.pages, t.1 ≠ n0 := by rw [hn0e]; exact hfreshH.out
        have hnd0 : (keysOf ents ++ [n0] ++ free0).Nodup := by rw [hn0e, hfree0]; exact hnd0H.out
        have hrg0 : ∀ m ∈ keysOf ents ++ [n0] ++ free0, 0 ≤ m ∧ m < high0 := by rw [hn0e, hfree0, hh0e]; exact hrg0H.out
        have hct0 : ((ents.length + 1 + free0.length : Nat) : Int) = high0 := by rw [hfree0, hh0e]; exact hct0H.out
        have hn00 : 0 ≤ n0 := by omega
        have hn01 : n0 < (D.most : Int) := by omega
        have hhi0 : high0 ≤ (D.most : Int) := by omega
        have hgw0 := hs0.wf hwH.out
        rw [← hW0, ← hn0e]
        clear hn0e hg0e hh0e hsv0 hfree0 hs4H m4H nm4H c3 c4 cf hfr2
        clear hW0
        have hne0 := Lib.hid (show g0 W0.heap.size ≠ r by rw [hgw0.2 _ (Nat.le_refl _)]; have := lt_of_block m0.blk; omega)
        have k2 : W0.cell? ⟨r, 2, none⟩ = some (.map (some bm)) := m0.cell rfl
        have k0 : W0.cell? ⟨r, 0, none⟩ = some (.int .i64 D.page) := m0.cell rfl
        have hval := m0.valid
        have hpg := hval.hi
        have hmk := run_make_bytes D.page (by omega)
        have m1 := (m0.step (T := []) (g1 := g0) (w1 := W0.alloc (.cells (byteVals (List.replicate D.page 0)).toArray 5)) (Step.alloc _) (by simp)).step (T := []) (g1 := g0) (w1 := (W0.alloc (.cells (byteVals (List.replicate D.page 0)).toArray 5)).drew) Step.drew (by simp)
        have hblk : Blk (W0.alloc (.cells (byteVals (List.replicate D.page 0)).toArray 5)).drew W0.heap.size (List.replicate D.page 0) := heap_alloc_new W0 _
        have hrow := hblk.row (by simp [maxLen]; omega)
        rw [List.length_replicate] at hrow
        obtain ⟨W, es', clock', hup, hgW, hszW, m2⟩ := m1.insert (n := n0) (z := List.replicate D.page 0) hfresh hrow (by simp) (k := W0.heap.size) rfl hne0.out
        have k2a : (W0.alloc (.cells (byteVals (List.replicate D.page 0)).toArray 5)).drew.cell? ⟨r, 2, none⟩ = some (.map (some bm)) := m1.cell rfl
        have k0a : (W0.alloc (.cells (byteVals (List.replicate D.page 0)).toArray 5)).drew.cell? ⟨r, 0, none⟩ = some (.int .i64 D.page) := m1.cell rfl
        have k2b : W.cell? ⟨r, 2, none⟩ = some (.map (some bm)) := m2.cell rfl
        have k0b : W.cell? ⟨r, 0, none⟩ = some (.int .i64 D.page) := m2.cell rfl
        have m0H := Lib.hid m0
        have m1H := Lib.hid m1
        have m2H := Lib.hid m2
        have hrowH := Lib.hid hrow
        have hgWH := Lib.hid hgW
        have hszWH := Lib.hid hszW
        have hgw0H := Lib.hid hgw0
        clear m0 m1 m2 hrow hgW hszW hgw0 hblk
        refine wp_region_held_drew (S := fun w' => w'.cell? ⟨r, 2, none⟩ = some (.map (some bm)) ∧ w'.cell? ⟨r, 0, none⟩ = some (.int .i64 D.page)) (by kernel_rfl) ⟨k2, k0⟩ (fun hHeld => ?_)
        refine wpAnyH_take (i := 0) (v := ?_) rfl (by kernel_rfl) (by kernel_rfl) (by kernel_rfl) (fun _ _ _ h => h) (Or.inl ⟨by kernel_rfl, ?_⟩) hHeld ?_
        rotate_left
        · intro w' hSw; (try dsimp only at hSw); go_simp
          all_goals (with_reducible rfl)
        simp only [Act.put, List.getElem_toArray, List.getElem_cons_zero, List.getElem_cons_succ, List.setIfInBounds_toArray, List.set_cons_zero, List.set_cons_succ]
        refine wpAnyH_take (i := 1) (v := ?_) rfl (by kernel_rfl) (by kernel_rfl) (by kernel_rfl) (fun _ _ _ h => h) (Or.inl ⟨by kernel_rfl, ?_⟩) hHeld ?_
        rotate_left
        · intro w' hSw; (try dsimp only at hSw); go_simp
          all_goals (with_reducible rfl)
        simp only [Act.put, List.getElem_toArray, List.getElem_cons_zero, List.getElem_cons_succ, List.setIfInBounds_toArray, List.set_cons_zero, List.set_cons_succ]
        refine wpAnyH_take (i := 2) (v := ?_) rfl (by kernel_rfl) (by kernel_rfl) (by kernel_rfl) (fun _ _ _ h => h) (Or.inl ⟨by kernel_rfl, ?_⟩) hHeld ?_
        rotate_left
        · intro w' hSw; (try dsimp only at hSw); go_simp
          all_goals (with_reducible rfl)
        simp only [Act.put, List.getElem_toArray, List.getElem_cons_zero, List.getElem_cons_succ, List.setIfInBounds_toArray, List.set_cons_zero, List.set_cons_succ]
        refine wpAnyH_take (i := 3) (v := ?_) rfl (by kernel_rfl) (by kernel_rfl) (by kernel_rfl) (fun _ _ _ h => h) (Or.inl ⟨by kernel_rfl, ?_⟩) hHeld ?_
        rotate_left
        · intro w' hSw; (try dsimp only at hSw); go_simp
          all_goals (with_reducible rfl)
        simp only [Act.put, List.getElem_toArray, List.getElem_cons_zero, List.getElem_cons_succ, List.setIfInBounds_toArray, List.set_cons_zero, List.set_cons_succ]
        refine wpAnyH_take (i := 4) (v := ?_) rfl (by kernel_rfl) (by kernel_rfl) (by kernel_rfl) (fun _ _ _ h => h) (Or.inl ⟨by kernel_rfl, ?_⟩) hHeld ?_
        rotate_left
        · intro w' hSw; (try dsimp only at hSw); go_simp
          all_goals (with_reducible rfl)
        simp only [Act.put, List.getElem_toArray, List.getElem_cons_zero, List.getElem_cons_succ, List.setIfInBounds_toArray, List.set_cons_zero, List.set_cons_succ]
        refine wpAnyH_take (i := 5) (v := ?_) rfl (by kernel_rfl) (by kernel_rfl) (by kernel_rfl) (fun _ _ _ h => h) (Or.inl ⟨by kernel_rfl, ?_⟩) hHeld ?_
        rotate_left
        · intro w' hSw; (try dsimp only at hSw); go_simp
          all_goals (with_reducible rfl)
        simp only [Act.put, List.getElem_toArray, List.getElem_cons_zero, List.getElem_cons_succ, List.setIfInBounds_toArray, List.set_cons_zero, List.set_cons_succ]
        refine wpAnyH_take (i := 6) (v := ?_) rfl (by kernel_rfl) (by kernel_rfl) (by kernel_rfl) (fun _ _ _ h => h) (Or.inl ⟨by kernel_rfl, ?_⟩) hHeld ?_
        rotate_left
        · intro w' hSw; (try dsimp only at hSw); go_simp
          all_goals (with_reducible rfl)
        simp only [Act.put, List.getElem_toArray, List.getElem_cons_zero, List.getElem_cons_succ, List.setIfInBounds_toArray, List.set_cons_zero, List.set_cons_succ]
        refine wpAnyH_take (i := 7) (v := ?_) rfl (by kernel_rfl) (by kernel_rfl) (by kernel_rfl) (fun _ _ _ h => h) (Or.inl ⟨by kernel_rfl, ?_⟩) hHeld ?_
        rotate_left
        · intro w' hSw; (try dsimp only at hSw); go_simp
          all_goals (with_reducible rfl)
        simp only [Act.put, List.getElem_toArray, List.getElem_cons_zero, List.getElem_cons_succ, List.setIfInBounds_toArray, List.set_cons_zero, List.set_cons_succ]
        refine wpAnyH_take (i := 8) (v := ?_) rfl (by kernel_rfl) (by kernel_rfl) (by kernel_rfl) (fun _ _ _ h => h) (Or.inl ⟨by kernel_rfl, ?_⟩) hHeld ?_
        rotate_left
        · intro w' hSw; (try dsimp only at hSw); go_simp
          all_goals (with_reducible rfl)
        simp only [Act.put, List.getElem_toArray, List.getElem_cons_zero, List.getElem_cons_succ, List.setIfInBounds_toArray, List.set_cons_zero, List.set_cons_succ]
        refine wpAnyH_ready (rs := [9]) (by kernel_rfl) (by simp) ?_
        refine AllReadyH.cons (o := _) rfl (fun K hK => ?_) AllReadyH.nil
        go_simp
        refine hK.out _ _ ?_ (fun hHeld => ?_)
        · exact ⟨k2a, k0a⟩
        clear hK K
        try simp only [Act.put, List.getElem_toArray, List.getElem_cons_zero, List.getElem_cons_succ, List.setIfInBounds_toArray, List.set_cons_zero, List.set_cons_succ]
        refine wpAnyH_ready (rs := [10]) (by kernel_rfl) (by simp) ?_
        refine AllReadyH.cons (o := _) rfl (fun K hK => ?_) AllReadyH.nil
        go_simp
        refine hK.out _ _ ?_ (fun hHeld => ?_)
        · exact ⟨k2b, k0b⟩
        clear hK K
        try simp only [Act.put, List.getElem_toArray, List.getElem_cons_zero, List.getElem_cons_succ, List.setIfInBounds_toArray, List.set_cons_zero, List.set_cons_succ]
        refine wpAnyH_done (by kernel_rfl) ?_ _
        go_wp2_with fail
        go_ret2
        have hS1 : Step [r] g g0 w W := ((hs0.tail (Step.alloc _)).tail Step.drew).tail (.grown hgWH.out (fun i hi => by cases hi; rw [m0H.out.ownm]; exact List.mem_singleton.2 rfl))
        have hn3 := ((nm0.step (T := []) (g1 := g0) (Step.alloc (.cells (byteVals (List.replicate D.page 0)).toArray 5)) (by simp)).step (T := []) (g1 := g0) Step.drew (by simp)).kept hgWH.out m1H.out.map
        have hsz0 : w.heap.size ≤ W0.heap.size := hs0.size
        refine ⟨giveTo g0 (.slice (some ⟨W0.heap.size, 0, none⟩) D.page D.page) r, _, .ok n0 hn00 hn01 hfresh (by omega), ⟨_, _, sv0, _, _, _, _, free0, _, high0, _, _, { m2H.out with
          nums := ⟨hn3.blk, hn3.row, giveTo_keep hn3.own, fun k hk => giveTo_keep (hn3.own2 k hk), hn3.ne⟩
          nodup := by rw [keysOf_append]; exact hnd0
          range := by rw [keysOf_append]; exact hrg0
          count := by rw [List.length_append]; exact hct0
          high := hhi0 }⟩, hS1.giveTo (fun k hk => ?_) (Nat.lt_of_lt_of_le hrlt hS1.size)⟩
        obtain rfl : W0.heap.size = k := by simpa [Value.ownBlock] using hk
        exact ⟨.inl hsz0, by rw [hszWH.out]; simp⟩
end
end Go.Proofs.Ytlppoimdfclbaaa
