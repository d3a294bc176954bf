/- The disk: Plan and New. -/
import Derived.Test.YtlppoimdfclbaaaDisk5
import Derived.Laws.EntriesVeiled
set_option linter.unusedVariables false
set_option linter.unusedSimpArgs false
namespace Go.Proofs.Ytlppoimdfclbaaa
open Go.RowKit

section
variable {T : List Nat} {g g1 : Nat → Nat} {w w1 : World} {r : Nat} {D : Dk} {bm bf : Nat} {sv lv : Value} {es : Array MapEntry} {clock : Nat} {ents : List (Int × Value × List UInt8)} {free : List Int} {fl : List (Int × Int)} {high ops since : Int}

set_option maxRecDepth 100000 in
theorem disk_made' (c2 : w.cell? ⟨r, 2, none⟩ = some (.map (some bm))) :
    Calls Try.prog 46 #[.pointer (some ⟨r, 0, none⟩)] w fun e w' => e = .returned (.bool true) ∧ w = w' := by
  have hnm := fun w : World => run_neq_map_nil w 65 _ _ (some bm) Try.underlying65
  go_enter Try.func46, Try.ntmps46
  go_wp2
  go_ret
  exact ⟨rfl, rfl⟩

set_option maxRecDepth 100000 in
set_option maxHeartbeats 1000000 in
theorem plan_raw (v c8 : Value) (hb : w.heap[r]? = some (.cells ((diskCells D r bm bf lv high ops since).setIfInBounds 8 c8) 70 (0, 0))) (hv : FRow w v fl) (hfl : fl.length ≤ 1000000) (hvr : v.ownBlock ≠ some r) :
    Calls Try.prog 25 #[.pointer (some ⟨r, 0, none⟩), v] w fun e w' => e = .returned (.tuple #[]) ∧ ∃ lv', w'.heap[r]? = some (.cells (diskCells D r bm bf lv' high ops 0) 70 (0, 0)) ∧ FRow w' lv' fl ∧ (∀ k, lv'.ownBlock = some k → w.heap.size ≤ k) ∧ Keep w w' (fun k => k = r) := by
  have c2 : w.cell? ⟨r, 2, none⟩ = some (.map (some bm)) := cell_blk hb rfl
  have c7 : w.cell? ⟨r, 7, none⟩ = some (.int .i64 since) := cell_blk hb rfl
  have k8 : w.cell? ⟨r, 8, none⟩ = some c8 := cell_blk hb rfl
  have f0 := free_blk hb
  have hlt := lt_of_block hb
  have hbH := Lib.hid hb; clear hb
  have hvH := Lib.hid hv; clear hv
  have hvrH := Lib.hid hvr; clear hvr
  obtain ⟨ad, n, cap, rfl⟩ : ∃ ad n cap, v = .slice ad n cap := by
    rcases hvH.out.cases with ⟨rfl, _⟩ | ⟨g, cap, rfl, _⟩
    · exact ⟨_, _, _, rfl⟩
    · exact ⟨_, _, _, rfl⟩
  go_enter Try.func25, Try.ntmps25
  go_wp2_with fail
  refine (disk_made' c2).mono ?_
  rintro e w' ⟨rfl, rfl⟩
  go_wp2_with fail
  have hv1 : FRow (w.setCell ⟨r, 7, none⟩ (.int .i64 0)) (.slice ad n cap) fl := ownsRow_setCell_other hvH.out hvrH.out _
  refine (faults_clone fl _ _ hv1 hfl).mono ?_
  rintro e w2 ⟨lv', rfl, hv2, hg2, hk2⟩
  obtain ⟨ad', n', cap', rfl⟩ : ∃ ad n cap, lv' = .slice ad n cap := by
    rcases hv2.cases with ⟨rfl, _⟩ | ⟨g, cap, rfl, _⟩
    · exact ⟨_, _, _, rfl⟩
    · exact ⟨_, _, _, rfl⟩
  have hb1 := set_blk hbH.out 7 (.int .i64 0)
  have hb2 : w2.heap[r]? = some (.cells ((((diskCells D r bm bf lv high ops since).setIfInBounds 8 c8)).setIfInBounds 7 (.int .i64 0)) 70 (0, 0)) := by
    rw [hg2.block r (by simp; exact hlt) (by simp)]; exact hb1
  have k82 : w2.cell? ⟨r, 8, none⟩ = some c8 := cell_blk hb2 rfl
  have f2 := free_blk hb2
  have hb2H := Lib.hid hb2
  have hv2H := Lib.hid hv2
  have hg2H := Lib.hid hg2
  have hk2H := Lib.hid hk2
  have hlt2 := lt_of_block hb2
  clear hb1 hb2 hv2 hg2 hk2 hv1
  go_wp2_with fail
  go_end0
  refine ⟨rfl, .slice ad' n' cap', ?_, ?_, ?_, ?_⟩
  · exact set_blk hb2H.out 8 _
  · exact ownsRow_setOther hv2H.out hb2H.out (by decide)
  · intro k hk
    have := hk2H.out k hk
    simpa using this
  · refine ⟨by simp [World.setCell]; exact hg2H.out.os, by simp [World.setCell]; exact hg2H.out.tape, by simp [World.setCell]; exact hg2H.out.output, by have := hg2H.out.size; simpa using this, fun k hk hne => ?_⟩
    rw [Below.heap_setCell _ _ _ _ hne, hg2H.out.block k (by simpa using hk) (by simp), Below.heap_setCell _ _ _ _ hne]
theorem disk_plan (h : DiskAt g w r D) (v : Value) (hv : FRow w v fl) (hfl : fl.length ≤ 1000000) (hvr : Apart [r] g v) :
    Calls Try.prog 25 #[.pointer (some ⟨r, 0, none⟩), v] w fun e w' => e = .returned (.tuple #[]) ∧ ∃ g', DiskAt g' w' r { D with clean := decide (fl = []) } ∧ Step [r] g g' w w' := by
  obtain ⟨bm, bf, sv, lv, es, clock, ents, free, fl0, high, ops, since, h⟩ := h
  have hne : v.ownBlock ≠ some r := fun e => hvr r e (by rw [h.own]; exact List.mem_singleton.2 rfl)
  refine (plan_raw (D := D) (bm := bm) (bf := bf) (lv := lv) (high := high) (ops := ops) (since := since) v (.func (.func 48) #[.agg #[.pointer (some ⟨r, 0, none⟩), lv]] #[]) (by rw [h.blk]; rfl) hv hfl hne).mono ?_
  rintro e w' ⟨rfl, lv', hb', hv', hk', hkeep⟩
  have hs : Step [r] g g w w' := hkeep.step (fun k hk => by rw [hk, h.own]; exact List.mem_singleton.2 rfl)
  have hrow : ∀ {base : Nat} {e : TypeId} {size n : Nat} {v : Value} {xs : List Value}, e ≠ 70 → w.ownsRow base e size v n xs → w'.ownsRow base e size v n xs := by
    intro base e size n v xs h1 hx
    refine ⟨hx.1, ?_⟩
    rcases hx.2 with hx | ⟨gb, cap, cur, rfl, hb, hg, rest⟩
    · exact .inl hx
    · refine .inr ⟨gb, cap, cur, rfl, hb, ?_, rest⟩
      rw [hkeep.keep gb (lt_of_block hg) (fun e' => by
        rw [e', h.blk] at hg
        simp only [Option.some.injEq, Obj.cells.injEq] at hg
        exact h1 hg.2.1.symm)]
      exact hg
  refine ⟨rfl, giveTo g lv' r, ⟨bm, bf, sv, lv', es, clock, ents, free, fl, high, ops, 0, ?_⟩, hs.giveTo (fun k hk => ⟨.inl (hk' k hk), (World.ownsRow.lt hv' k hk).2⟩) (lt_of_block hb')⟩
  exact { blk := hb'
          own := giveTo_keep h.own
          map := by rw [hkeep.keep bm (lt_of_block h.map) h.bm_ne]; exact h.map
          ownm := giveTo_keep h.ownm
          es := h.es, pg := h.pg
          rows := fun t ht => by
            obtain ⟨k, h1, h2⟩ := (h.rows t ht).own
            exact ⟨hrow (by decide) (h.rows t ht).row, (h.rows t ht).len, k, h1, giveTo_keep h2⟩
          apart := h.apart
          flt := hv'
          ownf := fun k hk => giveTo_same hk
          fln := hfl
          clean := fun hc => by simpa using hc
          valid := h.valid, most := h.most
          nums := ⟨by rw [hkeep.keep bf h.nums.lt h.bf_ne]; exact h.nums.blk, hrow (by decide) h.nums.row, giveTo_keep h.nums.own, fun k hk => giveTo_keep (h.nums.own2 k hk), h.nums.ne⟩
          nodup := h.nodup, range := h.range, count := h.count, high := h.high }

set_option maxRecDepth 100000 in
set_option maxHeartbeats 1000000 in
theorem disk_new (page most : Nat) (hp : ValidPage page) (hm : most ≤ 16384) (hg : GWf g w) :
    Calls Try.prog 11 #[.int .i64 page, .int .i64 most] w fun e w' => ∃ g' r, e = .returned (.tuple #[.pointer (some ⟨r, 0, none⟩), .int .i64 0]) ∧ w.heap.size ≤ r ∧ DiskAt g' w' r ⟨page, most, [], true, 0⟩ ∧ Step [] g g' w w' := by
  have p0 := hp.lo
  have p1 := hp.hi
  have hbs : ∀ w : World, (Instr.buildSlice 67 0 #[]).run Try.prog w = .ok (.slice (some ⟨w.heap.size, 0, none⟩) 0 0) (w.alloc (.cells #[] 3)) := fun _ => by kernel_rfl
  have hmm := @run_makeMap Try.prog
  have hand : (bits .and .i64 (page : Int) ((page : Int) - 1) != 0) = false := by
    rcases hp with rfl | rfl | rfl | rfl | rfl | rfl | rfl <;> rfl
  go_enter Try.func11, Try.ntmps11
  go_wp2_with fail
  obtain ⟨W, hW⟩ : ∃ W, W = ((((w.alloc (.map #[] 0)).alloc (.cells #[] 3)).alloc (.cells #[.slice (some ⟨w.heap.size + 1, 0, none⟩) 0 0] 67)).alloc
      (.cells ((diskCells ⟨page, most, [], true, 0⟩ (w.heap.size + 1 + 1 + 1) w.heap.size (w.heap.size + 1 + 1) (.slice none 0 0) 0 0 0).setIfInBounds 8 .nilFunc) 70)) := ⟨_, rfl⟩
  have hb3 : W.heap[w.heap.size + 1 + 1 + 1]? = some (.cells ((diskCells ⟨page, most, [], true, 0⟩ (w.heap.size + 1 + 1 + 1) w.heap.size (w.heap.size + 1 + 1) (.slice none 0 0) 0 0 0).setIfInBounds 8 .nilFunc) 70 (0, 0)) := by
    rw [hW]; have := heap_alloc_new (((w.alloc (.map #[] 0)).alloc (.cells #[] 3)).alloc (.cells #[.slice (some ⟨w.heap.size + 1, 0, none⟩) 0 0] 67)) (.cells ((diskCells ⟨page, most, [], true, 0⟩ (w.heap.size + 1 + 1 + 1) w.heap.size (w.heap.size + 1 + 1) (.slice none 0 0) 0 0 0).setIfInBounds 8 .nilFunc) 70)
    simpa using this
  have hb0 : W.heap[w.heap.size]? = some (.map #[] 0) := by
    rw [hW]; exact alloc_old (alloc_old (alloc_old (heap_alloc_new w _)))
  have hb1 : W.heap[w.heap.size + 1]? = some (.cells #[] 3 (0, 0)) := by
    rw [hW]; have := heap_alloc_new (w.alloc (.map #[] 0)) (.cells #[] 3)
    exact alloc_old (alloc_old (by simpa using this))
  have hb2 : W.heap[w.heap.size + 1 + 1]? = some (.cells #[.slice (some ⟨w.heap.size + 1, 0, none⟩) 0 0] 67 (0, 0)) := by
    rw [hW]; have := heap_alloc_new ((w.alloc (.map #[] 0)).alloc (.cells #[] 3)) (.cells #[.slice (some ⟨w.heap.size + 1, 0, none⟩) 0 0] 67)
    exact alloc_old (by simpa using this)
  have hS0 : Step [] g g w W := by rw [hW]; exact (((Step.alloc _).tail (Step.alloc _)).tail (Step.alloc _)).tail (Step.alloc _)
  have hsz : W.heap.size = w.heap.size + 4 := by rw [hW]; simp
  refine Calls.mono (R := fun e w' => e = .returned (.tuple #[]) ∧ ∃ lv', w'.heap[w.heap.size + 1 + 1 + 1]? = some (.cells (diskCells ⟨page, most, [], true, 0⟩ (w.heap.size + 1 + 1 + 1) w.heap.size (w.heap.size + 1 + 1) lv' 0 0 0) 70 (0, 0)) ∧ FRow w' lv' [] ∧ (∀ k, lv'.ownBlock = some k → W.heap.size ≤ k) ∧ Keep W w' (fun k => k = w.heap.size + 1 + 1 + 1)) ?_ ?_
  · have h := plan_raw (fl := []) (.slice none 0 0) .nilFunc hb3 (World.ownsRow_nil _ _ _ _) (by simp) (by simp [Value.ownBlock])
    rw [hW] at h ⊢
    exact h
  rintro e w2 ⟨rfl, lv', hb', hv', hk', hkeep⟩
  have hkH := Lib.hid hk'
  have hbH := Lib.hid hb'
  have hvH := Lib.hid hv'
  have hkeepH := Lib.hid hkeep
  have h0H := Lib.hid hb0
  have h1H := Lib.hid hb1
  have h2H := Lib.hid hb2
  have hSH := Lib.hid hS0
  have hszH := Lib.hid hsz
  clear hk' hb' hv' hkeep hb0 hb1 hb2 hb3 hS0 hsz hW
  go_wp2_with fail
  go_ret2
  have hsz := hszH.out
  have hk2 : ∀ k o, W.heap[k]? = some o → k ≠ w.heap.size + 1 + 1 + 1 → w2.heap[k]? = some o := fun k o ho hne => by
    rw [hkeepH.out.keep k (lt_of_block ho) hne]; exact ho
  have hsz2 : w.heap.size + 4 ≤ w2.heap.size := by rw [← hsz]; exact hkeepH.out.size
  obtain ⟨gd, hgd⟩ : ∃ gd : Nat → Nat, gd = fun k => if w.heap.size ≤ k ∧ k < w2.heap.size then w.heap.size + 1 + 1 + 1 else g k := ⟨_, rfl⟩
  have gnew : ∀ k, w.heap.size ≤ k → k < w2.heap.size → gd k = w.heap.size + 1 + 1 + 1 := fun k h1 h2 => by rw [hgd]; exact if_pos ⟨h1, h2⟩
  have gold : ∀ k, ¬ (w.heap.size ≤ k ∧ k < w2.heap.size) → gd k = g k := fun k h1 => by rw [hgd]; exact if_neg h1
  have hst : Step [] g gd w w2 := by
    refine ⟨hkeepH.out.os.trans hSH.out.os, hkeepH.out.tape.trans hSH.out.tape, hkeepH.out.output.trans hSH.out.output, by omega, fun k hk _ => ⟨gold k (by omega), ?_⟩, fun hw => ⟨fun k hk => ?_, fun k hk => ?_⟩⟩
    · rw [hkeepH.out.keep k (by omega) (by omega)]
      exact (hSH.out.keep k hk (by simp)).2
    · by_cases h1 : w.heap.size ≤ k
      · rw [gnew k h1 hk]; omega
      · rw [gold k (by omega)]; have := hw.1 k (by omega); omega
    · rw [gold k (by omega)]; exact hw.2 k (by omega)
  refine ⟨gd, w.heap.size + 1 + 1 + 1, rfl, by omega, ⟨w.heap.size, w.heap.size + 1 + 1, .slice (some ⟨w.heap.size + 1, 0, none⟩) 0 0, lv', #[], 0, [], [], [], 0, 0, 0, ?_⟩, hst⟩
  exact { blk := hbH.out
          own := gnew _ (by omega) (by omega)
          map := hk2 _ _ h0H.out (by omega)
          ownm := gnew _ (by omega) (by omega)
          es := rfl, pg := rfl
          rows := fun t ht => by cases ht
          apart := List.nodup_nil
          flt := hvH.out
          ownf := fun k hk => gnew k (by have := hkH.out k hk; omega) (World.ownsRow.lt hvH.out k hk).2
          fln := by simp
          clean := fun _ => rfl
          valid := hp, most := hm
          nums := ⟨hk2 _ _ h2H.out (by omega), ⟨rfl, .inr ⟨w.heap.size + 1, 0, #[], rfl, Nat.zero_le _, hk2 _ _ h1H.out (by omega), Nat.le_refl _, Nat.zero_le _, rfl, rfl⟩⟩, gnew _ (by omega) (by omega), fun k hk => by
            obtain rfl : w.heap.size + 1 = k := by simpa [Value.ownBlock] using hk
            exact gnew _ (by omega) (by omega), by simp [Value.ownBlock]⟩
          nodup := List.nodup_nil, range := (fun n hn => by cases hn), count := rfl, high := by simp }
end
end Go.Proofs.Ytlppoimdfclbaaa
