/- The disk: Free and Alloc. -/
import Derived.Test.YtlppoimdfclbaaaDisk3
import Derived.Test.YtlppoimdfclbaaaHeap3
set_option linter.unusedVariables false
set_option linter.unusedSimpArgs false
namespace Go.Proofs.Ytlppoimdfclbaaa
open Go.RowKit

section
variable {T : List Nat} {g g1 : Nat → Nat} {w w1 : World} {r : Nat} {D : Dk} {bm bf : Nat} {sv lv : Value} {es : Array MapEntry} {clock : Nat} {ents : List (Int × Value × List UInt8)} {free : List Int} {fl : List (Int × Int)} {high ops since : Int}

theorem NumsAt.in (h : NumsAt g w r bf sv free) : NumsIn w bf sv free := ⟨h.blk, h.row, h.ne⟩

theorem DiskMem.giveTo (h : DiskMem g w r D bm bf lv es clock ents fl high ops since) (v : Value) : DiskMem (giveTo g v r) w r D bm bf lv es clock ents fl high ops since :=
  { h with
    own := giveTo_keep h.own
    ownm := giveTo_keep h.ownm
    rows := fun t ht => (h.rows t ht).giveTo v
    ownf := fun k hk => giveTo_keep (h.ownf k hk) }

/-- What the numbers' functions leave of the disk. -/
theorem DiskMem.nums (h : DiskMem g w r D bm bf lv es clock ents fl high ops since) (hn : NumsIn w bf sv free) (hk : Keep w w1 (ofNums bf sv)) : DiskMem g w1 r D bm bf lv es clock ents fl high ops since := by
  have hne : ∀ (k : Nat) (o : Obj), w.heap[k]? = some o → (∀ cs, o ≠ .cells cs 67 (0, 0)) → (∀ cs, o ≠ .cells cs 3 (0, 0)) → w1.heap[k]? = some o := by
    intro k o ho h1 h2
    rw [hk.keep k (lt_of_block ho) (fun e => by
      rcases e with rfl | e
      · rw [hn.blk] at ho; exact h1 _ (by cases ho; rfl)
      · rcases hn.row.2 with ⟨rfl, _⟩ | ⟨gb, cap, cur, rfl, _, hg, _⟩
        · cases e
        · obtain rfl : gb = k := by simpa [Value.ownBlock] using e
          rw [hg] at ho; exact h2 _ (by cases ho; rfl))]
    exact ho
  have hrow : ∀ {base : Nat} {e : TypeId} {size n : Nat} {v : Value} {xs : List Value}, e ≠ 67 → e ≠ 3 → w.ownsRow base e size v n xs → w1.ownsRow base e size v n xs := by
    intro base e size n v xs h1 h2 hx
    refine ⟨hx.1, ?_⟩
    rcases hx.2 with hx | ⟨gb, cap, cur, rfl, hb, hg, rest⟩
    · exact .inl hx
    · exact .inr ⟨gb, cap, cur, rfl, hb, hne gb _ hg (fun cs e => h1 (by cases e; rfl)) (fun cs e => h2 (by cases e; rfl)), rest⟩
  exact { h with
    blk := hne r _ h.blk (fun cs e => by simp at e) (fun cs e => by simp at e)
    map := hne bm _ h.map (fun cs e => by cases e) (fun cs e => by cases e)
    rows := fun t ht => ⟨hrow (by decide) (by decide) (h.rows t ht).row, (h.rows t ht).len, (h.rows t ht).own⟩
    flt := hrow (by decide) (by decide) h.flt }

/-- A page is taken out of the map. -/
theorem DiskRaw.erase (h : DiskRaw g w r D bm bf sv lv es clock ents free fl high ops since) {n : Int} {pg : List UInt8} (hm : (n, pg) ∈ D.pages) :
    ∃ es' ents' kpre kpost v0, Ents es.toList (kpre ++ (n, v0) :: kpost) ∧ (∀ t ∈ kpre, t.1 ≠ n) ∧ es' = es.eraseIdxIfInBounds kpre.length ∧
      (∀ W, w.grownBy W (some bm) → W.heap[bm]? = some (.map es' clock) → DiskMem g W r { D with pages := pdel D.pages n } bm bf lv es' clock ents' fl high ops since) ∧
      ((keysOf ents' ++ (free ++ [n])).Nodup) ∧ (∀ m ∈ keysOf ents' ++ (free ++ [n]), 0 ≤ m ∧ m < high) ∧ ((ents'.length + (free ++ [n]).length : Nat) : Int) = high := by
  obtain ⟨pre, v0, post, rfl, hpre, hpost⟩ := h.split hm
  have he := h.es
  rw [keysVals_append, keysVals_cons] at he
  refine ⟨_, pre ++ post, keysVals pre, keysVals post, v0, he, fun t ht => ?_, rfl, fun W hg hmW => ?_, ?_, ?_, ?_⟩
  · obtain ⟨t', h1, h2⟩ := mem_keysVals ht
    rw [← h2]; exact hpre t' h1
  · refine h.toDiskMem.remap hg hmW (by rw [keysVals_append]; exact he.erase) ?_ rfl rfl rfl rfl ?_ ?_
    · rw [keysPages_append]
      have hpg := h.pg
      rw [keysPages_append, keysPages_cons] at hpg
      simp only [hpg]
      rw [pdel_split]
      · intro t ht; obtain ⟨t', h1, h2⟩ := mem_keysPages ht; rw [← h2]; exact hpre t' h1
      · intro t ht; obtain ⟨t', h1, h2⟩ := mem_keysPages ht; rw [← h2]; exact hpost t' h1
    · intro t ht
      exact (h.rows t (by rw [List.mem_append] at ht ⊢; rcases ht with ht | ht; exact .inl ht; exact .inr (List.mem_cons_of_mem _ ht))).kept hg h.map
    · have ha := h.apart
      simp only [List.map_append, List.map_cons] at ha ⊢
      exact ha.sublist (List.Sublist.append (List.Sublist.refl _) (List.sublist_cons_self _ _))
  · have := h.nodup
    rw [keysOf_append, keysOf_cons] at this
    rw [keysOf_append]
    refine List.Perm.nodup ?_ this
    simp only [List.append_assoc, List.cons_append]
    refine List.Perm.append_left _ ?_
    refine (List.perm_middle (a := n) (l₁ := []) (l₂ := keysOf post ++ free)).symm.trans ?_
    simp only [List.nil_append]
    rw [← List.append_assoc]
    exact (List.perm_append_singleton n (keysOf post ++ free)).symm
  · intro m hm'
    refine h.range m ?_
    rw [keysOf_append, keysOf_cons]
    rw [keysOf_append] at hm'
    simp only [List.mem_append, List.mem_cons, List.mem_singleton] at hm' ⊢
    rcases hm' with (hm' | hm') | hm' | hm'
    · exact .inl (.inl hm')
    · exact .inl (.inr (.inr hm'))
    · exact .inr hm'
    · rcases hm' with hm' | hm'
      · exact .inl (.inr (.inl hm'))
      · cases hm'
  · have := h.count
    simp at this ⊢; omega

set_option maxRecDepth 100000 in
set_option maxHeartbeats 2000000 in
theorem disk_free (h : DiskAt g w r D) (n : Int) (pg : List UInt8) (hm : (n, pg) ∈ D.pages) :
    Calls Try.prog 55 #[.pointer (some ⟨r, 0, none⟩), .int .i64 n] w fun e w' => e = .returned (.int .i64 0) ∧ ∃ g', DiskAt g' w' r { D with pages := pdel D.pages n } ∧ Step [r] g g' w w' := by
  have hrlt := h.lt
  obtain ⟨bm, bf, sv, lv, es, clock, ents, free, fl, high, ops, since, h⟩ := h
  have hH := Lib.hid h; clear h
  go_enter Try.func55, Try.ntmps55
  go_wp2_with fail
  refine (disk_made hH.out).mono ?_
  rintro e w' ⟨rfl, rfl⟩
  go_wp2_with fail
  refine (disk_op hH.out).mono ?_
  rintro e w1 ⟨rfl, h1, hs1, _⟩
  have c2 : w1.cell? ⟨r, 2, none⟩ = some (.map (some bm)) := h1.cell rfl
  have c3 : w1.cell? ⟨r, 3, none⟩ = some (.pointer (some ⟨bf, 0, none⟩)) := h1.cell rfl
  obtain ⟨lb, lc, hlk, _, _, _⟩ := h1.look hm
  obtain ⟨es', ents', kpre, kpost, v0, he, hkp, rfl, hmem, hnd, hrg, hct⟩ := h1.erase hm
  have hmemH := Lib.hid hmem
  have hmap := Lib.hid h1.map
  have heH := Lib.hid he
  have h1H := Lib.hid h1
  have hs1H := Lib.hid hs1
  have hkpH := Lib.hid hkp
  have hndH := Lib.hid hnd
  have hrgH := Lib.hid hrg
  have hctH := Lib.hid hct
  have hlt1 : r < w1.heap.size := lt_of_block h1.blk
  clear hmem he hs1 hkp hnd hrg hct
  have hrb : some r ≠ some bm := fun e => h1.bm_ne (by cases e; rfl)
  clear h1
  go_wp2_with ((with_reducible refine wpList_delete_map (o := ⟨none, _, _, _, _, _⟩) ?_ (.tmp 26) (.tmp 27) 3 ?_ Try.underlying65 Try.underlying3 hmap.out heH.out hkpH.out ?_ ?_ ?_); rfl; rfl; rfl; rfl; obtain ⟨W, hW⟩ : ∃ W, W = putObj w1 bm (.map (es.eraseIdxIfInBounds kpre.length) clock) := ⟨_, rfl⟩; rw [← hW]; have hgW : w1.grownBy W (some bm) := (by rw [hW]; exact putObj_grown _ _); have h2 := hmemH.out W hgW (by rw [hW]; exact putObj_same hmap.out); have hn2 := h1H.out.nums.kept hgW hmap.out; have c3W : W.cell? ⟨r, 3, none⟩ = some (.pointer (some ⟨bf, 0, none⟩)) := cell_blk h2.blk rfl; have h2H := Lib.hid h2; have hn2H := Lib.hid hn2; have hgWH := Lib.hid hgW; clear hW hgW h2 hn2)
  have hlen : free.length ≤ 100000 := by
    have h3 := hctH.out
    have h4 := h1H.out.high
    have h5 := h1H.out.most
    simp at h3; omega
  refine (heap_push2 bf sv free n W hn2H.out.in hlen).mono ?_
  rintro e w3 ⟨rfl, sv3, l3, hp3, hn3, hk3, ho3⟩
  have h3 := h2H.out.nums hn2H.out.in hk3
  have h3H := Lib.hid h3
  clear h3
  go_wp2_with fail
  go_ret
  have hS : Step [r] g g w w3 := (hs1H.out.tail (.grown hgWH.out (fun i hi => by cases hi; rw [h1H.out.ownm]; exact List.mem_singleton.2 rfl))).tail (hk3.step (fun k hk => by
    rcases hk with rfl | hk
    · rw [hn2H.out.own]; exact List.mem_singleton.2 rfl
    · rw [hn2H.out.own2 k hk]; exact List.mem_singleton.2 rfl))
  refine ⟨rfl, giveTo g sv3 r, ⟨bm, bf, sv3, lv, _, clock, ents', l3, fl, high, _, _, { h3H.out.giveTo sv3 with
    nums := ⟨hn3.blk, hn3.row, giveTo_keep hn2H.out.own, fun k hk => giveTo_same hk, hn3.ne⟩
    nodup := (List.Perm.append_left _ hp3).symm.nodup hndH.out
    range := fun m hm' => hrgH.out m ((List.Perm.append_left _ hp3).mem_iff.1 hm')
    count := by rw [hp3.length_eq]; exact hctH.out
    high := h1H.out.high }⟩, hS.giveTo (fun k hk => ⟨?_, (World.ownsRow.lt hn3.row k hk).2⟩) (Nat.lt_of_lt_of_le hrlt hS.size)⟩
  rcases ho3 k hk with hk' | hk'
  · right; rw [h1H.out.nums.own2 k hk']; exact List.mem_singleton.2 rfl
  · left
    exact Nat.le_trans (Nat.le_trans hs1H.out.size hgWH.out.size) hk'
end
end Go.Proofs.Ytlppoimdfclbaaa
