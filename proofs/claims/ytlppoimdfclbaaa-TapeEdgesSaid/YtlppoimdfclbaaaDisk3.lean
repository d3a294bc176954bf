/- The disk: Write and Free. -/
import Derived.Test.YtlppoimdfclbaaaDisk2
set_option linter.unusedVariables false
set_option linter.unusedSimpArgs false
namespace Go.Proofs.Ytlppoimdfclbaaa
open Go.RowKit

section
variable {T : List Nat} {g g1 : Nat → Nat} {w w1 : World} {r : Nat} {D : Dk} {bm bf : Nat} {sv lv : Value} {es : Array MapEntry} {clock : Nat} {ents : List (Int × Value × List UInt8)} {free : List Int} {fl : List (Int × Int)} {high ops since : Int}

def pset (l : List (Int × List UInt8)) (n : Int) (pg : List UInt8) : List (Int × List UInt8) := l.map fun t => if t.1 = n then (n, pg) else t
def pdel (l : List (Int × List UInt8)) (n : Int) : List (Int × List UInt8) := l.filter fun t => t.1 ≠ n

theorem pset_split {a b : List (Int × List UInt8)} {n : Int} {p q : List UInt8} (h1 : ∀ t ∈ a, t.1 ≠ n) (h2 : ∀ t ∈ b, t.1 ≠ n) : pset (a ++ (n, p) :: b) n q = a ++ (n, q) :: b := by
  have f : ∀ l : List (Int × List UInt8), (∀ t ∈ l, t.1 ≠ n) → pset l n q = l := by
    intro l h
    have e : l.map (fun t => if t.1 = n then (n, q) else t) = l.map id := List.map_congr_left fun t ht => by rw [if_neg (h t ht)]; rfl
    unfold pset
    rw [e, List.map_id]
  have e : pset (a ++ (n, p) :: b) n q = pset a n q ++ (n, q) :: pset b n q := by simp [pset]
  rw [e, f a h1, f b h2]
theorem pdel_split {a b : List (Int × List UInt8)} {n : Int} {p : List UInt8} (h1 : ∀ t ∈ a, t.1 ≠ n) (h2 : ∀ t ∈ b, t.1 ≠ n) : pdel (a ++ (n, p) :: b) n = a ++ b := by
  have f : ∀ l : List (Int × List UInt8), (∀ t ∈ l, t.1 ≠ n) → pdel l n = l := by
    intro l h
    unfold pdel
    rw [List.filter_eq_self]
    intro t ht
    simpa using h t ht
  have e : pdel (a ++ (n, p) :: b) n = pdel a n ++ pdel b n := by simp [pdel]
  rw [e, f a h1, f b h2]

/-- The map's block is another now; so are the pages. -/
theorem DiskMem.bm_ne (h : DiskMem g w r D bm bf lv es clock ents fl high ops since) : bm ≠ r := by
  intro e
  have h1 := h.map
  rw [e, h.blk] at h1
  cases h1
theorem DiskMem.remap {es' : Array MapEntry} {clock' : Nat} {ents' : List (Int × Value × List UInt8)} {D' : Dk} (h : DiskMem g w r D bm bf lv es clock ents fl high ops since)
    (hg : w.grownBy w1 (some bm)) (hm : w1.heap[bm]? = some (.map es' clock')) (he : Ents es'.toList (keysVals ents')) (hp : D'.pages = keysPages ents') (h1 : D'.page = D.page) (h2 : D'.most = D.most) (h3 : D'.writes = D.writes) (h4 : D'.clean = D.clean)
    (hr : ∀ t ∈ ents', PageOk g w1 r D.page t) (ha : (ents'.map fun t => t.2.1.ownBlock).Nodup) :
    DiskMem g w1 r D' bm bf lv es' clock' ents' fl high ops since :=
  { blk := by rw [hg.block r (lt_of_block h.blk) (fun e => h.bm_ne (by cases e; rfl))]; rw [h.blk]; simp [diskCells, h1, h2, h3]
    own := h.own, map := hm, ownm := h.ownm, es := he, pg := hp
    rows := by rw [h1]; exact hr
    apart := ha
    flt := h.flt.kept hg (by
      cases hb : Value.ownBlock _ with
      | none => exact .inl rfl
      | some k => exact .inr (fun e => ownsRow_ne_map h.flt hb h.map (by cases e; rfl)))
    ownf := h.ownf, fln := h.fln, clean := by rw [h4]; exact h.clean
    valid := by rw [h1]; exact h.valid
    most := by rw [h2]; exact h.most }
theorem NumsAt.kept (h : NumsAt g w r bf sv free) (hg : w.grownBy w1 (some bm)) (hm : w.heap[bm]? = some (.map es clock)) : NumsAt g w1 r bf sv free :=
  ⟨by rw [hg.block bf h.lt (fun e => by
      have h5 := h.blk
      cases e
      rw [hm] at h5; cases h5)]; exact h.blk, h.row.kept hg (by
      cases hb : Value.ownBlock _ with
      | none => exact .inl rfl
      | some k => exact .inr (fun e => ownsRow_ne_map h.row hb hm (by cases e; rfl))), h.own, h.own2, h.ne⟩
theorem DiskRaw.remap {es' : Array MapEntry} {clock' : Nat} {ents' : List (Int × Value × List UInt8)} {D' : Dk} (h : DiskRaw g w r D bm bf sv lv es clock ents free fl high ops since)
    (hg : w.grownBy w1 (some bm)) (hm : w1.heap[bm]? = some (.map es' clock')) (he : Ents es'.toList (keysVals ents')) (hp : D'.pages = keysPages ents') (h1 : D'.page = D.page) (h2 : D'.most = D.most) (h3 : D'.writes = D.writes) (h4 : D'.clean = D.clean)
    (hr : ∀ t ∈ ents', PageOk g w1 r D.page t) (ha : (ents'.map fun t => t.2.1.ownBlock).Nodup) (hn : (keysOf ents' ++ free).Nodup) (hrg : ∀ n ∈ keysOf ents' ++ free, 0 ≤ n ∧ n < high) (hc : ((ents'.length + free.length : Nat) : Int) = high) :
    DiskRaw g w1 r D' bm bf sv lv es' clock' ents' free fl high ops since :=
  { h.toDiskMem.remap hg hm he hp h1 h2 h3 h4 hr ha with
    nums := h.nums.kept hg h.map
    nodup := hn, range := hrg, count := hc, high := by rw [h2]; exact h.high }

theorem PageOk.kept {page : Nat} {t : Int × Value × List UInt8} {es : Array MapEntry} {c : Nat} (h : PageOk g w r page t) (hg : w.grownBy w1 (some bm)) (hm : w.heap[bm]? = some (.map es c)) : PageOk g w1 r page t :=
  ⟨h.row.kept hg (by
    obtain ⟨k, hk, _⟩ := h.own
    exact .inr (fun e => ownsRow_ne_map h.row hk hm (by rw [hk] at e; cases e; rfl))), h.len, h.own⟩

/-- The pages' bytes with the block of one of them in another hand. -/
theorem PageOk.giveTo {page : Nat} {t : Int × Value × List UInt8} (h : PageOk g w r page t) (v : Value) : PageOk (giveTo g v r) w r page t := by
  obtain ⟨k, hk, hg⟩ := h.own
  exact ⟨h.row, h.len, k, hk, giveTo_keep hg⟩
theorem DiskRaw.giveTo (h : DiskRaw g w r D bm bf sv lv es clock ents free fl high ops since) (v : Value) : DiskRaw (giveTo g v r) w r D bm bf sv lv es clock ents free fl high ops since :=
  { h with
    own := giveTo_keep h.own
    ownm := giveTo_keep h.ownm
    rows := fun t ht => (h.rows t ht).giveTo v
    nums := ⟨h.nums.blk, h.nums.row, giveTo_keep h.nums.own, fun k hk => giveTo_keep (h.nums.own2 k hk), h.nums.ne⟩
    ownf := fun k hk => giveTo_keep (h.ownf k hk) }

theorem keysOf_append (a b : List (Int × Value × List UInt8)) : keysOf (a ++ b) = keysOf a ++ keysOf b := by simp [keysOf]
theorem keysOf_cons (t : Int × Value × List UInt8) (b : List (Int × Value × List UInt8)) : keysOf (t :: b) = t.1 :: keysOf b := rfl
theorem keysPages_append (a b : List (Int × Value × List UInt8)) : keysPages (a ++ b) = keysPages a ++ keysPages b := by simp [keysPages]
theorem keysPages_cons (t : Int × Value × List UInt8) (b : List (Int × Value × List UInt8)) : keysPages (t :: b) = (t.1, t.2.2) :: keysPages b := rfl
theorem mem_keysPages {t : Int × List UInt8} {b : List (Int × Value × List UInt8)} (h : t ∈ keysPages b) : ∃ t' ∈ b, t'.1 = t.1 := by
  simp only [keysPages, List.mem_map] at h
  obtain ⟨t', h1, rfl⟩ := h
  exact ⟨t', h1, rfl⟩
theorem mem_keysVals {t : Int × Value} {b : List (Int × Value × List UInt8)} (h : t ∈ keysVals b) : ∃ t' ∈ b, t'.1 = t.1 := by
  simp only [keysVals, List.mem_map] at h
  obtain ⟨t', h1, rfl⟩ := h
  exact ⟨t', h1, rfl⟩

/-- A page is written into the map. -/
theorem DiskRaw.write (h : DiskRaw g w r D bm bf sv lv es clock ents free fl high ops since) {n : Int} {pg b : List UInt8} (hm : (n, pg) ∈ D.pages) {v : Value} {k : Nat} (hv : Row w v b) (hbl : b.length = D.page) (hk : v.ownBlock = some k) (hgk : g k ≠ r) :
    ∃ W es' ents', (Instr.mapUpdate 65 (.map (some bm)) (.int .i64 n) v).run Try.prog w = .ok () W ∧ w.grownBy W (some bm) ∧ W.heap.size = w.heap.size ∧
      DiskRaw (Go.Proofs.Ytlppoimdfclbaaa.giveTo g v r) W r { D with pages := pset D.pages n b } bm bf sv lv es' clock ents' free fl high ops since := by
  obtain ⟨pre, v0, post, rfl, hpre, hpost⟩ := h.split hm
  have he := h.es
  rw [keysVals_append, keysVals_cons] at he
  have hup := run_update_found (w := w) (P := Try.prog) Try.underlying65 Try.underlying3 h.map v he (fun t ht => by
    obtain ⟨t', h1, h2⟩ := mem_keysVals ht
    rw [← h2]; exact hpre t' h1)
  have hg := putObj_grown (w := w) bm (.map (es.modify (keysVals pre).length fun e => { e with key := .int .i64 n, val := v }) clock)
  have hgv := h.giveTo v
  refine ⟨_, _, pre ++ (n, v, b) :: post, hup, hg, putObj_size _ _, hgv.remap hg (putObj_same h.map) (by rw [keysVals_append, keysVals_cons]; exact he.update) ?_ rfl rfl rfl rfl ?_ ?_ ?_ ?_ ?_⟩
  · rw [keysPages_append, keysPages_cons]
    have hpg := h.pg
    rw [keysPages_append, keysPages_cons] at hpg
    simp only [hpg]
    rw [pset_split]
    · intro t ht; obtain ⟨t', h1, h2⟩ := mem_keysPages ht; rw [← h2]; exact hpre t' h1
    · intro t ht; obtain ⟨t', h1, h2⟩ := mem_keysPages ht; rw [← h2]; exact hpost t' h1
  · intro t ht
    rw [List.mem_append, List.mem_cons] at ht
    rcases ht with ht | rfl | ht
    · exact (hgv.rows t (by simp [ht])).kept hg h.map
    · exact ⟨hv.kept hg (.inr (fun e => ownsRow_ne_map hv hk h.map (by rw [hk] at e; cases e; rfl))), hbl, k, hk, giveTo_same hk⟩
    · exact (hgv.rows t (by simp [ht])).kept hg h.map
  · have ha := h.apart
    simp only [List.map_append, List.map_cons] at ha ⊢
    have hkn : ∀ t ∈ pre ++ post, t.2.1.ownBlock ≠ some k := by
      intro t ht e
      obtain ⟨k', h1, h2⟩ := (h.rows t (by
        simp only [List.mem_append, List.mem_cons] at ht ⊢
        rcases ht with ht | ht
        · exact .inl ht
        · exact .inr (.inr ht))).own
      rw [e] at h1; cases h1; exact hgk h2
    rw [List.nodup_append, List.nodup_cons] at ha ⊢
    refine ⟨ha.1, ⟨?_, ha.2.1.2⟩, ?_⟩
    · intro hmem
      obtain ⟨t, ht, e⟩ := List.mem_map.1 hmem
      exact hkn t (by simp [ht]) (by rw [e]; exact hk)
    · intro a ha1 c hc e
      rw [List.mem_cons] at hc
      rcases hc with rfl | hc
      · obtain ⟨t, ht, e'⟩ := List.mem_map.1 ha1
        exact hkn t (by simp [ht]) (by rw [e', e]; exact hk)
      · exact ha.2.2 a ha1 c (List.mem_cons_of_mem _ hc) e
  · have := h.nodup
    rw [keysOf_append, keysOf_cons] at this ⊢
    exact this
  · have := h.range
    rw [keysOf_append, keysOf_cons] at this ⊢
    exact this
  · have := h.count
    simpa using this

/-- What Write comes to. -/
inductive WriteOut (D : Dk) (n : Int) (b : List UInt8) : Ending → Dk → Prop where
  | io (h : D.clean = false) : WriteOut D n b (.returned (.int .i64 16)) D
  | ok : WriteOut D n b (.returned (.int .i64 0)) { D with pages := pset D.pages n b, writes := wrap64 (D.writes + 1) }

set_option maxRecDepth 100000 in
set_option maxHeartbeats 2000000 in
theorem disk_write (h : DiskAt g w r D) (hw : GWf g w) (n : Int) (pg b : List UInt8) (hm : (n, pg) ∈ D.pages) (bb bo bc : Nat) (hb : Bytes w (.slice (some ⟨bb, bo, none⟩) b.length bc) b) (hbl : b.length = D.page) (hbr : g bb ≠ r) :
    Calls Try.prog 53 #[.pointer (some ⟨r, 0, none⟩), .int .i64 n, .slice (some ⟨bb, bo, none⟩) b.length bc] w fun e w' => ∃ g' D', WriteOut D n b e D' ∧ DiskAt g' w' r D' ∧ Step [r] g g' w w' := by
  have hrlt := h.lt
  obtain ⟨bm, bf, sv, lv, es, clock, ents, free, fl, high, ops, since, h⟩ := h
  have hp1 := h.valid.hi
  have hblH := Lib.hid hbl; clear hbl
  have hbH := Lib.hid hb; clear hb
  have hwH := Lib.hid hw; clear hw
  have hH := Lib.hid h; clear h
  go_enter Try.func53, Try.ntmps53
  go_wp2_with fail
  refine (disk_made hH.out).mono ?_
  rintro e w' ⟨rfl, rfl⟩
  go_wp2_with fail
  refine (disk_op hH.out).mono ?_
  rintro e w1 ⟨rfl, h1, hs1, _⟩
  have c8 : w1.cell? ⟨r, 8, none⟩ = some (.func (.func 48) #[.agg #[.pointer (some ⟨r, 0, none⟩), lv]] #[]) := h1.cell rfl
  have c2 : w1.cell? ⟨r, 2, none⟩ = some (.map (some bm)) := h1.cell rfl
  obtain ⟨lb, lc, hlk, hlrow, hllen, hlg⟩ := h1.look hm
  have h1H := Lib.hid h1; clear h1
  have hs1H := Lib.hid hs1; clear hs1
  have hlrowH := Lib.hid hlrow; clear hlrow
  have hllenH := Lib.hid hllen; clear hllen
  go_wp2_with fail
  refine (h1H.out.now 2).mono ?_
  rintro e w2 ⟨⟨fb, rfl, hfb⟩, hg2⟩
  have hs2 : Step [] g g w1 w2 := .grown hg2 (fun _ h => by cases h)
  have h2 := h1H.out.step hs2 (by simp)
  have hs2' := Lib.hid (hs1H.out.tail (hs2.mono (fun _ h => by cases h)))
  clear c8 c2 hlk hg2 hs2
  cases fb with
  | true =>
    have hcl : D.clean = false := by
      cases hc : D.clean with
      | false => rfl
      | true => exact absurd (hfb (h2.clean hc)) (by simp)
    clear hfb
    have h2H := Lib.hid h2; clear h2
    go_wp2_with fail
    go_ret
    exact ⟨g, D, .io hcl, ⟨_, _, _, _, _, _, _, _, _, _, _, _, h2H.out⟩, hs2'.out⟩
  | false =>
    clear hfb
    have c0 : w2.cell? ⟨r, 0, none⟩ = some (.int .i64 D.page) := h2.cell rfl
    have c2 : w2.cell? ⟨r, 2, none⟩ = some (.map (some bm)) := h2.cell rfl
    have h2H := Lib.hid h2; clear h2
    have hneq : ((b.length : Int) != (D.page : Int)) = false := by rw [hblH.out]; simp
    have hb2 : Bytes w2 (.slice (some ⟨bb, bo, none⟩) b.length bc) b := hbH.out.step hs2'.out (fun k hk => by cases hk; simp; exact hbr)
    have hb2H := Lib.hid hb2; clear hb2
    have hlt2 : r < w2.heap.size := lt_of_block h2H.out.blk
    go_wp2_with fail
    go_region_held3 (fun w' => w'.cell? ⟨r, 2, none⟩ = some (.map (some bm))) (first | exact c2 | exact c3 | exact (World.cell?_of_block (hgWH.out.block r hlt3 hrb)).trans c3) (first | (go_at_call 42; refine (bytes_clone b bb bo bc _ (by rw [hblH.out]; omega) (by exact hb2H.out)).mono ?_; rintro e w3 ⟨v, k, rfl, hr3, hg3, hk, hk3⟩; have hs3 : Step [] g g w2 w3 := .grown ((grown_drew w2 none).trans hg3) (fun _ h => by cases h); have h3 := h2H.out.step hs3 (by simp); have c3 : w3.cell? ⟨r, 2, none⟩ = some (.map (some bm)) := h3.cell rfl; have hlt3 : r < w3.heap.size := lt_of_block h3.blk; have hrb : some r ≠ some bm := fun e => h3.bm_ne (by cases e; rfl); have hgk : g k ≠ r := (by rw [hwH.out.2 k (Nat.le_trans hs2'.out.size hk3)]; have := Nat.le_trans hs2'.out.size hk3; omega); obtain ⟨W, es', ents', hup, hgW, hszW, h4⟩ := h3.write hm hr3 hblH.out hk hgk; have c6 : W.cell? ⟨r, 6, none⟩ = some (.int .i64 D.writes) := h4.cell rfl; have f6 := free_blk h4.blk; have h4H := Lib.hid h4; have hs3H := Lib.hid hs3; have hgWH := Lib.hid hgW; have hkk := Nat.le_trans hs2'.out.size hk3; have hszWH := Lib.hid hszW; have hkH := Lib.hid hk; have hbmgH := Lib.hid h3.ownm; have hkltH := Lib.hid (Row.lt hr3 hk); clear h3 hr3 hs3 hg3 h4 hszW hk))
    go_wp2
    go_ret
    have h4 := h4H.out
    have hown : g r = r := hH.out.own
    have h5 := h4.set (D' := { D with pages := pset D.pages n b, writes := wrap64 (D.writes + 1) }) (high' := high) (ops' := wrap64 (ops + 1)) (since' := wrap64 (since + 1)) 6 (.int .i64 (wrap64 (D.writes + 1))) rfl rfl rfl rfl rfl rfl
    have hS : Step [r] g g w (W.setCell ⟨r, 6, none⟩ (.int .i64 (wrap64 (D.writes + 1)))) :=
      ((hs2'.out.tail (hs3H.out.mono (fun _ h => by cases h))).tail (.grown hgWH.out (fun i hi => by cases hi; rw [hbmgH.out]; exact List.mem_singleton.2 rfl))).tail (.set _ _ (by rw [hown]; exact List.mem_singleton.2 rfl))
    exact ⟨_, _, .ok, ⟨_, _, _, _, _, _, _, _, _, _, _, _, h5⟩, hS.giveTo (fun i hi => by
      rw [hkH.out] at hi; cases hi
      exact ⟨.inl hkk, by simp; rw [hszWH.out]; exact hkltH.out⟩) (Nat.lt_of_lt_of_le hrlt hS.size)⟩

theorem disk_write' (h : DiskAt g w r D) (hw : GWf g w) (n : Int) (pg b : List UInt8) (m : Nat) (hbm : b.length = m) (hm : (n, pg) ∈ D.pages) (bb bo bc : Nat) (hb : Bytes w (.slice (some ⟨bb, bo, none⟩) m bc) b) (hbl : m = D.page) (hbr : g bb ≠ r) :
    Calls Try.prog 53 #[.pointer (some ⟨r, 0, none⟩), .int .i64 n, .slice (some ⟨bb, bo, none⟩) m bc] w fun e w' => ∃ g' D', WriteOut D n b e D' ∧ DiskAt g' w' r D' ∧ Step [r] g g' w w' := by
  subst hbm
  exact disk_write h hw n pg b hm bb bo bc hb hbl hbr
end
end Go.Proofs.Ytlppoimdfclbaaa
