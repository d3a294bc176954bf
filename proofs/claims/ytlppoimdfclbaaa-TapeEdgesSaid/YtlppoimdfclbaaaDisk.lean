/- The disk in memory; the functions that only look, and the counting of an operation. -/
import Derived.Test.YtlppoimdfclbaaaHeap2
import Derived.Test.YtlppoimdfclbaaaFlt
import Derived.Test.YtlppoimdfclbaaaMapInt
import Derived.Test.YtlppoimdfclbaaaSealC
set_option linter.unusedVariables false
set_option linter.unusedSimpArgs false
namespace Go.Proofs.Ytlppoimdfclbaaa
open Go.RowKit

/-- A disk: its pages in use, in the order of the map's entries; is no fault planned? -/
structure Dk where
  page : Nat
  most : Nat
  pages : List (Int × List UInt8)
  clean : Bool
  writes : Int

def diskCells (D : Dk) (r bm bf : Nat) (lv : Value) (high ops since : Int) : Array Value :=
  #[.int .i64 D.page, .int .i64 D.most, .map (some bm), .pointer (some ⟨bf, 0, none⟩), .int .i64 high, .int .i64 ops, .int .i64 D.writes, .int .i64 since,
    .func (.func 48) #[.agg #[.pointer (some ⟨r, 0, none⟩), lv]] #[]]

def keysVals (ents : List (Int × Value × List UInt8)) : List (Int × Value) := ents.map fun t => (t.1, t.2.1)
def keysPages (ents : List (Int × Value × List UInt8)) : List (Int × List UInt8) := ents.map fun t => (t.1, t.2.2)
def keysOf (ents : List (Int × Value × List UInt8)) : List Int := ents.map fun t => t.1

/-- One page in memory. -/
structure PageOk (g : Nat → Nat) (w : World) (r page : Nat) (t : Int × Value × List UInt8) : Prop where
  row : Row w t.2.1 t.2.2
  len : t.2.2.length = page
  own : ∃ k, t.2.1.ownBlock = some k ∧ g k = r

structure DiskMem (g : Nat → Nat) (w : World) (r : Nat) (D : Dk) (bm bf : Nat) (lv : Value) (es : Array MapEntry) (clock : Nat) (ents : List (Int × Value × List UInt8)) (fl : List (Int × Int)) (high ops since : Int) : Prop where
  blk : w.heap[r]? = some (.cells (diskCells D r bm bf lv high ops since) 70 (0, 0))
  own : g r = r
  map : w.heap[bm]? = some (.map es clock)
  ownm : g bm = r
  es : Ents es.toList (keysVals ents)
  pg : D.pages = keysPages ents
  rows : ∀ t ∈ ents, PageOk g w r D.page t
  apart : (ents.map fun t => t.2.1.ownBlock).Nodup
  flt : FRow w lv fl
  ownf : ∀ k, lv.ownBlock = some k → g k = r
  fln : fl.length ≤ 1000000
  clean : D.clean = true → fl = []
  valid : ValidPage D.page
  most : D.most ≤ 16384

structure DiskRaw (g : Nat → Nat) (w : World) (r : Nat) (D : Dk) (bm bf : Nat) (sv lv : Value) (es : Array MapEntry) (clock : Nat) (ents : List (Int × Value × List UInt8)) (free : List Int) (fl : List (Int × Int)) (high ops since : Int) : Prop extends
    DiskMem g w r D bm bf lv es clock ents fl high ops since where
  nums : NumsAt g w r bf sv free
  nodup : (keysOf ents ++ free).Nodup
  range : ∀ n ∈ keysOf ents ++ free, 0 ≤ n ∧ n < high
  count : ((ents.length + free.length : Nat) : Int) = high
  high : high ≤ D.most

def DiskAt (g : Nat → Nat) (w : World) (r : Nat) (D : Dk) : Prop := ∃ bm bf sv lv es clock ents free fl high ops since, DiskRaw g w r D bm bf sv lv es clock ents free fl high ops since

section
variable {T : List Nat} {g g1 : Nat → Nat} {w w1 : World} {r : Nat} {D : Dk} {bm bf : Nat} {sv lv : Value} {es : Array MapEntry} {clock : Nat} {ents : List (Int × Value × List UInt8)} {free : List Int} {fl : List (Int × Int)} {high ops since : Int}

theorem PageOk.step {page : Nat} {t : Int × Value × List UInt8} (h : PageOk g w r page t) (hs : Step T g g1 w w1) (hr : r ∉ T) : PageOk g1 w1 r page t := by
  obtain ⟨k, hk, hg⟩ := h.own
  exact ⟨h.row.step hs (fun i hi => by rw [hi] at hk; cases hk; rw [hg]; exact hr), h.len, k, hk, by rw [(hs.keep k (h.row.lt hk) (by rw [hg]; exact hr)).1]; exact hg⟩

theorem DiskRaw.step (h : DiskRaw g w r D bm bf sv lv es clock ents free fl high ops since) (hs : Step T g g1 w w1) (hr : r ∉ T) : DiskRaw g1 w1 r D bm bf sv lv es clock ents free fl high ops since :=
  { h with
    blk := hs.at h.blk (by rw [h.own]; exact hr)
    own := by rw [hs.own_at h.blk (by rw [h.own]; exact hr)]; exact h.own
    map := hs.at h.map (by rw [h.ownm]; exact hr)
    ownm := by rw [hs.own_at h.map (by rw [h.ownm]; exact hr)]; exact h.ownm
    rows := fun t ht => (h.rows t ht).step hs hr
    nums := h.nums.step hs hr
    flt := h.flt.step hs (fun k hk => by rw [h.ownf k hk]; exact hr)
    ownf := fun k hk => by
      have hlt := (World.ownsRow.lt h.flt k hk).2
      rw [(hs.keep k hlt (by rw [h.ownf k hk]; exact hr)).1]; exact h.ownf k hk }

theorem DiskAt.step (h : DiskAt g w r D) (hs : Step T g g1 w w1) (hr : r ∉ T) : DiskAt g1 w1 r D := by
  obtain ⟨_, _, _, _, _, _, _, _, _, _, _, _, h⟩ := h
  exact ⟨_, _, _, _, _, _, _, _, _, _, _, _, h.step hs hr⟩
theorem DiskAt.lt (h : DiskAt g w r D) : r < w.heap.size := by
  obtain ⟨_, _, _, _, _, _, _, _, _, _, _, _, h⟩ := h
  exact lt_of_block h.blk
theorem DiskAt.own (h : DiskAt g w r D) : g r = r := by
  obtain ⟨_, _, _, _, _, _, _, _, _, _, _, _, h⟩ := h
  exact h.own
theorem DiskAt.valid (h : DiskAt g w r D) : ValidPage D.page := by
  obtain ⟨_, _, _, _, _, _, _, _, _, _, _, _, h⟩ := h
  exact h.valid

/-- Another block of the disk is none of these. -/
theorem DiskRaw.bm_ne (h : DiskRaw g w r D bm bf sv lv es clock ents free fl high ops since) : bm ≠ r := by
  intro e
  have h1 := h.map
  rw [e, h.blk] at h1
  cases h1
theorem DiskRaw.bf_ne (h : DiskRaw g w r D bm bf sv lv es clock ents free fl high ops since) : bf ≠ r := by
  intro e
  have h1 := h.nums.blk
  rw [e, h.blk] at h1
  simp at h1
theorem row_ne {v : Value} {l : List UInt8} {k b : Nat} {cs : Array Value} {t : TypeId} (h : Row w v l) (hk : v.ownBlock = some k) (hb : w.heap[b]? = some (.cells cs t (0, 0))) (ht : t ≠ 5) : k ≠ b := by
  intro e
  rcases h.2 with ⟨rfl, _⟩ | ⟨gb, cap, cur, rfl, _, hg, _⟩
  · cases hk
  · obtain rfl : gb = k := by simpa [Value.ownBlock] using hk
    rw [e, hb] at hg
    simp only [Option.some.injEq, Obj.cells.injEq] at hg
    exact ht hg.2.1
theorem ownsRow_ne {base : Nat} {e t : TypeId} {size n k b : Nat} {v : Value} {xs : List Value} {cs : Array Value} (h : w.ownsRow base e size v n xs) (hk : v.ownBlock = some k) (hb : w.heap[b]? = some (.cells cs t (0, 0))) (ht : t ≠ e) : k ≠ b := by
  intro e'
  rcases h.2 with ⟨rfl, _⟩ | ⟨gb, cap, cur, rfl, _, hg, _⟩
  · cases hk
  · obtain rfl : gb = k := by simpa [Value.ownBlock] using hk
    rw [e', hb] at hg
    simp only [Option.some.injEq, Obj.cells.injEq] at hg
    exact ht hg.2.1
theorem ownsRow_ne_map {base : Nat} {e : TypeId} {size n k b : Nat} {v : Value} {xs : List Value} {es : Array MapEntry} {c : Nat} (h : w.ownsRow base e size v n xs) (hk : v.ownBlock = some k) (hb : w.heap[b]? = some (.map es c)) : k ≠ b := by
  intro e'
  rcases h.2 with ⟨rfl, _⟩ | ⟨gb, cap, cur, rfl, _, hg, _⟩
  · cases hk
  · obtain rfl : gb = k := by simpa [Value.ownBlock] using hk
    rw [e', hb] at hg
    cases hg
theorem ownsRow_setOther {base : Nat} {e t : TypeId} {size n b i : Nat} {v u : Value} {xs : List Value} {cs : Array Value} (h : w.ownsRow base e size v n xs) (hb : w.heap[b]? = some (.cells cs t (0, 0))) (ht : t ≠ e) : (w.setCell ⟨b, i, none⟩ u).ownsRow base e size v n xs :=
  ownsRow_setCell_other h (fun hk => ownsRow_ne h hk hb ht rfl) u

/-- One cell of the disk's own block is set. -/
theorem DiskRaw.set {D' : Dk} {high' ops' since' : Int} (h : DiskRaw g w r D bm bf sv lv es clock ents free fl high ops since) (i : Nat) (u : Value)
    (hc : (diskCells D r bm bf lv high ops since).setIfInBounds i u = diskCells D' r bm bf lv high' ops' since') (h1 : D'.page = D.page) (h2 : D'.most = D.most) (h3 : D'.pages = D.pages) (h4 : D'.clean = D.clean) (h5 : high' = high) :
    DiskRaw g (w.setCell ⟨r, i, none⟩ u) r D' bm bf sv lv es clock ents free fl high' ops' since' where
  blk := by rw [← hc]; exact set_blk h.blk i u
  own := h.own
  map := set_other h.map h.bm_ne
  ownm := h.ownm
  es := h.es
  pg := by rw [h3]; exact h.pg
  rows := fun t ht => by
    rw [h1]
    have hp := h.rows t ht
    exact ⟨ownsRow_setOther hp.row h.blk (by decide), hp.len, hp.own⟩
  apart := h.apart
  nums := ⟨set_other h.nums.blk h.bf_ne, ownsRow_setOther h.nums.row h.blk (by decide), h.nums.own, h.nums.own2, h.nums.ne⟩
  flt := ownsRow_setOther h.flt h.blk (by decide)
  ownf := h.ownf
  fln := h.fln
  clean := by rw [h4]; exact h.clean
  valid := by rw [h1]; exact h.valid
  most := by rw [h2]; exact h.most
  nodup := h.nodup
  range := by rw [h5]; exact h.range
  count := by rw [h5]; exact h.count
  high := by rw [h5, h2]; exact h.high
theorem DiskRaw.stepSet (h : DiskRaw g w r D bm bf sv lv es clock ents free fl high ops since) (i : Nat) (u : Value) : Step [r] g g w (w.setCell ⟨r, i, none⟩ u) := .set _ _ (by rw [h.own]; exact List.mem_singleton.2 rfl)
theorem DiskRaw.cell (h : DiskRaw g w r D bm bf sv lv es clock ents free fl high ops since) {i : Nat} {v : Value} (hi : (diskCells D r bm bf lv high ops since)[i]? = some v) : w.cell? ⟨r, i, none⟩ = some v := cell_blk h.blk hi

set_option maxRecDepth 100000 in
theorem disk_made (h : DiskRaw g w r D bm bf sv lv es clock ents free fl high ops since) :
    Calls Try.prog 46 #[.pointer (some ⟨r, 0, none⟩)] w fun e w' => e = .returned (.bool true) ∧ w = w' := by
  have c2 : w.cell? ⟨r, 2, none⟩ = some (.map (some bm)) := h.cell rfl
  have hnm := fun w : World => run_neq_map_nil w 65 _ _ (some bm) Try.underlying65
  clear h
  go_enter Try.func46, Try.ntmps46
  go_wp2
  go_ret
  exact ⟨rfl, rfl⟩

set_option maxRecDepth 100000 in
theorem disk_page (h : DiskAt g w r D) :
    Calls Try.prog 34 #[.pointer (some ⟨r, 0, none⟩)] w fun e w' => e = .returned (.int .i64 D.page) ∧ w = w' := by
  obtain ⟨_, _, _, _, _, _, _, _, _, _, _, _, h⟩ := h
  have c2 : w.cell? ⟨r, 0, none⟩ = some (.int .i64 D.page) := h.cell rfl
  clear h
  go_enter Try.func34, Try.ntmps34
  go_wp2
  go_ret
  exact ⟨rfl, rfl⟩

set_option maxRecDepth 100000 in
theorem disk_live (h : DiskAt g w r D) :
    Calls Try.prog 23 #[.pointer (some ⟨r, 0, none⟩)] w fun e w' => e = .returned (.int .i64 D.pages.length) ∧ w = w' := by
  obtain ⟨bm, _, _, _, es, _, ents, _, _, _, _, _, h⟩ := h
  have c2 : w.cell? ⟨r, 2, none⟩ = some (.map (some bm)) := h.cell rfl
  have hm := Lib.hid h.map
  have hlen : (es.size : Int) = (D.pages.length : Int) := by
    have := h.es.length
    rw [h.pg]; simp [keysVals, keysPages] at *; omega
  have hlenH := Lib.hid hlen
  clear h hlen
  go_enter Try.func23, Try.ntmps23
  go_wp2_with ((with_reducible refine wpList_len_map (o := ⟨some 9, _, _, _, _, _⟩) ?_ (.tmp 8) ?_ Try.underlying65 hm.out ?_ ?_); rfl; rfl; rfl)
  go_ret
  exact ⟨by rw [← hlenH.out]; rfl, rfl⟩

set_option maxRecDepth 100000 in
set_option maxHeartbeats 400000 in
theorem disk_op (h : DiskRaw g w r D bm bf sv lv es clock ents free fl high ops since) :
    Calls Try.prog 60 #[.pointer (some ⟨r, 0, none⟩)] w fun e w' => e = .returned (.tuple #[]) ∧ DiskRaw g w' r D bm bf sv lv es clock ents free fl high (wrap64 (ops + 1)) (wrap64 (since + 1)) ∧ Step [r] g g w w' ∧ w'.heap.size = w.heap.size := by
  have c5 : w.cell? ⟨r, 5, none⟩ = some (.int .i64 ops) := h.cell rfl
  have c7 : w.cell? ⟨r, 7, none⟩ = some (.int .i64 since) := h.cell rfl
  have f0 := free_blk h.blk
  have hH := Lib.hid h; clear h
  go_enter Try.func60, Try.ntmps60
  go_wp2
  go_end0
  have h1 := hH.out.set (D' := D) (high' := high) (ops' := wrap64 (ops + 1)) (since' := since) 5 (.int .i64 (wrap64 (ops + 1))) rfl rfl rfl rfl rfl rfl
  have h2 := h1.set (D' := D) (high' := high) (ops' := wrap64 (ops + 1)) (since' := wrap64 (since + 1)) 7 (.int .i64 (wrap64 (since + 1))) rfl rfl rfl rfl rfl rfl
  exact ⟨rfl, h2, (hH.out.stepSet _ _).tail (h1.stepSet _ _), by simp⟩
end
end Go.Proofs.Ytlppoimdfclbaaa
