/- A Writer: Create. -/
import Derived.Test.YtlppoimdfclbaaaTape5
set_option linter.unusedVariables false
set_option linter.unusedSimpArgs false
namespace Go.Proofs.Ytlppoimdfclbaaa
open Go.RowKit

section
variable {T : List Nat} {g g1 : Nat → Nat} {w w1 : World} {p rd rl : Nat} {W : Wr} {pv dv : Value} {D : Dk} {L : Led}

set_option maxRecDepth 100000 in
set_option maxHeartbeats 2000000 in
theorem tape_create (hg : GWf g w) (hd : DiskAt g w rd D) (hL : LedgerAt g w rl L) (hdl : rd ≠ rl) (hroom : (D.page : Int) + L.held ≤ 1099511627776) :
    Calls Try.prog 13 #[.pointer (some ⟨rd, 0, none⟩), .pointer (some ⟨rl, 0, none⟩)] w fun e w' => ∃ p g', e = .returned (.pointer (some ⟨p, 0, none⟩)) ∧ w.heap.size ≤ p ∧ WrAt g' w' p ⟨rd, rl, [], 0, [], false⟩ ∧ DiskAt g' w' rd D ∧ LedgerAt g' w' rl ⟨L.budget, L.held + D.page, max L.high (L.held + D.page)⟩ ∧ Step [rl] g g' w w' := by
  have hval := hd.valid
  have p0 := hval.lo
  have p1 := hval.hi
  have hn1 : ((D.page : Int) - 10 == 0) = false := by rw [beq_eq_false_iff_ne]; omega
  have hgH := Lib.hid hg
  have hdH := Lib.hid hd
  have hLH := Lib.hid hL
  clear hg hd hL
  go_enter Try.func13, Try.ntmps13
  go_wp2_with (first
    | (go_at_call 34; refine (disk_page hdH.out).mono ?_; rintro e w' ⟨rfl, rfl⟩)
    | (go_at_call 33; refine (seal_room D.page _ hval).mono ?_; rintro e w' ⟨rfl, rfl⟩))
  refine (ledger_take (D.page : Int) g w rl L hLH.out (by omega) (by omega) hroom).mono ?_
  rintro e w2 ⟨rfl, hL2, hs2, hsz2⟩
  have hL2H := Lib.hid hL2
  have hs2H := Lib.hid hs2
  clear hL2 hs2
  go_wp2_with fail
  go_ret
  have hS : Step [rl] g g w (w2.alloc (.cells (wrCells ⟨rd, rl, [], 0, [], false⟩ (.slice none 0 0) (.slice none 0 0)) 77)) := hs2H.out.tail (.alloc _)
  refine ⟨w.heap.size, g, rfl, Nat.le_refl _, ⟨.slice none 0 0, .slice none 0 0, ?_⟩, hdH.out.step hS (by simp; exact hdl), hL2H.out.step (T := []) (.alloc _) (by simp), hS⟩
  refine ⟨?_, hgH.out.2 _ (Nat.le_refl _), World.ownsRow_nil _ 0 _ 1, Row.nil _, fun k hk => (by cases hk), fun k hk => (by cases hk), by simp⟩
  rw [← hsz2]; exact heap_alloc_new w2 _

/-- What lies on a tape's pages at last. -/
def nextOf (l : List Int) (i : Nat) : Int := (l[i + 1]?).getD (-1)
structure Laid (D : Dk) (pages : List Int) (S : List UInt8) : Prop where
  nodup : pages.Nodup
  hi : S.length ≤ pages.length * room D
  lo : pages ≠ [] → (pages.length - 1) * room D < S.length
  lie : ∀ i (h : i < pages.length), (pages[i], sealPage D.page (nextOf pages i) (chunk (room D) S i)) ∈ D.pages

theorem Laid.none {D : Dk} {S : List UInt8} (h : S = []) : Laid D [] S := ⟨List.nodup_nil, by rw [h]; simp, fun h => absurd rfl h, fun i hi => by simp at hi⟩
theorem WInv.laid {W : Wr} {S : List UInt8} {wr : Int} (h : WInv D W S) {ps : List Int} {n : Int} (hp : W.pages = ps ++ [n]) : Laid { D with pages := pset D.pages n (sealPage D.page (-1) W.data), writes := wr } W.pages S := by
  have hne : W.pages ≠ [] := by rw [hp]; simp
  have hlen : W.pages.length = ps.length + 1 := by rw [hp]; simp
  refine ⟨h.1.nodup, h.1.hi, h.2, fun i hi => ?_⟩
  show (W.pages[i], sealPage D.page (nextOf W.pages i) (chunk (room D) S i)) ∈ pset D.pages n (sealPage D.page (-1) W.data)
  by_cases hi2 : i + 1 < W.pages.length
  · have hfull := h.1.full i hi2
    have hn : nextOf W.pages i = W.pages[i + 1] := by unfold nextOf; rw [List.getElem?_eq_getElem hi2]; rfl
    rw [hn]
    refine mem_pset.2 (.inl ⟨?_, hfull⟩)
    simp only
    intro e
    have hnd := h.1.nodup
    have hi3 : i < ps.length := by omega
    have e2 : W.pages[i] = ps[i] := by simp only [hp]; rw [List.getElem_append_left hi3]
    rw [hp, List.nodup_append] at hnd
    exact hnd.2.2 ps[i] (List.getElem_mem _) n (List.mem_singleton.2 rfl) (by rw [← e2, e])
  · have hi3 : i = ps.length := by omega
    subst hi3
    have e2 : W.pages[ps.length]'(by omega) = n := by simp only [hp]; rw [List.getElem_append_right (Nat.le_refl _)]; simp
    have hn : nextOf W.pages ps.length = -1 := by unfold nextOf; rw [List.getElem?_eq_none (by omega)]; rfl
    rw [e2, hn]
    obtain ⟨pg, hpg⟩ := h.1.inD n (by rw [hp]; simp)
    have hlo := h.1.lo
    have hhi := h.1.hi
    have e4 : chunk (room D) S ps.length = W.data := by
      unfold chunk
      rw [h.1.data, hlen, Nat.add_sub_cancel]
      apply List.take_of_length_le
      rw [hlen, Nat.add_mul, Nat.one_mul] at hhi
      rw [List.length_drop]; omega
    rw [e4]
    exact mem_pset.2 (.inr ⟨rfl, pg, hpg⟩)

/-! a Tape in memory -/
structure Tp where
  rd : Nat
  pages : List Int
  count : Int
  dropped : Bool
def tpCells (t : Tp) (pv : Value) : Array Value := #[.pointer (some ⟨t.rd, 0, none⟩), pv, .int .i64 t.count, .bool t.dropped]
structure TpRaw (g : Nat → Nat) (w : World) (p : Nat) (t : Tp) (pv : Value) : Prop where
  blk : w.heap[p]? = some (.cells (tpCells t pv) 75 (0, 0))
  own : g p = p
  pages : IRow w pv t.pages
  ownp : ∀ k, pv.ownBlock = some k → g k = p
  short : t.pages.length ≤ 16384
def TpAt (g : Nat → Nat) (w : World) (p : Nat) (t : Tp) : Prop := ∃ pv, TpRaw g w p t pv
theorem TpRaw.step {t : Tp} (h : TpRaw g w p t pv) (hs : Step T g g1 w w1) (hp : p ∉ T) : TpRaw g1 w1 p t pv where
  blk := hs.at h.blk (by rw [h.own]; exact hp)
  own := own_step hs (lt_of_block h.blk) h.own hp
  pages := h.pages.step hs (fun k hk => by rw [h.ownp k hk]; exact hp)
  ownp := fun k hk => own_step hs (World.ownsRow.lt h.pages k hk).2 (h.ownp k hk) hp
  short := h.short
theorem TpAt.step {t : Tp} (h : TpAt g w p t) (hs : Step T g g1 w w1) (hp : p ∉ T) : TpAt g1 w1 p t := by
  obtain ⟨_, h⟩ := h; exact ⟨_, h.step hs hp⟩
theorem TpRaw.cell {t : Tp} (h : TpRaw g w p t pv) {i : Nat} {v : Value} (hi : (tpCells t pv)[i]? = some v) : w.cell? ⟨p, i, none⟩ = some v := cell_blk h.blk hi
theorem TpAt.lt {t : Tp} (h : TpAt g w p t) : p < w.heap.size := by
  obtain ⟨_, h⟩ := h; exact lt_of_block h.blk
end
end Go.Proofs.Ytlppoimdfclbaaa
