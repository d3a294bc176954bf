/- A Tape: Count, Pages, Drop, Open. A Reader: Close. -/
import Derived.Test.YtlppoimdfclbaaaTape8
import Derived.Test.YtlppoimdfclbaaaSealE
set_option linter.unusedVariables false
set_option linter.unusedSimpArgs false
namespace Go.Proofs.Ytlppoimdfclbaaa
open Go.RowKit

section
variable {T : List Nat} {g g1 : Nat → Nat} {w w1 : World} {p rd rl : Nat} {t : Tp} {pv dv : Value} {D : Dk} {L : Led}

theorem tape_count (h : TpAt g w p t) :
    Calls Try.prog 30 #[.pointer (some ⟨p, 0, none⟩)] w fun e w' => e = .returned (.int .i64 t.count) ∧ w = w' := by
  obtain ⟨pv, h⟩ := h
  have c2 : w.cell? ⟨p, 2, none⟩ = some (.int .i64 t.count) := h.cell rfl
  clear h
  go_enter Try.func30, Try.ntmps30
  go_wp2_with fail
  go_ret
  exact ⟨rfl, rfl⟩

set_option maxRecDepth 100000 in
theorem tape_pages (h : TpAt g w p t) :
    Calls Try.prog 24 #[.pointer (some ⟨p, 0, none⟩)] w fun e w' => ∃ v', e = .returned v' ∧ IRow w' v' t.pages ∧ w.grownBy w' none ∧ ∀ k, v'.ownBlock = some k → w.heap.size ≤ k := by
  obtain ⟨pv, h⟩ := h
  have c1 : w.cell? ⟨p, 1, none⟩ = some pv := h.cell rfl
  have hH := Lib.hid h
  have hs := h.short
  clear h
  obtain ⟨ad, c, rfl⟩ := hH.out.pages.len
  go_enter Try.func24, Try.ntmps24
  go_wp2_with fail
  refine (ints_clone t.pages _ w hH.out.pages (by omega)).mono ?_
  rintro e w' ⟨v', rfl, h1⟩
  go_wp2_with fail
  go_ret
  exact ⟨_, rfl, h1⟩

theorem tape_drop_again (h : TpAt g w p t) (hd : t.dropped = true) :
    Calls Try.prog 22 #[.pointer (some ⟨p, 0, none⟩)] w fun e w' => e = .returned (.int .i64 21) ∧ w = w' := by
  obtain ⟨pv, h⟩ := h
  have c0 : w.cell? ⟨p, 0, none⟩ = some (.pointer (some ⟨t.rd, 0, none⟩)) := h.cell rfl
  have c3 : w.cell? ⟨p, 3, none⟩ = some (.bool true) := by rw [← hd]; exact h.cell rfl
  clear h hd
  go_enter Try.func22, Try.ntmps22
  go_wp2_with fail
  go_ret
  exact ⟨rfl, rfl⟩

set_option maxRecDepth 100000 in
set_option maxHeartbeats 1000000 in
theorem tape_drop (hg : GWf g w) (hd : DiskAt g w t.rd D) (h : TpAt g w p t) (hdr : t.dropped = false) (hpd : p ≠ t.rd) (hnd : t.pages.Nodup) (hin : ∀ n ∈ t.pages, ∃ pg, (n, pg) ∈ D.pages) :
    Calls Try.prog 22 #[.pointer (some ⟨p, 0, none⟩)] w fun e w' => e = .returned (.int .i64 0) ∧ ∃ g' D', DiskAt g' w' t.rd D' ∧ DStep D D' t.pages [] ∧ TpAt g' w' p { t with pages := [], dropped := true } ∧ Step [t.rd, p] g g' w w' := by
  obtain ⟨pv, h⟩ := h
  have c0 : w.cell? ⟨p, 0, none⟩ = some (.pointer (some ⟨t.rd, 0, none⟩)) := h.cell rfl
  have c3 : w.cell? ⟨p, 3, none⟩ = some (.bool false) := by rw [← hdr]; exact h.cell rfl
  have hH := Lib.hid h
  have hgH := Lib.hid hg
  have hdH := Lib.hid hd
  have hdrH := Lib.hid hdr
  clear h hg hd hdr
  go_enter Try.func22, Try.ntmps22
  go_wp2_with fail
  refine (tape_free (p := p) (by decide) hgH.out hdH.out hH.out.blk rfl rfl hH.out.pages hH.out.own hH.out.ownp hpd hnd hin hH.out.short).mono ?_
  rintro e w2 ⟨rfl, g2, D2, hd2, hds2, hb2, hs2, ho2⟩
  have k3 : w2.cell? ⟨p, 3, none⟩ = some (.bool t.dropped) := cell_blk hb2 rfl
  have f2 := free_blk hb2
  have hb2H := Lib.hid hb2
  have hd2H := Lib.hid hd2
  have hds2H := Lib.hid hds2
  have hs2H := Lib.hid hs2
  have ho2H := Lib.hid ho2
  clear hb2 hd2 hds2 hs2 ho2
  go_wp2_with fail
  go_ret
  have hst : Step [p] g2 g2 w2 (w2.setCell ⟨p, 3, none⟩ (.bool true)) := .set _ _ (by rw [ho2H.out]; simp)
  refine ⟨rfl, g2, D2, hd2H.out.step hst (by simp; exact fun e => hpd e.symm), hds2H.out, ⟨.slice none 0 0, set_blk hb2H.out 3 _, ho2H.out, World.ownsRow_nil _ 0 _ 1, fun k hk => (by cases hk), by simp⟩, hs2H.out.trans hst (by simp)⟩
end

/-! a Reader in memory -/
structure Rd where
  tp : Nat
  rl : Nat
  page : Nat
  data : List UInt8
  left : Int
  over : Bool
  broken : Bool
def rdCells (R : Rd) (dv : Value) : Array Value := #[.pointer (some ⟨R.tp, 0, none⟩), .pointer (some ⟨R.rl, 0, none⟩), .int .i64 R.page, dv, .int .i64 R.left, .bool R.over, .bool R.broken]
structure RdRaw (g : Nat → Nat) (w : World) (p : Nat) (R : Rd) (dv : Value) : Prop where
  blk : w.heap[p]? = some (.cells (rdCells R dv) 82 (0, 0))
  own : g p = p
  data : Bytes w dv R.data
  ownd : ∀ k, dv.ownBlock = some k → g k = p
  ne : dv.ownBlock ≠ some p
def RdAt (g : Nat → Nat) (w : World) (p : Nat) (R : Rd) : Prop := ∃ dv, RdRaw g w p R dv

section
variable {T : List Nat} {g g1 : Nat → Nat} {w w1 : World} {p rd rl : Nat} {t : Tp} {R : Rd} {pv dv : Value} {D : Dk} {L : Led}
theorem Bytes.len {v : Value} {l : List UInt8} (h : Bytes w v l) : ∃ ad c, v = .slice ad l.length c := by
  rcases h with ⟨rfl, rfl⟩ | ⟨b, o, c, rfl, _⟩
  · exact ⟨_, _, rfl⟩
  · exact ⟨_, _, rfl⟩
theorem Bytes.lt {v : Value} {l : List UInt8} (h : Bytes w v l) {k : Nat} (hk : v.ownBlock = some k) : k < w.heap.size := by
  rcases h with ⟨rfl, rfl⟩ | ⟨b, o, c, rfl, _, hb, _⟩
  · cases hk
  · cases hk; exact hb
theorem RdRaw.step (h : RdRaw g w p R dv) (hs : Step T g g1 w w1) (hp : p ∉ T) : RdRaw g1 w1 p R dv where
  blk := hs.at h.blk (by rw [h.own]; exact hp)
  own := own_step hs (lt_of_block h.blk) h.own hp
  data := h.data.step hs (fun k hk => by rw [h.ownd k hk]; exact hp)
  ownd := fun k hk => own_step hs (h.data.lt hk) (h.ownd k hk) hp
  ne := h.ne
theorem RdAt.step (h : RdAt g w p R) (hs : Step T g g1 w w1) (hp : p ∉ T) : RdAt g1 w1 p R := by
  obtain ⟨_, h⟩ := h; exact ⟨_, h.step hs hp⟩
theorem RdRaw.cell (h : RdRaw g w p R dv) {i : Nat} {v : Value} (hi : (rdCells R dv)[i]? = some v) : w.cell? ⟨p, i, none⟩ = some v := cell_blk h.blk hi

set_option maxRecDepth 100000 in
set_option maxHeartbeats 1000000 in
theorem tape_open (hg : GWf g w) (hd : DiskAt g w t.rd D) (hL : LedgerAt g w rl L) (h : TpAt g w p t) (hpl : p ≠ rl) (hdl : t.rd ≠ rl) (hroom : (D.page : Int) + L.held ≤ 1099511627776) :
    Calls Try.prog 17 #[.pointer (some ⟨p, 0, none⟩), .pointer (some ⟨rl, 0, none⟩)] w fun e w' => ∃ r, e = .returned (.pointer (some ⟨r, 0, none⟩)) ∧ w.heap.size ≤ r ∧ RdAt g w' r ⟨p, rl, 0, [], t.count, false, false⟩ ∧ LedgerAt g w' rl ⟨L.budget, L.held + D.page, max L.high (L.held + D.page)⟩ ∧ Step [rl] g g w w' := by
  obtain ⟨pv, h⟩ := h
  have c0 : w.cell? ⟨p, 0, none⟩ = some (.pointer (some ⟨t.rd, 0, none⟩)) := h.cell rfl
  have c2 : w.cell? ⟨p, 2, none⟩ = some (.int .i64 t.count) := h.cell rfl
  have p1 := hd.valid.hi
  have hH := Lib.hid h
  have hgH := Lib.hid hg
  have hdH := Lib.hid hd
  have hLH := Lib.hid hL
  clear h hg hd hL
  go_enter Try.func17, Try.ntmps17
  go_wp2_with fail
  refine (disk_page hdH.out).mono ?_
  rintro e w' ⟨rfl, rfl⟩
  go_wp2_with fail
  refine (ledger_take (D.page : Int) g w rl L hLH.out (by omega) (by omega) hroom).mono ?_
  rintro e w2 ⟨rfl, hL2, hs2, hsz2⟩
  have h2 := hH.out.step hs2 (by simp; exact hpl)
  have k2 : w2.cell? ⟨p, 2, none⟩ = some (.int .i64 t.count) := h2.cell rfl
  have hL2H := Lib.hid hL2
  have hs2H := Lib.hid hs2
  clear hL2 hs2 h2 c0 c2
  go_wp2_with fail
  go_ret
  have hS : Step [rl] g g w (w2.alloc (.cells (rdCells ⟨p, rl, 0, [], t.count, false, false⟩ (.slice none 0 0)) 82)) := hs2H.out.tail (.alloc _)
  refine ⟨w.heap.size, rfl, Nat.le_refl _, ⟨.slice none 0 0, ?_, hgH.out.2 _ (Nat.le_refl _), .inl ⟨rfl, rfl⟩, fun k hk => (by cases hk), fun e => (by cases e)⟩, hL2H.out.step (T := []) (.alloc _) (by simp), hS⟩
  rw [← hsz2]; exact heap_alloc_new w2 _

set_option maxRecDepth 100000 in
set_option maxHeartbeats 1000000 in
theorem rd_close (hd : DiskAt g w t.rd D) (hL : LedgerAt g w R.rl L) (ht : TpAt g w R.tp t) (h : RdAt g w p R) (hov : R.over = false) (hpd : p ≠ t.rd) (hpl : p ≠ R.rl) (hpt : p ≠ R.tp) (htl : R.tp ≠ R.rl) (hdl : t.rd ≠ R.rl) (hheld : (D.page : Int) ≤ L.held) :
    Calls Try.prog 19 #[.pointer (some ⟨p, 0, none⟩)] w fun e w' => e = .returned (.tuple #[]) ∧ LedgerAt g w' R.rl ⟨L.budget, L.held - D.page, L.high⟩ ∧ Step [R.rl, p] g g w w' := by
  obtain ⟨dv, h⟩ := h
  have c0 : w.cell? ⟨p, 0, none⟩ = some (.pointer (some ⟨R.tp, 0, none⟩)) := h.cell rfl
  have c1 : w.cell? ⟨p, 1, none⟩ = some (.pointer (some ⟨R.rl, 0, none⟩)) := h.cell rfl
  have c3 : w.cell? ⟨p, 3, none⟩ = some dv := h.cell rfl
  have c5 : w.cell? ⟨p, 5, none⟩ = some (.bool false) := by rw [← hov]; exact h.cell rfl
  have f0 := free_blk h.blk
  have hH := Lib.hid h
  have htH := Lib.hid ht
  have hdH := Lib.hid hd
  have hLH := Lib.hid hL
  have hovH := Lib.hid hov
  clear h ht hd hL hov
  go_enter Try.func19, Try.ntmps19
  go_wp2_with fail
  have hb2 : ((w.setCell ⟨p, 5, none⟩ (.bool true)).setCell ⟨p, 3, none⟩ (.slice none 0 0)).heap[p]? = some (.cells (rdCells { R with over := true, data := [] } (.slice none 0 0)) 82 (0, 0)) := set_blk (set_blk hH.out.blk 5 _) 3 _
  have hs2 : Step [p] g g w ((w.setCell ⟨p, 5, none⟩ (.bool true)).setCell ⟨p, 3, none⟩ (.slice none 0 0)) := (Step.set _ _ (by rw [hH.out.own]; simp)).tail (.set _ _ (by rw [hH.out.own]; simp))
  obtain ⟨w2, hw2⟩ : ∃ x, x = ((w.setCell ⟨p, 5, none⟩ (.bool true)).setCell ⟨p, 3, none⟩ (.slice none 0 0)) := ⟨_, rfl⟩
  rw [← hw2] at hb2 hs2 ⊢
  obtain ⟨tv, ht2⟩ := htH.out.step hs2 (by simp; exact fun e => hpt e.symm)
  have k0 : w2.cell? ⟨p, 0, none⟩ = some (.pointer (some ⟨R.tp, 0, none⟩)) := cell_blk hb2 rfl
  have k1 : w2.cell? ⟨p, 1, none⟩ = some (.pointer (some ⟨R.rl, 0, none⟩)) := cell_blk hb2 rfl
  have kt : w2.cell? ⟨R.tp, 0, none⟩ = some (.pointer (some ⟨t.rd, 0, none⟩)) := ht2.cell rfl
  have hb2H := Lib.hid hb2
  have hs2H := Lib.hid hs2
  have ht2H := Lib.hid ht2
  clear hb2 hs2 hw2 ht2 c0 c1 c3 c5 f0
  refine wp_region_held_drew (S := fun w' => w'.cell? ⟨p, 0, none⟩ = some (.pointer (some ⟨R.tp, 0, none⟩)) ∧ w'.cell? ⟨p, 1, none⟩ = some (.pointer (some ⟨R.rl, 0, none⟩)) ∧ w'.cell? ⟨R.tp, 0, none⟩ = some (.pointer (some ⟨t.rd, 0, none⟩))) (by kernel_rfl) ⟨k0, k1, kt⟩ (fun hHeld => ?_)
  refine wpAnyH_take (i := 0) (v := ?_) rfl (by kernel_rfl) (by kernel_rfl) (by kernel_rfl) (fun _ _ _ h => h) (Or.inl ⟨by kernel_rfl, ?_⟩) hHeld ?_
  rotate_left
  · intro w' hSw; (try dsimp only at hSw); go_simp
    all_goals (with_reducible rfl)
  simp only [Act.put, List.getElem_toArray, List.getElem_cons_zero, List.getElem_cons_succ, List.setIfInBounds_toArray, List.set_cons_zero, List.set_cons_succ]
  refine wpAnyH_take (i := 1) (v := ?_) rfl (by kernel_rfl) (by kernel_rfl) (by kernel_rfl) (fun _ _ _ h => h) (Or.inl ⟨by kernel_rfl, ?_⟩) hHeld ?_
  rotate_left
  · intro w' hSw; (try dsimp only at hSw); go_simp
    all_goals (with_reducible rfl)
  simp only [Act.put, List.getElem_toArray, List.getElem_cons_zero, List.getElem_cons_succ, List.setIfInBounds_toArray, List.set_cons_zero, List.set_cons_succ]
  refine wpAnyH_take (i := 2) (v := ?_) rfl (by kernel_rfl) (by kernel_rfl) (by kernel_rfl) (fun _ _ _ h => h) (Or.inl ⟨by kernel_rfl, ?_⟩) hHeld ?_
  rotate_left
  · intro w' hSw; (try dsimp only at hSw); go_simp
    all_goals (with_reducible rfl)
  simp only [Act.put, List.getElem_toArray, List.getElem_cons_zero, List.getElem_cons_succ, List.setIfInBounds_toArray, List.set_cons_zero, List.set_cons_succ]
  refine wpAnyH_take (i := 3) (v := ?_) rfl (by kernel_rfl) (by kernel_rfl) (by kernel_rfl) (fun _ _ _ h => h) (Or.inl ⟨by kernel_rfl, ?_⟩) hHeld ?_
  rotate_left
  · intro w' hSw; (try dsimp only at hSw); go_simp
    all_goals (with_reducible rfl)
  simp only [Act.put, List.getElem_toArray, List.getElem_cons_zero, List.getElem_cons_succ, List.setIfInBounds_toArray, List.set_cons_zero, List.set_cons_succ]
  refine wpAnyH_take (i := 4) (v := ?_) rfl (by kernel_rfl) (by kernel_rfl) (by kernel_rfl) (fun _ _ _ h => h) (Or.inl ⟨by kernel_rfl, ?_⟩) hHeld ?_
  rotate_left
  · intro w' hSw; (try dsimp only at hSw); go_simp
    all_goals (with_reducible rfl)
  simp only [Act.put, List.getElem_toArray, List.getElem_cons_zero, List.getElem_cons_succ, List.setIfInBounds_toArray, List.set_cons_zero, List.set_cons_succ]
  refine wpAnyH_take (i := 5) (v := ?_) rfl (by kernel_rfl) (by kernel_rfl) (by kernel_rfl) (fun _ _ _ h => h) (Or.inl ⟨by kernel_rfl, ?_⟩) hHeld ?_
  rotate_left
  · intro w' hSw; (try dsimp only at hSw); go_simp
    all_goals (with_reducible rfl)
  simp only [Act.put, List.getElem_toArray, List.getElem_cons_zero, List.getElem_cons_succ, List.setIfInBounds_toArray, List.set_cons_zero, List.set_cons_succ]
  refine wpAnyH_take (i := 6) (v := ?_) rfl (by kernel_rfl) (by kernel_rfl) (by kernel_rfl) (fun _ _ _ h => h) (Or.inl ⟨by kernel_rfl, ?_⟩) hHeld ?_
  rotate_left
  · intro w' hSw; (try dsimp only at hSw); go_simp
    all_goals (with_reducible rfl)
  simp only [Act.put, List.getElem_toArray, List.getElem_cons_zero, List.getElem_cons_succ, List.setIfInBounds_toArray, List.set_cons_zero, List.set_cons_succ]
  refine wpAnyH_take (i := 7) (v := ?_) rfl (by kernel_rfl) (by kernel_rfl) (by kernel_rfl) (fun _ _ _ h => h) (Or.inl ⟨by kernel_rfl, ?_⟩) hHeld ?_
  rotate_left
  · intro w' hSw; (try dsimp only at hSw); go_simp
    all_goals (with_reducible rfl)
  simp only [Act.put, List.getElem_toArray, List.getElem_cons_zero, List.getElem_cons_succ, List.setIfInBounds_toArray, List.set_cons_zero, List.set_cons_succ]
  refine wpAnyH_take (i := 8) (v := ?_) rfl (by kernel_rfl) (by kernel_rfl) (by kernel_rfl) (fun _ _ _ h => h) (Or.inl ⟨by kernel_rfl, ?_⟩) hHeld ?_
  rotate_left
  · intro w' hSw; (try dsimp only at hSw); go_simp
    all_goals (with_reducible rfl)
  simp only [Act.put, List.getElem_toArray, List.getElem_cons_zero, List.getElem_cons_succ, List.setIfInBounds_toArray, List.set_cons_zero, List.set_cons_succ]
  refine wpAnyH_take (i := 9) (v := ?_) rfl (by kernel_rfl) (by kernel_rfl) (by kernel_rfl) (fun _ _ _ h => h) (Or.inl ⟨by kernel_rfl, ?_⟩) hHeld ?_
  rotate_left
  · intro w' hSw; (try dsimp only at hSw); go_simp
    all_goals (with_reducible rfl)
  simp only [Act.put, List.getElem_toArray, List.getElem_cons_zero, List.getElem_cons_succ, List.setIfInBounds_toArray, List.set_cons_zero, List.set_cons_succ]
  refine wpAnyH_take (i := 10) (v := ?_) rfl (by kernel_rfl) (by kernel_rfl) (by kernel_rfl) (fun _ _ _ h => h) (Or.inl ⟨by kernel_rfl, ?_⟩) hHeld ?_
  rotate_left
  · intro w' hSw; (try dsimp only at hSw); go_simp
    all_goals (with_reducible rfl)
  simp only [Act.put, List.getElem_toArray, List.getElem_cons_zero, List.getElem_cons_succ, List.setIfInBounds_toArray, List.set_cons_zero, List.set_cons_succ]
  refine wpAnyH_ready (rs := [11]) (by kernel_rfl) (by simp) ?_
  refine AllReadyH.cons (o := _) rfl (fun K hK => ?_) AllReadyH.nil
  go_simp
  refine (disk_page ((hdH.out.step hs2H.out (by simp; exact fun e => hpd e.symm)).step (T := []) (g1 := g) (w1 := w2.drew) Step.drew (by simp))).mono ?_
  rintro e w' ⟨rfl, rfl⟩
  go_wp2_with fail
  refine hK.out _ _ ?_ (fun hHeld => ?_)
  · exact ⟨k0, k1, kt⟩
  clear hK K
  try simp only [Act.put, List.getElem_toArray, List.getElem_cons_zero, List.getElem_cons_succ, List.setIfInBounds_toArray, List.set_cons_zero, List.set_cons_succ]
  refine wpAnyH_ready (rs := [12]) (by kernel_rfl) (by simp) ?_
  refine AllReadyH.cons (o := _) rfl (fun K hK => ?_) AllReadyH.nil
  go_simp
  refine (ledger_give (D.page : Int) g w2.drew R.rl L ((hLH.out.step hs2H.out (by simp; exact fun e => hpl e.symm)).step (T := []) Step.drew (by simp)) (by omega) hheld).mono ?_
  rintro e w3 ⟨rfl, hL3, hs3, _⟩
  have hb3 : w3.heap[p]? = some (.cells (rdCells { R with over := true, data := [] } (.slice none 0 0)) 82 (0, 0)) := hs3.at (drew_blk hb2H.out) (by rw [hH.out.own]; simp; exact hpl)
  have ht3 := (ht2H.out.step (T := []) (g1 := g) (w1 := w2.drew) Step.drew (by simp)).step hs3 (by simp; exact htl)
  have m0 : w3.cell? ⟨p, 0, none⟩ = some (.pointer (some ⟨R.tp, 0, none⟩)) := cell_blk hb3 rfl
  have m1 : w3.cell? ⟨p, 1, none⟩ = some (.pointer (some ⟨R.rl, 0, none⟩)) := cell_blk hb3 rfl
  have mt : w3.cell? ⟨R.tp, 0, none⟩ = some (.pointer (some ⟨t.rd, 0, none⟩)) := ht3.cell rfl
  have hS : Step [R.rl, p] g g w w3 := ((hs2H.out.mono (by simp)).tail Step.drew).trans hs3 (by simp)
  have hL3H := Lib.hid hL3
  have hSH := Lib.hid hS
  clear hL3 hs3 hb3 ht3 hS
  go_wp2_with fail
  refine hK.out _ _ ?_ (fun hHeld => ?_)
  · exact ⟨m0, m1, mt⟩
  clear hK K
  try simp only [Act.put, List.getElem_toArray, List.getElem_cons_zero, List.getElem_cons_succ, List.setIfInBounds_toArray, List.set_cons_zero, List.set_cons_succ]
  refine wpAnyH_done (by kernel_rfl) ?_ _
  go_wp2_with fail
  go_end0
  exact ⟨rfl, hL3H.out, hSH.out⟩
end
end Go.Proofs.Ytlppoimdfclbaaa
