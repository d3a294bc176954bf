/- A Writer in memory; write. -/
import Derived.Test.YtlppoimdfclbaaaDisk6
import Derived.Test.YtlppoimdfclbaaaConcat
import Derived.Test.YtlppoimdfclbaaaSealD
import Derived.Test.YtlppoimdfclbaaaLedger
set_option linter.unusedVariables false
set_option linter.unusedSimpArgs false
namespace Go.Proofs.Ytlppoimdfclbaaa
open Go.RowKit

structure Wr where
  rd : Nat
  rl : Nat
  pages : List Int
  count : Int
  data : List UInt8
  over : Bool

def wrCells (W : Wr) (pv dv : Value) : Array Value :=
  #[.pointer (some ⟨W.rd, 0, none⟩), pv, .int .i64 W.count, .bool false, .pointer (some ⟨W.rl, 0, none⟩), dv, .bool W.over]

structure WrRaw (g : Nat → Nat) (w : World) (p : Nat) (W : Wr) (pv dv : Value) : Prop where
  blk : w.heap[p]? = some (.cells (wrCells W pv dv) 77 (0, 0))
  own : g p = p
  pages : IRow w pv W.pages
  data : Row w dv W.data
  ownp : ∀ k, pv.ownBlock = some k → g k = p
  ownd : ∀ k, dv.ownBlock = some k → g k = p
  short : W.pages.length ≤ 16384

def WrAt (g : Nat → Nat) (w : World) (p : Nat) (W : Wr) : Prop := ∃ pv dv, WrRaw g w p W pv dv

section
variable {T : List Nat} {g g1 : Nat → Nat} {w w1 : World} {p : Nat} {W : Wr} {pv dv : Value} {D : Dk}

theorem own_step {T : List Nat} {k r : Nat} (hs : Step T g g1 w w1) (hk : k < w.heap.size) (h : g k = r) (hr : r ∉ T) : g1 k = r := by
  rw [(hs.keep k hk (by rw [h]; exact hr)).1]; exact h
theorem WrRaw.step (h : WrRaw g w p W pv dv) (hs : Step T g g1 w w1) (hp : p ∉ T) : WrRaw g1 w1 p W pv dv where
  blk := hs.at h.blk (by rw [h.own]; exact hp)
  own := own_step hs (lt_of_block h.blk) h.own hp
  pages := h.pages.step hs (fun k hk => by rw [h.ownp k hk]; exact hp)
  data := h.data.step hs (fun k hk => by rw [h.ownd k hk]; exact hp)
  ownp := fun k hk => own_step hs (World.ownsRow.lt h.pages k hk).2 (h.ownp k hk) hp
  ownd := fun k hk => own_step hs (h.data.lt hk) (h.ownd k hk) hp
  short := h.short
theorem WrAt.step (h : WrAt g w p W) (hs : Step T g g1 w w1) (hp : p ∉ T) : WrAt g1 w1 p W := by
  obtain ⟨_, _, h⟩ := h; exact ⟨_, _, h.step hs hp⟩
theorem WrAt.lt (h : WrAt g w p W) : p < w.heap.size := by
  obtain ⟨_, _, h⟩ := h; exact lt_of_block h.blk
theorem WrAt.own (h : WrAt g w p W) : g p = p := by
  obtain ⟨_, _, h⟩ := h; exact h.own

/-- One cell of the Writer is set: not a slice's. -/
theorem WrRaw.set (h : WrRaw g w p W pv dv) {W' : Wr} {pv' dv' : Value} (i : Nat) (u : Value) (hc : (wrCells W pv dv).setIfInBounds i u = wrCells W' pv' dv')
    (hp : IRow w pv' W'.pages) (hd : Row w dv' W'.data) (ho1 : ∀ k, pv'.ownBlock = some k → g k = p) (ho2 : ∀ k, dv'.ownBlock = some k → g k = p) (hs : W'.pages.length ≤ 16384) :
    WrRaw g (w.setCell ⟨p, i, none⟩ u) p W' pv' dv' where
  blk := by rw [← hc]; exact set_blk h.blk i u
  own := h.own
  pages := ownsRow_setOther hp h.blk (by decide)
  data := ownsRow_setOther hd h.blk (by decide)
  ownp := ho1
  ownd := ho2
  short := hs
theorem WrRaw.cell (h : WrRaw g w p W pv dv) {i : Nat} {v : Value} (hi : (wrCells W pv dv)[i]? = some v) : w.cell? ⟨p, i, none⟩ = some v := cell_blk h.blk hi
theorem Row.form {v : Value} {l : List UInt8} (h : Row w v l) : ∃ ad n c, v = .slice ad n c := by
  rcases h.2 with ⟨rfl, _⟩ | ⟨_, _, _, rfl, _⟩
  · exact ⟨_, _, _, rfl⟩
  · exact ⟨_, _, _, rfl⟩
theorem Row.len {v : Value} {l : List UInt8} (h : Row w v l) : ∃ ad c, v = .slice ad l.length c := by
  rcases h.2 with ⟨rfl, hn⟩ | ⟨_, c, _, rfl, _⟩
  · exact ⟨none, 0, by rw [hn]⟩
  · exact ⟨_, c, rfl⟩

/-- write: the last page is sealed, its next told. -/
inductive WrWrite (D : Dk) (W : Wr) (n next : Int) : Ending → Dk → Wr → Prop where
  | io (h : D.clean = false) : WrWrite D W n next (.returned (.int .i64 16)) D { W with data := [] }
  | ok : WrWrite D W n next (.returned (.int .i64 0)) { D with pages := pset D.pages n (sealPage D.page next W.data), writes := wrap64 (D.writes + 1) } { W with data := [] }

set_option maxRecDepth 100000 in
set_option maxHeartbeats 2000000 in
theorem tape_write (hg : GWf g w) (hd : DiskAt g w W.rd D) (hw : WrAt g w p W) (hpd : p ≠ W.rd) (next : Int) (h0 : -1 ≤ next) (h1 : next < 16384) (ps : List Int) (n : Int) (hps : W.pages = ps ++ [n]) (pg : List UInt8) (hm : (n, pg) ∈ D.pages) (hdl : W.data.length ≤ D.page - 10) :
    Calls Try.prog 39 #[.pointer (some ⟨p, 0, none⟩), .int .i64 next] w fun e w' => ∃ g' D' W', WrWrite D W n next e D' W' ∧ DiskAt g' w' W.rd D' ∧ WrAt g' w' p W' ∧ Step [W.rd, p] g g' w w' := by
  obtain ⟨pv, dv, hw⟩ := hw
  obtain ⟨ad, n1, c1, rfl⟩ := hw.data.form
  have c0 : w.cell? ⟨p, 0, none⟩ = some (.pointer (some ⟨W.rd, 0, none⟩)) := hw.cell rfl
  have c5 : w.cell? ⟨p, 5, none⟩ = some (.slice ad n1 c1) := hw.cell rfl
  have hgH := Lib.hid hg; clear hg
  have hdH := Lib.hid hd; clear hd
  have hwH := Lib.hid hw; clear hw
  have hpsH := Lib.hid hps; clear hps
  have hplt := lt_of_block hwH.out.blk
  go_enter Try.func39, Try.ntmps39
  go_wp2_with fail
  refine wp_region_held_drew (S := fun w' => w'.cell? ⟨p, 0, none⟩ = some (.pointer (some ⟨W.rd, 0, none⟩)) ∧ w'.cell? ⟨p, 5, none⟩ = some (.slice ad n1 c1)) (by kernel_rfl) ⟨c0, c5⟩ (fun hHeld => ?_)
  refine wpAnyH_take (i := 0) (v := ?_) rfl (by kernel_rfl) (by kernel_rfl) (by kernel_rfl) (fun _ _ _ h => h) (Or.inl ⟨by kernel_rfl, ?_⟩) hHeld ?_
  rotate_left
  · intro w' hSw; (try dsimp only at hSw); go_simp
    all_goals (with_reducible rfl)
  simp only [Act.put, List.getElem_toArray, List.getElem_cons_zero, List.getElem_cons_succ, List.setIfInBounds_toArray, List.set_cons_zero, List.set_cons_succ]
  refine wpAnyH_take (i := 1) (v := ?_) rfl (by kernel_rfl) (by kernel_rfl) (by kernel_rfl) (fun _ _ _ h => h) (Or.inl ⟨by kernel_rfl, ?_⟩) hHeld ?_
  rotate_left
  · intro w' hSw; (try dsimp only at hSw); go_simp
    all_goals (with_reducible rfl)
  simp only [Act.put, List.getElem_toArray, List.getElem_cons_zero, List.getElem_cons_succ, List.setIfInBounds_toArray, List.set_cons_zero, List.set_cons_succ]
  refine wpAnyH_take (i := 2) (v := ?_) rfl (by kernel_rfl) (by kernel_rfl) (by kernel_rfl) (fun _ _ _ h => h) (Or.inl ⟨by kernel_rfl, ?_⟩) hHeld ?_
  rotate_left
  · intro w' hSw; (try dsimp only at hSw); go_simp
    all_goals (with_reducible rfl)
  simp only [Act.put, List.getElem_toArray, List.getElem_cons_zero, List.getElem_cons_succ, List.setIfInBounds_toArray, List.set_cons_zero, List.set_cons_succ]
  refine wpAnyH_take (i := 3) (v := ?_) rfl (by kernel_rfl) (by kernel_rfl) (by kernel_rfl) (fun _ _ _ h => h) (Or.inl ⟨by kernel_rfl, ?_⟩) hHeld ?_
  rotate_left
  · intro w' hSw; (try dsimp only at hSw); go_simp
    all_goals (with_reducible rfl)
  simp only [Act.put, List.getElem_toArray, List.getElem_cons_zero, List.getElem_cons_succ, List.setIfInBounds_toArray, List.set_cons_zero, List.set_cons_succ]
  refine wpAnyH_take (i := 4) (v := ?_) rfl (by kernel_rfl) (by kernel_rfl) (by kernel_rfl) (fun _ _ _ h => h) (Or.inl ⟨by kernel_rfl, ?_⟩) hHeld ?_
  rotate_left
  · intro w' hSw; (try dsimp only at hSw); go_simp
    all_goals (with_reducible rfl)
  simp only [Act.put, List.getElem_toArray, List.getElem_cons_zero, List.getElem_cons_succ, List.setIfInBounds_toArray, List.set_cons_zero, List.set_cons_succ]
  refine wpAnyH_take (i := 6) (v := ?_) rfl (by kernel_rfl) (by kernel_rfl) (by kernel_rfl) (fun _ _ _ h => h) (Or.inl ⟨by kernel_rfl, ?_⟩) hHeld ?_
  rotate_left
  · intro w' hSw; (try dsimp only at hSw); go_simp
    all_goals (with_reducible rfl)
  simp only [Act.put, List.getElem_toArray, List.getElem_cons_zero, List.getElem_cons_succ, List.setIfInBounds_toArray, List.set_cons_zero, List.set_cons_succ]
  refine wpAnyH_take (i := 7) (v := ?_) rfl (by kernel_rfl) (by kernel_rfl) (by kernel_rfl) (fun _ _ _ h => h) (Or.inl ⟨by kernel_rfl, ?_⟩) hHeld ?_
  rotate_left
  · intro w' hSw; (try dsimp only at hSw); go_simp
    all_goals (with_reducible rfl)
  simp only [Act.put, List.getElem_toArray, List.getElem_cons_zero, List.getElem_cons_succ, List.setIfInBounds_toArray, List.set_cons_zero, List.set_cons_succ]
  refine wpAnyH_take (i := 8) (v := ?_) rfl (by kernel_rfl) (by kernel_rfl) (by kernel_rfl) (fun _ _ _ h => h) (Or.inl ⟨by kernel_rfl, ?_⟩) hHeld ?_
  rotate_left
  · intro w' hSw; (try dsimp only at hSw); go_simp
    all_goals (with_reducible rfl)
  simp only [Act.put, List.getElem_toArray, List.getElem_cons_zero, List.getElem_cons_succ, List.setIfInBounds_toArray, List.set_cons_zero, List.set_cons_succ]
  refine wpAnyH_take (i := 9) (v := ?_) rfl (by kernel_rfl) (by kernel_rfl) (by kernel_rfl) (fun _ _ _ h => h) (Or.inl ⟨by kernel_rfl, ?_⟩) hHeld ?_
  rotate_left
  · intro w' hSw; (try dsimp only at hSw); go_simp
    all_goals (with_reducible rfl)
  simp only [Act.put, List.getElem_toArray, List.getElem_cons_zero, List.getElem_cons_succ, List.setIfInBounds_toArray, List.set_cons_zero, List.set_cons_succ]
  refine wpAnyH_take (i := 10) (v := ?_) rfl (by kernel_rfl) (by kernel_rfl) (by kernel_rfl) (fun _ _ _ h => h) (Or.inl ⟨by kernel_rfl, ?_⟩) hHeld ?_
  rotate_left
  · intro w' hSw; (try dsimp only at hSw); go_simp
    all_goals (with_reducible rfl)
  simp only [Act.put, List.getElem_toArray, List.getElem_cons_zero, List.getElem_cons_succ, List.setIfInBounds_toArray, List.set_cons_zero, List.set_cons_succ]
  refine wpAnyH_ready (rs := [5]) (by kernel_rfl) (by simp) ?_
  refine AllReadyH.cons (o := _) rfl (fun K hK => ?_) AllReadyH.nil
  go_simp
  refine (disk_page (hdH.out.step (T := []) (g1 := g) (w1 := w.drew) Step.drew (by simp))).mono ?_
  rintro e w' ⟨rfl, rfl⟩
  go_wp2_with fail
  refine hK.out _ _ ?_ (fun hHeld => ?_)
  · exact ⟨c0, c5⟩
  clear hK K
  try simp only [Act.put, List.getElem_toArray, List.getElem_cons_zero, List.getElem_cons_succ, List.setIfInBounds_toArray, List.set_cons_zero, List.set_cons_succ]
  refine wpAnyH_ready (rs := [11]) (by kernel_rfl) (by simp) ?_
  refine AllReadyH.cons (o := _) rfl (fun K hK => ?_) AllReadyH.nil
  go_simp
  refine (seal_close D.page next W.data (.slice ad n1 c1) w.drew hdH.out.valid h0 h1 hdl hwH.out.data.bytes n1 c1 ad rfl).mono ?_
  rintro e w2 ⟨rfl, hb2, hg2, hsz2⟩
  have hg2' : w.grownBy w2 none := (grown_drew w none).trans hg2
  have k0 : w2.cell? ⟨p, 0, none⟩ = some (.pointer (some ⟨W.rd, 0, none⟩)) := (World.cell?_of_block (hg2'.block p hplt (by simp))).trans c0
  have k5 : w2.cell? ⟨p, 5, none⟩ = some (.slice ad n1 c1) := (World.cell?_of_block (hg2'.block p hplt (by simp))).trans c5
  have hb2H := Lib.hid hb2
  have hg2H := Lib.hid hg2'
  have hsz2H := Lib.hid hsz2
  clear hb2 hg2 hg2' hsz2
  go_wp2_with fail
  refine hK.out _ _ ?_ (fun hHeld => ?_)
  · exact ⟨k0, k5⟩
  clear hK K
  try simp only [Act.put, List.getElem_toArray, List.getElem_cons_zero, List.getElem_cons_succ, List.setIfInBounds_toArray, List.set_cons_zero, List.set_cons_succ]
  refine wpAnyH_take (i := 12) (v := ?_) rfl (by kernel_rfl) (by kernel_rfl) (by kernel_rfl) (fun _ _ _ h => h) (Or.inl ⟨by kernel_rfl, ?_⟩) hHeld ?_
  rotate_left
  · intro w' hSw; (try dsimp only at hSw); go_simp
    all_goals (with_reducible rfl)
  simp only [Act.put, List.getElem_toArray, List.getElem_cons_zero, List.getElem_cons_succ, List.setIfInBounds_toArray, List.set_cons_zero, List.set_cons_succ]
  refine wpAnyH_take (i := 13) (v := ?_) rfl (by kernel_rfl) (by kernel_rfl) (by kernel_rfl) (fun _ _ _ h => h) (Or.inl ⟨by kernel_rfl, ?_⟩) hHeld ?_
  rotate_left
  · intro w' hSw; (try dsimp only at hSw); go_simp
    all_goals (with_reducible rfl)
  simp only [Act.put, List.getElem_toArray, List.getElem_cons_zero, List.getElem_cons_succ, List.setIfInBounds_toArray, List.set_cons_zero, List.set_cons_succ]
  refine wpAnyH_take (i := 14) (v := ?_) rfl (by kernel_rfl) (by kernel_rfl) (by kernel_rfl) (fun _ _ _ h => h) (Or.inl ⟨by kernel_rfl, ?_⟩) hHeld ?_
  rotate_left
  · intro w' hSw; (try dsimp only at hSw); go_simp
    all_goals (with_reducible rfl)
  simp only [Act.put, List.getElem_toArray, List.getElem_cons_zero, List.getElem_cons_succ, List.setIfInBounds_toArray, List.set_cons_zero, List.set_cons_succ]
  refine wpAnyH_take (i := 15) (v := ?_) rfl (by kernel_rfl) (by kernel_rfl) (by kernel_rfl) (fun _ _ _ h => h) (Or.inl ⟨by kernel_rfl, ?_⟩) hHeld ?_
  rotate_left
  · intro w' hSw; (try dsimp only at hSw); go_simp
    all_goals (with_reducible rfl)
  simp only [Act.put, List.getElem_toArray, List.getElem_cons_zero, List.getElem_cons_succ, List.setIfInBounds_toArray, List.set_cons_zero, List.set_cons_succ]
  refine wpAnyH_take (i := 16) (v := ?_) rfl (by kernel_rfl) (by kernel_rfl) (by kernel_rfl) (fun _ _ _ h => h) (Or.inl ⟨by kernel_rfl, ?_⟩) hHeld ?_
  rotate_left
  · intro w' hSw; (try dsimp only at hSw); go_simp
    all_goals (with_reducible rfl)
  simp only [Act.put, List.getElem_toArray, List.getElem_cons_zero, List.getElem_cons_succ, List.setIfInBounds_toArray, List.set_cons_zero, List.set_cons_succ]
  refine wpAnyH_done (by kernel_rfl) ?_ _
  have hs2 : Step [] g g w w2 := .grown hg2H.out (fun _ h => by cases h)
  have hw2 := hwH.out.step hs2 (by simp)
  have hd2 := hdH.out.step hs2 (by simp)
  have f2 := free_blk hw2.blk
  have hw3 := hw2.set (W' := { W with data := [] }) (pv' := pv) (dv' := .slice none 0 0) 5 (.slice none 0 0) rfl hw2.pages (Row.nil _) hw2.ownp (fun k hk => by cases hk) hw2.short
  have hw2H := Lib.hid hw2
  have hw3H := Lib.hid hw3
  have hd2H := Lib.hid hd2
  have hs2H := Lib.hid hs2
  clear hw2 hw3 hd2 hs2 c0 c5
  obtain ⟨gb, cap, hpv⟩ := hwH.out.pages.form (by rw [hpsH.out]; simp)
  subst hpv
  have hlen : W.pages.length = ps.length + 1 := by rw [hpsH.out]; simp
  have hcell : w2.cell? ⟨gb, ps.length, none⟩ = some (.int .i64 n) := by
    have h := hw2H.out.pages.cell (i := ps.length) (by omega)
    rw [h]; simp [hpsH.out]
  have hgb : gb ≠ p := fun e => ownsRow_ne hw2H.out.pages (k := gb) rfl hw2H.out.blk (by decide) e
  have kp1 : w2.cell? ⟨p, 1, none⟩ = some (.slice (some ⟨gb, 0, none⟩) (ps.length + 1) cap) := by rw [← hlen]; exact hw2H.out.cell rfl
  have kp0 : w2.cell? ⟨p, 0, none⟩ = some (.pointer (some ⟨W.rd, 0, none⟩)) := k0
  have hsh := hwH.out.short
  have hps1 : ps.length ≤ 16384 := by omega
  have i1 : (0 : Int) ≤ (ps.length : Int) := by omega
  have i2 : (ps.length : Int) < (ps.length : Int) + 1 := by omega
  have hplt2 : p < w2.heap.size := lt_of_block hw2H.out.blk
  have hwr : IntKind.i64.wrap (ps.length : Int) = (ps.length : Int) := IntWalk.i64_in _ (by omega)
  clear hlen
  go_wp2_with fail
  have m0 : (w2.setCell ⟨p, 5, none⟩ (.slice none 0 0)).cell? ⟨p, 0, none⟩ = some (.pointer (some ⟨W.rd, 0, none⟩)) := by rw [World.cell?_setCell_other _ _ _ _ (by simp)]; exact k0
  have m1 : (w2.setCell ⟨p, 5, none⟩ (.slice none 0 0)).cell? ⟨p, 1, none⟩ = some (.slice (some ⟨gb, 0, none⟩) (ps.length + 1) cap) := by rw [World.cell?_setCell_other _ _ _ _ (by simp)]; exact kp1
  have m2 : (w2.setCell ⟨p, 5, none⟩ (.slice none 0 0)).cell? ⟨gb, ps.length, none⟩ = some (.int .i64 n) := by rw [World.cell?_setCell_other _ _ _ _ (fun e => hgb (congrArg Addr.block e).symm)]; exact hcell
  refine wp_region_held_drew (S := fun w' => w'.cell? ⟨p, 0, none⟩ = some (.pointer (some ⟨W.rd, 0, none⟩)) ∧ w'.cell? ⟨p, 1, none⟩ = some (.slice (some ⟨gb, 0, none⟩) (ps.length + 1) cap) ∧ w'.cell? ⟨gb, ps.length, none⟩ = some (.int .i64 n)) (by kernel_rfl) ⟨m0, m1, m2⟩ (fun hHeld => ?_)
  refine wpAnyH_take (i := 0) (v := ?_) rfl (by kernel_rfl) (by kernel_rfl) (by kernel_rfl) (fun _ _ _ h => h) (Or.inl ⟨by kernel_rfl, ?_⟩) hHeld ?_
  rotate_left
  · intro w' hSw; (try dsimp only at hSw); go_simp
    all_goals (with_reducible rfl)
  simp only [Act.put, List.getElem_toArray, List.getElem_cons_zero, List.getElem_cons_succ, List.setIfInBounds_toArray, List.set_cons_zero, List.set_cons_succ]
  refine wpAnyH_take (i := 1) (v := ?_) rfl (by kernel_rfl) (by kernel_rfl) (by kernel_rfl) (fun _ _ _ h => h) (Or.inl ⟨by kernel_rfl, ?_⟩) hHeld ?_
  rotate_left
  · intro w' hSw; (try dsimp only at hSw); go_simp
    all_goals (with_reducible rfl)
  simp only [Act.put, List.getElem_toArray, List.getElem_cons_zero, List.getElem_cons_succ, List.setIfInBounds_toArray, List.set_cons_zero, List.set_cons_succ]
  refine wpAnyH_take (i := 2) (v := ?_) rfl (by kernel_rfl) (by kernel_rfl) (by kernel_rfl) (fun _ _ _ h => h) (Or.inl ⟨by kernel_rfl, ?_⟩) hHeld ?_
  rotate_left
  · intro w' hSw; (try dsimp only at hSw); go_simp
    all_goals (with_reducible rfl)
  simp only [Act.put, List.getElem_toArray, List.getElem_cons_zero, List.getElem_cons_succ, List.setIfInBounds_toArray, List.set_cons_zero, List.set_cons_succ]
  refine wpAnyH_take (i := 3) (v := ?_) rfl (by kernel_rfl) (by kernel_rfl) (by kernel_rfl) (fun _ _ _ h => h) (Or.inl ⟨by kernel_rfl, ?_⟩) hHeld ?_
  rotate_left
  · intro w' hSw; (try dsimp only at hSw); go_simp
    all_goals (with_reducible rfl)
  simp only [Act.put, List.getElem_toArray, List.getElem_cons_zero, List.getElem_cons_succ, List.setIfInBounds_toArray, List.set_cons_zero, List.set_cons_succ]
  refine wpAnyH_take (i := 4) (v := ?_) rfl (by kernel_rfl) (by kernel_rfl) (by kernel_rfl) (fun _ _ _ h => h) (Or.inl ⟨by kernel_rfl, ?_⟩) hHeld ?_
  rotate_left
  · intro w' hSw; (try dsimp only at hSw); go_simp
    all_goals (with_reducible rfl)
  simp only [Act.put, List.getElem_toArray, List.getElem_cons_zero, List.getElem_cons_succ, List.setIfInBounds_toArray, List.set_cons_zero, List.set_cons_succ]
  refine wpAnyH_take (i := 5) (v := ?_) rfl (by kernel_rfl) (by kernel_rfl) (by kernel_rfl) (fun _ _ _ h => h) (Or.inl ⟨by kernel_rfl, ?_⟩) hHeld ?_
  rotate_left
  · intro w' hSw; (try dsimp only at hSw); go_simp
    all_goals (with_reducible rfl)
  simp only [Act.put, List.getElem_toArray, List.getElem_cons_zero, List.getElem_cons_succ, List.setIfInBounds_toArray, List.set_cons_zero, List.set_cons_succ]
  refine wpAnyH_take (i := 6) (v := ?_) rfl (by kernel_rfl) (by kernel_rfl) (by kernel_rfl) (fun _ _ _ h => h) (Or.inl ⟨by kernel_rfl, ?_⟩) hHeld ?_
  rotate_left
  · intro w' hSw; (try dsimp only at hSw); go_simp
    all_goals (with_reducible rfl)
  simp only [Act.put, List.getElem_toArray, List.getElem_cons_zero, List.getElem_cons_succ, List.setIfInBounds_toArray, List.set_cons_zero, List.set_cons_succ]
  refine wpAnyH_take (i := 7) (v := ?_) rfl (by kernel_rfl) (by kernel_rfl) (by kernel_rfl) (fun _ _ _ h => h) (Or.inl ⟨by kernel_rfl, ?_⟩) hHeld ?_
  rotate_left
  · intro w' hSw; (try dsimp only at hSw); go_simp
    all_goals (with_reducible rfl)
  simp only [Act.put, List.getElem_toArray, List.getElem_cons_zero, List.getElem_cons_succ, List.setIfInBounds_toArray, List.set_cons_zero, List.set_cons_succ]
  refine wpAnyH_take (i := 8) (v := ?_) rfl (by kernel_rfl) (by kernel_rfl) (by kernel_rfl) (fun _ _ _ h => h) (Or.inl ⟨by kernel_rfl, ?_⟩) hHeld ?_
  rotate_left
  · intro w' hSw; (try dsimp only at hSw); go_simp
    all_goals (with_reducible rfl)
  simp only [Act.put, List.getElem_toArray, List.getElem_cons_zero, List.getElem_cons_succ, List.setIfInBounds_toArray, List.set_cons_zero, List.set_cons_succ]
  refine wpAnyH_take (i := 9) (v := ?_) rfl (by kernel_rfl) (by kernel_rfl) (by kernel_rfl) (fun _ _ _ h => h) (Or.inl ⟨by kernel_rfl, ?_⟩) hHeld ?_
  rotate_left
  · intro w' hSw; (try dsimp only at hSw); go_simp
    all_goals (with_reducible rfl)
  simp only [Act.put, List.getElem_toArray, List.getElem_cons_zero, List.getElem_cons_succ, List.setIfInBounds_toArray, List.set_cons_zero, List.set_cons_succ]
  refine wpAnyH_take (i := 10) (v := ?_) rfl (by kernel_rfl) (by kernel_rfl) (by kernel_rfl) (fun _ _ _ h => h) (Or.inl ⟨by kernel_rfl, ?_⟩) hHeld ?_
  rotate_left
  · intro w' hSw; (try dsimp only at hSw); go_simp
    all_goals (with_reducible rfl)
  simp only [Act.put, List.getElem_toArray, List.getElem_cons_zero, List.getElem_cons_succ, List.setIfInBounds_toArray, List.set_cons_zero, List.set_cons_succ]
  refine wpAnyH_take (i := 11) (v := ?_) rfl (by kernel_rfl) (by kernel_rfl) (by kernel_rfl) (fun _ _ _ h => h) (Or.inl ⟨by kernel_rfl, ?_⟩) hHeld ?_
  rotate_left
  · intro w' hSw; (try dsimp only at hSw); go_simp
    all_goals (with_reducible rfl)
  simp only [Act.put, List.getElem_toArray, List.getElem_cons_zero, List.getElem_cons_succ, List.setIfInBounds_toArray, List.set_cons_zero, List.set_cons_succ]
  refine wpAnyH_take (i := 12) (v := ?_) rfl (by kernel_rfl) (by kernel_rfl) (by kernel_rfl) (fun _ _ _ h => h) (Or.inl ⟨by kernel_rfl, ?_⟩) hHeld ?_
  rotate_left
  · intro w' hSw; (try dsimp only at hSw); go_simp
    all_goals (with_reducible rfl)
  simp only [Act.put, List.getElem_toArray, List.getElem_cons_zero, List.getElem_cons_succ, List.setIfInBounds_toArray, List.set_cons_zero, List.set_cons_succ]
  refine wpAnyH_take (i := 13) (v := ?_) rfl (by kernel_rfl) (by kernel_rfl) (by kernel_rfl) (fun _ _ _ h => h) (Or.inl ⟨by kernel_rfl, ?_⟩) hHeld ?_
  rotate_left
  · intro w' hSw; (try dsimp only at hSw); go_simp
    all_goals (with_reducible rfl)
  simp only [Act.put, List.getElem_toArray, List.getElem_cons_zero, List.getElem_cons_succ, List.setIfInBounds_toArray, List.set_cons_zero, List.set_cons_succ]
  refine wpAnyH_take (i := 14) (v := ?_) rfl (by kernel_rfl) (by kernel_rfl) (by kernel_rfl) (fun _ _ _ h => h) (Or.inl ⟨by kernel_rfl, ?_⟩) hHeld ?_
  rotate_left
  · intro w' hSw; (try dsimp only at hSw); go_simp
    all_goals (with_reducible rfl)
  simp only [Act.put, List.getElem_toArray, List.getElem_cons_zero, List.getElem_cons_succ, List.setIfInBounds_toArray, List.set_cons_zero, List.set_cons_succ]
  refine wpAnyH_take (i := 15) (v := ?_) rfl (by kernel_rfl) (by kernel_rfl) (by kernel_rfl) (fun _ _ _ h => h) (Or.inl ⟨by kernel_rfl, ?_⟩) hHeld ?_
  rotate_left
  · intro w' hSw; (try dsimp only at hSw); go_simp
    all_goals (with_reducible rfl)
  simp only [Act.put, List.getElem_toArray, List.getElem_cons_zero, List.getElem_cons_succ, List.setIfInBounds_toArray, List.set_cons_zero, List.set_cons_succ]
  refine wpAnyH_take (i := 16) (v := ?_) rfl (by kernel_rfl) (by kernel_rfl) (by kernel_rfl) (fun _ _ _ h => h) (Or.inl ⟨by kernel_rfl, ?_⟩) hHeld ?_
  rotate_left
  · intro w' hSw; (try dsimp only at hSw); go_simp
    all_goals (with_reducible rfl)
  simp only [Act.put, List.getElem_toArray, List.getElem_cons_zero, List.getElem_cons_succ, List.setIfInBounds_toArray, List.set_cons_zero, List.set_cons_succ]
  refine wpAnyH_take (i := 17) (v := ?_) rfl (by kernel_rfl) (by kernel_rfl) (by kernel_rfl) (fun _ _ _ h => h) (Or.inl ⟨by kernel_rfl, ?_⟩) hHeld ?_
  rotate_left
  · intro w' hSw; (try dsimp only at hSw); go_simp
    all_goals (with_reducible rfl)
  simp only [Act.put, List.getElem_toArray, List.getElem_cons_zero, List.getElem_cons_succ, List.setIfInBounds_toArray, List.set_cons_zero, List.set_cons_succ]
  refine wpAnyH_take (i := 18) (v := ?_) rfl (by kernel_rfl) (by kernel_rfl) (by kernel_rfl) (fun _ _ _ h => h) (Or.inl ⟨by kernel_rfl, ?_⟩) hHeld ?_
  rotate_left
  · intro w' hSw; (try dsimp only at hSw); go_simp
    all_goals (with_reducible rfl)
  simp only [Act.put, List.getElem_toArray, List.getElem_cons_zero, List.getElem_cons_succ, List.setIfInBounds_toArray, List.set_cons_zero, List.set_cons_succ]
  refine wpAnyH_take (i := 19) (v := ?_) rfl (by kernel_rfl) (by kernel_rfl) (by kernel_rfl) (fun _ _ _ h => h) (Or.inl ⟨by kernel_rfl, ?_⟩) hHeld ?_
  rotate_left
  · intro w' hSw; (try dsimp only at hSw); go_simp
    all_goals (with_reducible rfl)
  simp only [Act.put, List.getElem_toArray, List.getElem_cons_zero, List.getElem_cons_succ, List.setIfInBounds_toArray, List.set_cons_zero, List.set_cons_succ]
  refine wpAnyH_ready (rs := [20]) (by kernel_rfl) (by simp) ?_
  refine AllReadyH.cons (o := _) rfl (fun K hK => ?_) AllReadyH.nil
  go_simp
  have hst3 : Step [p] g g w2 (w2.setCell ⟨p, 5, none⟩ (.slice none 0 0)).drew := (Step.set _ _ (by rw [hwH.out.own]; exact List.mem_singleton.2 rfl)).tail Step.drew
  have hst0 : Step [p] g g w (w2.setCell ⟨p, 5, none⟩ (.slice none 0 0)).drew := (hs2H.out.mono (fun _ h => by cases h)).tail hst3
  have hrowp : Bytes w2 (.slice (some ⟨w.heap.size, 0, none⟩) D.page D.page) (sealPage D.page next W.data) := by
    have h := (Blk.row hb2H.out (by rw [sealPage_length hdH.out.valid.lo hdl]; have := hdH.out.valid.hi; unfold maxLen; omega)).bytes
    rw [sealPage_length hdH.out.valid.lo hdl] at h
    exact h
  refine (disk_write' (hd2H.out.step hst3 (by simp; exact fun e => hpd e.symm)) (hst0.wf hgH.out) n pg (sealPage D.page next W.data) D.page (sealPage_length hdH.out.valid.lo hdl) hm w.heap.size 0 D.page (hrowp.step hst3 (fun k hk => by cases hk; rw [hgH.out.2 _ (Nat.le_refl _)]; simp; omega)) rfl (by rw [hgH.out.2 _ (Nat.le_refl _)]; have := hdH.out.lt; omega)).mono ?_
  rintro e w4 ⟨g4, D4, hout, hd4, hs4⟩
  have hw4 := (hw3H.out.step (T := []) (g1 := g) (w1 := (w2.setCell ⟨p, 5, none⟩ (.slice none 0 0)).drew) Step.drew (by simp)).step hs4 (by simp; exact hpd)
  have q0 : w4.cell? ⟨p, 0, none⟩ = some (.pointer (some ⟨W.rd, 0, none⟩)) := hw4.cell rfl
  have q1 : w4.cell? ⟨p, 1, none⟩ = some (.slice (some ⟨gb, 0, none⟩) (ps.length + 1) cap) := by
    have hlen : W.pages.length = ps.length + 1 := by rw [hpsH.out]; simp
    rw [← hlen]; exact hw4.cell rfl
  have q2 : w4.cell? ⟨gb, ps.length, none⟩ = some (.int .i64 n) := by
    have hlen : W.pages.length = ps.length + 1 := by rw [hpsH.out]; simp
    have h := hw4.pages.cell (i := ps.length) (by show ps.length < W.pages.length; omega)
    rw [h]; simp [hpsH.out]
  have hS : Step [W.rd, p] g g4 w w4 := (hst0.mono (fun r hr => by rw [List.mem_singleton.1 hr]; simp)).trans hs4 (fun r hr => by rw [List.mem_singleton.1 hr]; simp)
  have hw4H := Lib.hid hw4
  have hd4H := Lib.hid hd4
  have hSH := Lib.hid hS
  clear hst3 hst0 hrowp hs4 hw4 hd4 hS
  have hfin : ∃ W4, WrWrite D W n next e D4 W4 ∧ WrAt g4 w4 p W4 := by
    cases hout with
    | io h => exact ⟨_, .io h, _, _, hw4H.out⟩
    | ok => exact ⟨_, .ok, _, _, hw4H.out⟩
  obtain ⟨W4, hout4, hwat4⟩ := hfin
  have hwat4H := Lib.hid hwat4
  clear hwat4
  cases hout
  all_goals
    go_wp2_with fail
    refine hK.out _ _ ?_ (fun hHeld => ?_)
    · exact ⟨q0, q1, q2⟩
    clear hK K
    try simp only [Act.put, List.getElem_toArray, List.getElem_cons_zero, List.getElem_cons_succ, List.setIfInBounds_toArray, List.set_cons_zero, List.set_cons_succ]
    refine wpAnyH_take (i := 21) (v := ?_) rfl (by kernel_rfl) (by kernel_rfl) (by kernel_rfl) (fun _ _ _ h => h) (Or.inl ⟨by kernel_rfl, ?_⟩) hHeld ?_
    rotate_left
    · intro w' hSw; (try dsimp only at hSw); go_simp
      all_goals (with_reducible rfl)
    simp only [Act.put, List.getElem_toArray, List.getElem_cons_zero, List.getElem_cons_succ, List.setIfInBounds_toArray, List.set_cons_zero, List.set_cons_succ]
    refine wpAnyH_done (by kernel_rfl) ?_ _
    go_wp2_with fail
    go_ret
    exact ⟨g4, _, W4, hout4, hd4H.out, hwat4H.out, hSH.out⟩
end
end Go.Proofs.Ytlppoimdfclbaaa
