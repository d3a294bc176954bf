/- A Writer: more. -/
import Derived.Test.YtlppoimdfclbaaaTape1
set_option linter.unusedVariables false
set_option linter.unusedSimpArgs false
namespace Go.Proofs.Ytlppoimdfclbaaa
open Go.RowKit

section
variable {T : List Nat} {g g1 : Nat → Nat} {w w1 : World} {p : Nat} {W : Wr} {pv dv : Value} {D : Dk}

/-- A fresh page, and what was to be written of the one ahead of it. -/
inductive WrMore (D : Dk) (W : Wr) : Ending → Dk → Wr → Prop where
  | full (h : D.clean = true → D.most ≤ D.pages.length) : WrMore D W (.returned (.int .i64 17)) D W
  | first (n : Int) (h0 : 0 ≤ n) (h1 : n < D.most) (hn : ∀ t ∈ D.pages, t.1 ≠ n) (hl : D.pages.length < D.most) (hp : W.pages = []) :
      WrMore D W (.returned (.int .i64 0)) { D with pages := D.pages ++ [(n, List.replicate D.page 0)] } { W with pages := [n] }
  | next (n m : Int) (ps : List Int) (h0 : 0 ≤ n) (h1 : n < D.most) (hn : ∀ t ∈ D.pages, t.1 ≠ n) (hl : D.pages.length < D.most) (hp : W.pages = ps ++ [m]) {e : Ending} {D' : Dk} {W' : Wr}
      (hw : WrWrite { D with pages := D.pages ++ [(n, List.replicate D.page 0)] } W m n e D' W') : WrMore D W e D' { W' with pages := W.pages ++ [n] }

/-- A page's number is put behind those of a Writer. -/
theorem IRow.src1 (w : World) (n : Int) : Src (w.alloc (.cells #[.int .i64 n] 3)) 1 (.slice (some ⟨w.heap.size, 0, none⟩) 1 1) 1 [.int .i64 n] :=
  ⟨rfl, .inr ⟨_, _, rfl, cell_one_new _ _ _⟩⟩

theorem WrRaw.appended (h : WrRaw g w p W pv dv) {o : Obj} (hgr : (w.alloc o).grownBy w1 pv.ownBlock) : w1.heap[p]? = some (.cells (wrCells W pv dv) 77 (0, 0)) := by
  have hgw : w.grownBy w1 pv.ownBlock := (World.grownBy_alloc w _ _).trans hgr
  rw [hgw.block p (lt_of_block h.blk) (fun e => ownsRow_ne h.pages e.symm h.blk (by decide) rfl)]; exact h.blk

theorem WrRaw.append (h : WrRaw g w p W pv dv) {n : Int} {w1 : World} {ad' : Option Addr} {c' : Nat} (hl : W.pages.length + 1 ≤ 16384)
    (hown : w1.ownsRow 0 3 1 (.slice ad' (W.pages.length + 1) c') (W.pages.length + 1) (intVals W.pages ++ [.int .i64 n])) (hgr : (w.alloc (.cells #[.int .i64 n] 3)).grownBy w1 pv.ownBlock)
    (hat : (Value.slice ad' (W.pages.length + 1) c').ownBlock = pv.ownBlock ∨ (Value.slice ad' (W.pages.length + 1) c').ownBlock = some (w.alloc (.cells #[.int .i64 n] 3)).heap.size) :
    WrRaw (giveTo g (.slice ad' (W.pages.length + 1) c') p) (w1.setCell ⟨p, 1, none⟩ (.slice ad' (W.pages.length + 1) c')) p { W with pages := W.pages ++ [n] } (.slice ad' (W.pages.length + 1) c') dv ∧
      Step [p] g (giveTo g (.slice ad' (W.pages.length + 1) c') p) w (w1.setCell ⟨p, 1, none⟩ (.slice ad' (W.pages.length + 1) c')) := by
  have hgw : w.grownBy w1 pv.ownBlock := (World.grownBy_alloc w _ _).trans hgr
  have hs1 : Step [p] g g w w1 := .grown hgw (fun k hk => by rw [h.ownp k hk]; exact List.mem_singleton.2 rfl)
  have hpne : some p ≠ pv.ownBlock := fun e => ownsRow_ne h.pages e.symm h.blk (by decide) rfl
  have hb1 : w1.heap[p]? = some (.cells (wrCells W pv dv) 77 (0, 0)) := by rw [hgw.block p (lt_of_block h.blk) hpne]; exact h.blk
  have hd1 : Row w1 dv W.data := h.data.kept hgw (by
    cases hb : dv.ownBlock with
    | none => exact .inl rfl
    | some k =>
      right
      intro e
      rcases h.pages.2 with ⟨rfl, _⟩ | ⟨gb, cap, cur, rfl, _, hg, _⟩
      · cases e
      · exact ownsRow_ne h.data (k := k) hb hg (by decide) (by cases e; rfl))
  have hrow : IRow w1 (.slice ad' (W.pages.length + 1) c') (W.pages ++ [n]) := by unfold IRow; simpa [intVals] using hown
  have hs2 : Step [p] g g w (w1.setCell ⟨p, 1, none⟩ (.slice ad' (W.pages.length + 1) c')) := hs1.tail (.set _ _ (by rw [h.own]; exact List.mem_singleton.2 rfl))
  refine ⟨⟨?_, giveTo_keep h.own, ownsRow_setOther hrow hb1 (by decide), ownsRow_setOther hd1 hb1 (by decide), fun k hk => giveTo_same hk, fun k hk => giveTo_keep (h.ownd k hk), by simpa using hl⟩, hs2.giveTo (fun k hk => ⟨?_, ?_⟩) (Nat.lt_of_lt_of_le (lt_of_block h.blk) hs2.size)⟩
  · exact set_blk hb1 1 _
  · rcases hat with hat | hat
    · right; rw [hat] at hk; rw [h.ownp k hk]; exact List.mem_singleton.2 rfl
    · left; rw [hat] at hk; cases hk; simp
  · have := (World.ownsRow.lt hrow k hk).2
    simpa using this

set_option maxRecDepth 100000 in
set_option maxHeartbeats 2000000 in
theorem tape_more (hg : GWf g w) (hd : DiskAt g w W.rd D) (hw : WrAt g w p W) (hpd : p ≠ W.rd) (hsub : W.pages.length ≤ D.pages.length) (hin : ∀ ps m, W.pages = ps ++ [m] → ∃ pg, (m, pg) ∈ D.pages) (hdl : W.data.length ≤ D.page - 10) :
    Calls Try.prog 50 #[.pointer (some ⟨p, 0, none⟩)] w fun e w' => ∃ g' D' W', WrMore D W e D' W' ∧ DiskAt g' w' W.rd D' ∧ WrAt g' w' p W' ∧ Step [W.rd, p] g g' w w' := by
  obtain ⟨pv, dv, hw⟩ := hw
  have c0 : w.cell? ⟨p, 0, none⟩ = some (.pointer (some ⟨W.rd, 0, none⟩)) := hw.cell rfl
  have hmost : D.most ≤ 16384 := by obtain ⟨_, _, _, _, _, _, _, _, _, _, _, _, h⟩ := hd; exact h.most
  have hgH := Lib.hid hg; clear hg
  have hdH := Lib.hid hd; clear hd
  have hwH := Lib.hid hw; clear hw
  have hinH := Lib.hid hin; clear hin
  go_enter Try.func50, Try.ntmps50
  go_wp2_with fail
  refine (disk_alloc hdH.out hgH.out).mono ?_
  rintro e w2 ⟨g2, D2, hout, hd2, hs2⟩
  have hw2 := hwH.out.step hs2 (by simp; exact hpd)
  have hg2 := hs2.wf hgH.out
  cases hout with
  | full h =>
    have hd2H := Lib.hid hd2
    have hw2H := Lib.hid hw2
    have hs2H := Lib.hid hs2
    clear hd2 hw2 hs2 hg2
    go_wp2_with fail
    go_ret
    exact ⟨g2, D, W, .full h, hd2H.out, ⟨_, _, hw2H.out⟩, hs2H.out.mono (fun r hr => by rw [List.mem_singleton.1 hr]; simp)⟩
  | ok n h0 h1 hn hl =>
    obtain ⟨ad, c, rfl⟩ := hw2.pages.len
    have k1 : w2.cell? ⟨p, 1, none⟩ = some (.slice ad W.pages.length c) := hw2.cell rfl
    have f2 := free_blk hw2.blk
    have hnH := Lib.hid hn
    have hd2H := Lib.hid hd2
    have hw2H := Lib.hid hw2
    have hs2H := Lib.hid hs2
    have hg2H := Lib.hid hg2
    clear hd2 hw2 hs2 hg2 hn
    by_cases hp0 : W.pages.length = 0
    · have hpe : W.pages = [] := List.eq_nil_of_length_eq_zero hp0
      have hpeH := Lib.hid hpe
      clear hpe
      have hnot : ¬ (0 : Int) < (W.pages.length : Int) := by omega
      clear hp0
      go_wp2_with (at_builtin; obtain ⟨i0, hi, hz0, hz1, hz2⟩ := info_parts info_int; refine wpList_app rfl _ _ 47 rfl 3 i0 (.int .i64 0) 1 8 Try.underlying47 hi hz0 hz1 hz2 rfl (by decide) (.slice ad W.pages.length c) W.pages.length (intVals W.pages) (by rfl) (hw2H.out.pages.alloc _) (.slice (some ⟨w2.heap.size, 0, none⟩) 1 1) 1 [.int .i64 n] (by rfl) (IRow.src1 w2 n) (fun u hu => by simp at hu; subst hu; rfl) (by omega) (by omega) ?_; clear hi hz0 hz1 hz2; intro ad' c' w3 hown hgrow hnil hat; have hb3 := hw2H.out.appended hgrow; have k3 : w3.cell? ⟨p, 1, none⟩ = some (.slice ad W.pages.length c) := cell_blk hb3 rfl; have f3 := free_blk hb3; have hownH := Lib.hid hown; have hgrowH := Lib.hid hgrow; have hatH := Lib.hid hat; clear hown hgrow hnil hat hb3)
      go_ret
      have hpe := hpeH.out
      have ha := hw2H.out.append (n := n) (by omega) hownH.out hgrowH.out hatH.out
      refine ⟨_, _, _, .first n h0 h1 hnH.out hl hpe, hd2H.out.step ha.2 (by simp; exact fun e => hpd e.symm), ⟨.slice ad' (W.pages.length + 1) c', dv, ?_⟩, (hs2H.out.mono (fun r hr => by rw [List.mem_singleton.1 hr]; simp)).trans ha.2 (fun r hr => by rw [List.mem_singleton.1 hr]; simp)⟩
      have h3 := ha.1
      have he : W.pages ++ [n] = [n] := by rw [hpe]; rfl
      rw [he] at h3
      exact h3
    · obtain ⟨ps, m, hps⟩ : ∃ ps m, W.pages = ps ++ [m] := by
        refine ⟨W.pages.dropLast, W.pages.getLast (fun e => hp0 (by rw [e]; rfl)), ?_⟩
        exact (List.dropLast_concat_getLast _).symm
      obtain ⟨pg, hpg⟩ := hinH.out ps m hps
      have hpos : (0 : Int) < (W.pages.length : Int) := by omega
      have hpsH := Lib.hid hps; clear hps
      clear hp0
      go_wp2_with fail
      refine (tape_write (W := W) hg2H.out hd2H.out ⟨_, _, hw2H.out⟩ hpd n (by omega) (by omega) ps m hpsH.out pg (List.mem_append_left _ hpg) hdl).mono ?_
      rintro e w3 ⟨g3, D3, W3, hwr, hd3, ⟨pv3, dv3, hw3⟩, hs3⟩
      have hW3 : W3.pages = W.pages ∧ W3.rd = W.rd := by cases hwr <;> exact ⟨rfl, rfl⟩
      obtain ⟨ad3, c3, rfl⟩ := hw3.pages.len
      have hlen3 : W3.pages.length = W.pages.length := by rw [hW3.1]
      have k3 : w3.cell? ⟨p, 1, none⟩ = some (.slice ad3 W3.pages.length c3) := hw3.cell rfl
      have hd3H := Lib.hid hd3
      have hw3H := Lib.hid hw3
      have hs3H := Lib.hid hs3
      have hW3H := Lib.hid hW3
      have hl3 : W3.pages.length ≤ 16383 := by omega
      clear hd3 hw3 hs3 hW3 hlen3 k1
      have hmore : WrMore D W e D3 { W3 with pages := W.pages ++ [n] } := .next n m ps h0 h1 hnH.out hl hpsH.out hwr
      have he : e = .returned (.int .i64 0) ∨ e = .returned (.int .i64 16) := by
        cases hwr
        · exact .inr rfl
        · exact .inl rfl
      clear hwr
      have f3 := free_blk hw3H.out.blk
      rcases he with rfl | rfl
      all_goals
        go_wp2_with (at_builtin; obtain ⟨i0, hi, hz0, hz1, hz2⟩ := info_parts info_int; refine wpList_app rfl _ _ 47 rfl 3 i0 (.int .i64 0) 1 8 Try.underlying47 hi hz0 hz1 hz2 rfl (by decide) (.slice ad3 W3.pages.length c3) W3.pages.length (intVals W3.pages) (by rfl) (hw3H.out.pages.alloc _) (.slice (some ⟨w3.heap.size, 0, none⟩) 1 1) 1 [.int .i64 n] (by rfl) (IRow.src1 w3 n) (fun u hu => by simp at hu; subst hu; rfl) (by omega) (by omega) ?_; clear hi hz0 hz1 hz2; intro ad' c' w4 hown hgrow hnil hat; have hb4 := hw3H.out.appended hgrow; have k4 : w4.cell? ⟨p, 1, none⟩ = some (.slice ad3 W3.pages.length c3) := cell_blk hb4 rfl; have f4 := free_blk hb4; have hownH := Lib.hid hown; have hgrowH := Lib.hid hgrow; have hatH := Lib.hid hat; clear hown hgrow hnil hat hb4)
        go_ret
        have ha := hw3H.out.append (n := n) (by omega) hownH.out hgrowH.out hatH.out
        refine ⟨_, _, _, hmore, hd3H.out.step ha.2 (by simp; exact fun e => hpd e.symm), ⟨.slice ad' (W3.pages.length + 1) c', dv3, ?_⟩, ((hs2H.out.mono (fun r hr => by rw [List.mem_singleton.1 hr]; simp)).trans hs3H.out (fun _ h => h)).trans ha.2 (fun r hr => by rw [List.mem_singleton.1 hr]; simp)⟩
        have h3 := ha.1
        rw [hW3H.out.1] at h3 ⊢
        exact h3
end
end Go.Proofs.Ytlppoimdfclbaaa
