/- A Writer: Add. -/
import Derived.Test.YtlppoimdfclbaaaTape7
set_option linter.unusedVariables false
set_option linter.unusedSimpArgs false
namespace Go.Proofs.Ytlppoimdfclbaaa
open Go.RowKit

section
variable {T : List Nat} {g g1 : Nat → Nat} {w w1 : World} {p rd rl : Nat} {W : Wr} {pv dv : Value} {D : Dk} {L : Led}

def recOf (l : List UInt8) : List UInt8 := leBytes 4 l.length ++ l

inductive AddOut (g' : Nat → Nat) (w' : World) (p : Nat) (D : Dk) (L : Led) (W : Wr) (S l : List UInt8) : Ending → Dk → Led → Prop where
  | ok {D' : Dk} {W' : Wr} (hw : WrAt g' w' p W') (hi : WInv D' W' (S ++ recOf l)) (hr : W'.rd = W.rd ∧ W'.rl = W.rl ∧ W'.count = W.count + 1 ∧ W'.over = false) (hd : DStep D D' W.pages W'.pages) : AddOut g' w' p D L W S l (.returned (.int .i64 0)) D' L
  | bad {D' : Dk} (r : Int) (hr : r = 16 ∨ r = 17) (hd : DStep D D' W.pages []) (ho : OverAt g' w' p) (why : D.clean = true → ∃ k, D.most + W.pages.length ≤ D.pages.length + k ∧ k * room D < (S ++ recOf l).length) : AddOut g' w' p D L W S l (.returned (.int .i64 r)) D' ⟨L.budget, L.held - D.page, L.high⟩

theorem tape_add_over (h : OverAt g w p) (v : Value) :
    Calls Try.prog 15 #[.pointer (some ⟨p, 0, none⟩), v] w fun e w' => e = .returned (.int .i64 21) ∧ w = w' := by
  obtain ⟨cs, h1, h2, h3⟩ := h
  have c6 : w.cell? ⟨p, 6, none⟩ = some (.bool true) := cell_blk h1 h2
  clear h1 h2 h3
  go_enter Try.func15, Try.ntmps15
  go_wp2_with fail
  go_ret
  exact ⟨rfl, rfl⟩
theorem tape_add_long (hw : WrAt g w p W) (hov : W.over = false) (ad : Option Addr) (n c : Nat) (hn : 1048640 < n) :
    Calls Try.prog 15 #[.pointer (some ⟨p, 0, none⟩), .slice ad n c] w fun e w' => e = .returned (.int .i64 3) ∧ w = w' := by
  obtain ⟨pv, dv, hw⟩ := hw
  have c6 : w.cell? ⟨p, 6, none⟩ = some (.bool false) := by rw [← hov]; exact hw.cell rfl
  have hn' : (1048640 : Int) < (n : Int) := by omega
  clear hw hov
  go_enter Try.func15, Try.ntmps15
  go_wp2_with fail
  go_ret
  exact ⟨rfl, rfl⟩

theorem WInv.count {S : List UInt8} (h : WInv D W S) (c : Int) : WInv D { W with count := c } S := ⟨⟨h.1.nodup, h.1.inD, h.1.none, h.1.lo, h.1.hi, h.1.data, h.1.full⟩, h.2⟩

set_option maxRecDepth 100000 in
set_option maxHeartbeats 2000000 in
theorem tape_add (S l : List UInt8) (hg : GWf g w) (hd : DiskAt g w W.rd D) (hL : LedgerAt g w W.rl L) (hw : WrAt g w p W) (hov : W.over = false) (hpd : p ≠ W.rd) (hpl : p ≠ W.rl) (hdl : W.rd ≠ W.rl) (hi : WInv D W S) (hheld : (D.page : Int) ≤ L.held)
    (ad : Option Addr) (c : Nat) (hl : l.length ≤ 1048640) (hb : BytesA w (.slice ad l.length c) l) (hc0 : 0 ≤ W.count) (hc1 : W.count ≤ 1000000000) :
    Calls Try.prog 15 #[.pointer (some ⟨p, 0, none⟩), .slice ad l.length c] w fun e w' => ∃ g' D' L', AddOut g' w' p D L W S l e D' L' ∧ DiskAt g' w' W.rd D' ∧ LedgerAt g' w' W.rl L' ∧ Step [W.rd, W.rl, p] g g' w w' := by
  have hwa := Lib.hid hw
  obtain ⟨pv, dv, hw⟩ := hw
  have c6 : w.cell? ⟨p, 6, none⟩ = some (.bool false) := by rw [← hov]; exact hw.cell rfl
  have hl' : ¬ (1048640 : Int) < (l.length : Int) := by omega
  have hplt := lt_of_block hw.blk
  have hgH := Lib.hid hg
  have hdH := Lib.hid hd
  have hLH := Lib.hid hL
  have hwH := Lib.hid hw
  have hovH := Lib.hid hov
  have hiH := Lib.hid hi
  have hbH := Lib.hid hb
  clear hg hd hL hw hov hi hb
  go_enter Try.func15, Try.ntmps15
  go_wp2_with fail
  refine (tape_length l.length (by omega) w).mono ?_
  rintro e w2 ⟨rfl, hw2⟩
  have hlen4 : (leBytes 4 l.length).length = 4 := by simp
  have hblk2 : w2.heap[w.heap.size]? = some (.cells (byteVals (leBytes 4 l.length)).toArray 5 (0, 0)) := by rw [hw2]; exact heap_alloc_new w _
  have hs2 : Step [] g g w w2 := by rw [hw2]; exact .alloc _
  have hsz2 : w2.heap.size = w.heap.size + 1 := by rw [hw2]; simp
  obtain ⟨b4, hb4e⟩ : ∃ b4, leBytes 4 l.length = b4 := ⟨_, rfl⟩
  rw [hb4e] at hblk2 hlen4
  have hb4H := Lib.hid hb4e
  have hb4l : b4.length = 4 := hlen4
  clear hb4e hlen4 hw2
  have hblk2H := Lib.hid hblk2
  have hs2H := Lib.hid hs2
  clear hblk2 hs2
  go_wp2_with fail
  have hs3 : Step [] g g w (w2.alloc (.cells #[.slice (some ⟨w.heap.size, 0, none⟩) 4 4, .slice ad l.length c] 35)) := hs2H.out.tail (.alloc _)
  have hB : (w2.alloc (.cells #[.slice (some ⟨w.heap.size, 0, none⟩) 4 4, .slice ad l.length c] 35)).heap[w.heap.size + 1]? = some (.cells #[.slice (some ⟨w.heap.size, 0, none⟩) 4 4, .slice ad l.length c] 35 (0, 0)) := by
    have := heap_alloc_new w2 (.cells #[.slice (some ⟨w.heap.size, 0, none⟩) 4 4, .slice ad l.length c] 35)
    rw [hsz2] at this; exact this
  have hb4 : Bytes (w2.alloc (.cells #[.slice (some ⟨w.heap.size, 0, none⟩) 4 4, .slice ad l.length c] 35)) (.slice (some ⟨w.heap.size, 0, none⟩) b4.length 4) b4 := by
    have h : Blk (w2.alloc (.cells #[.slice (some ⟨w.heap.size, 0, none⟩) 4 4, .slice ad l.length c] 35)) w.heap.size b4 := alloc_old hblk2H.out
    have h2 := (h.row (by rw [hb4l]; unfold maxLen; omega)).bytes
    rw [hb4l] at h2 ⊢
    exact h2
  refine (slices_concat _ (w.heap.size + 1) (some ⟨w.heap.size, 0, none⟩) ad 4 c b4 l (by rw [hb4l]; exact cell_blk hB rfl) (cell_blk hB rfl) hb4 (hbH.out.step hs3 (fun _ k _ h => by cases h)) (by rw [hb4l]; omega) (by rw [hb4l]; omega)).mono ?_
  rintro e w4 ⟨v, rfl, hrow, hg4, hk4⟩
  have hs4 : Step [] g g w w4 := hs3.tail (.grown hg4 (fun _ h => by cases h))
  have hap : Apart [W.rd, p] g v := fun k hk h => by
    have h1 := hk4 k hk
    have h2 : w.heap.size ≤ k := by simp at h1; omega
    rw [hgH.out.2 k h2] at h
    have := hdH.out.lt
    simp at h; omega
  have hb4lH := Lib.hid hb4l
  clear hb4l
  obtain ⟨rc, hrc⟩ : ∃ rc, rc = b4 ++ l := ⟨_, rfl⟩
  rw [← hrc] at hrow
  have hrcH := Lib.hid hrc
  obtain ⟨ad4, c4, rfl⟩ := hrow.len
  have hrecl : rc.length = l.length + 4 := by rw [hrc, List.length_append, hb4lH.out]; omega
  have hrc8 : rc.length ≤ 100000000 := by omega
  have hrowH := Lib.hid hrow
  have hs4H := Lib.hid hs4
  have hapH := Lib.hid hap
  have hreclH := Lib.hid hrecl
  clear hrc hrow hs4 hap hrecl hg4 hk4 hb4 hB hs3
  go_wp2_with fail
  refine (tape_put (W := W) (hs4H.out.wf hgH.out) (hdH.out.step hs4H.out (by simp)) (hwa.out.step hs4H.out (by simp)) hpd S rc hiH.out 0 c4 ad4 hrc8 hrowH.out.bytes hapH.out).mono ?_
  rintro e w5 ⟨g5, D5, W5, hput, hd5, hw5, hs5, hsm, hds⟩
  have hL5 := hLH.out.step hs4H.out (by simp) |>.step hs5 (by simp; exact ⟨fun e => hdl e.symm, fun e => hpl e.symm⟩)
  have hov5 : W5.over = false := hsm.2.2.2.trans hovH.out
  have hS5 : Step [W.rd, W.rl, p] g g5 w w5 := (hs4H.out.mono (by simp)).trans hs5 (by simp)
  have hg5 := hs5.wf (hs4H.out.wf hgH.out)
  cases hput with
  | ok hi5 =>
    obtain ⟨pv5, dv5, hw5⟩ := hw5
    have k2 : w5.cell? ⟨p, 2, none⟩ = some (.int .i64 W.count) := by rw [← hsm.2.2.1]; exact hw5.cell rfl
    have f5 := free_blk hw5.blk
    have hwrap : IntKind.i64.wrap (W.count + 1) = W.count + 1 := IntWalk.i64_in _ (by omega)
    have hd5H := Lib.hid hd5
    have hw5H := Lib.hid hw5
    have hs5H := Lib.hid hs5
    have hsmH := Lib.hid hsm
    have hdsH := Lib.hid hds
    have hL5H := Lib.hid hL5
    have hov5H := Lib.hid hov5
    have hS5H := Lib.hid hS5
    have hg5H := Lib.hid hg5
    have hi5H := Lib.hid hi5
    clear hd5 hw5 hs5 hsm hds hL5 hov5 hS5 hg5 hi5
    go_wp2_with fail
    go_ret
    have hrc : S ++ rc = S ++ recOf l := by rw [hrcH.out, ← hb4H.out]; rfl
    have hw6 := hw5H.out.set (W' := { W5 with count := W.count + 1 }) (pv' := pv5) (dv' := dv5) 2 (.int .i64 (W.count + 1)) rfl hw5H.out.pages hw5H.out.data hw5H.out.ownp hw5H.out.ownd hw5H.out.short
    have hst : Step [p] g5 g5 w5 (w5.setCell ⟨p, 2, none⟩ (.int .i64 (W.count + 1))) := .set _ _ (by rw [hw5H.out.own]; simp)
    refine ⟨g5, D5, L, .ok ⟨_, _, hw6⟩ (by rw [← hrc]; exact hi5H.out.count _) ⟨hsmH.out.1, hsmH.out.2.1, rfl, hov5H.out⟩ hdsH.out, hd5H.out.step hst (by simp; exact fun e => hpd e.symm), hL5H.out.step hst (by simp; exact fun e => hpl e.symm), hS5H.out.trans hst (by simp)⟩
  | bad r hr hp5 why =>
    have hnr : (r == 0) = false := by rw [beq_eq_false_iff_ne]; omega
    have hnr2 : r ≠ 0 := by omega
    have hrd5 := hsm.1
    have hrl5 := hsm.2.1
    have hd5H := Lib.hid hd5
    have hw5H := Lib.hid hw5
    have hdsH := Lib.hid hds
    have hL5H := Lib.hid hL5
    have hov5H := Lib.hid hov5
    have hS5H := Lib.hid hS5
    have hg5H := Lib.hid hg5
    have hp5H := Lib.hid hp5
    have whyH := Lib.hid why
    have hrd5H := Lib.hid hrd5
    have hrl5H := Lib.hid hrl5
    have hrH := Lib.hid hr
    clear hd5 hw5 hds hL5 hov5 hS5 hg5 hp5 why hrd5 hrl5 hs5 hsm hr
    go_wp2_with fail
    refine (tape_abort (W := W5) (L := L) hg5H.out (by rw [hrd5H.out]; exact hd5H.out) (by rw [hrl5H.out]; exact hL5H.out) hw5H.out hov5H.out (by rw [hrd5H.out]; exact hpd) (by rw [hrl5H.out]; exact hpl) (by rw [hrd5H.out, hrl5H.out]; exact hdl) hp5H.out (by rw [hdsH.out.page]; exact hheld)).mono ?_
    rintro e w6 ⟨rfl, g6, D6, hd6, hds6, hL6, ho6, hs6⟩
    rw [hrd5H.out] at hd6 hs6
    rw [hrl5H.out] at hL6 hs6
    rw [hdsH.out.page] at hL6
    have hfin : ∃ g' D' L', AddOut g' w6 p D L W S l (.returned (.int .i64 r)) D' L' ∧ DiskAt g' w6 W.rd D' ∧ LedgerAt g' w6 W.rl L' ∧ Step [W.rd, W.rl, p] g g' w w6 := by
      refine ⟨g6, D6, _, .bad r hrH.out (hdsH.out.trans hds6) ho6 (fun hc => ?_), hd6, hL6, hS5H.out.trans hs6 (fun _ h => h)⟩
      have h1 := whyH.out hc
      have h2 := hdsH.out.count
      have hrc : S ++ rc = S ++ recOf l := by rw [hrcH.out, ← hb4H.out]; rfl
      rw [hrc] at h1
      exact ⟨W5.pages.length, by omega, h1.2⟩
    have hfinH := Lib.hid hfin
    clear hd6 hds6 hL6 ho6 hs6 hfin
    go_wp2_with fail
    go_ret
    exact hfinH.out
end
end Go.Proofs.Ytlppoimdfclbaaa
