/- disk's numbers: a row of ints behind a pointer; Len, Less, Swap, Push, Pop. -/
import Derived.Test.YtlppoimdfclbaaaProg
import Derived.Test.YtlppoimdfclbaaaApp
set_option linter.unusedVariables false
set_option linter.unusedSimpArgs false
namespace Go.Proofs.Ytlppoimdfclbaaa
open Go.RowKit

def intVals (l : List Int) : List Value := l.map (Value.int .i64)
@[simp] theorem intVals_length (l : List Int) : (intVals l).length = l.length := by simp [intVals]
def IRow (w : World) (v : Value) (l : List Int) : Prop := w.ownsRow 0 3 1 v l.length (intVals l)

theorem IRow.len {w : World} {v : Value} {l : List Int} (h : IRow w v l) : ∃ ad cap, v = .slice ad l.length cap := by
  rcases h.2 with ⟨rfl, hn⟩ | ⟨g, cap, cur, rfl, _⟩
  · exact ⟨none, 0, by rw [hn]⟩
  · exact ⟨_, cap, rfl⟩
theorem IRow.form {w : World} {v : Value} {l : List Int} (h : IRow w v l) (hl : l ≠ []) : ∃ g cap, v = .slice (some ⟨g, 0, none⟩) l.length cap := by
  rcases h.2 with ⟨rfl, hn⟩ | ⟨g, cap, cur, rfl, _⟩
  · exact absurd (List.eq_nil_of_length_eq_zero hn) hl
  · exact ⟨g, cap, rfl⟩
theorem IRow.cell {w : World} {g cap : Nat} {l : List Int} (h : IRow w (.slice (some ⟨g, 0, none⟩) l.length cap) l) {i : Nat} (hi : i < l.length) : w.cell? ⟨g, i, none⟩ = some (.int .i64 l[i]) := by
  rw [World.ownsRow.cellAt h i (by omega)]; simp [intVals, hi]
theorem IRow.cap {w : World} {a : Addr} {n cap : Nat} {l : List Int} (h : IRow w (.slice (some a) n cap) l) : l.length ≤ cap := by
  rcases h.2 with ⟨h, _⟩ | ⟨_, _, _, h, _, _, h1, _⟩
  · cases h
  · simp only [Value.slice.injEq] at h; omega
theorem IRow.init {w : World} {gb cap : Nat} {l : List Int} {x : Int} (h : IRow w (.slice (some ⟨gb, 0, none⟩) (l.length + 1) cap) (l ++ [x])) : IRow w (.slice (some ⟨gb, 0, none⟩) l.length cap) l := by
  refine ⟨by simp, ?_⟩
  rcases h.2 with ⟨h, _⟩ | ⟨g', cap', cur, h', hb, hg, hn, hc, hs, ht⟩
  · cases h
  · simp only [Value.slice.injEq, Option.some.injEq, Addr.mk.injEq, and_true] at h'
    obtain ⟨rfl, _, rfl⟩ := h'
    simp only [List.length_append, List.length_singleton, Nat.mul_one] at hn ht hs
    refine .inr ⟨gb, cap, cur, rfl, hb, hg, by omega, hc, by simpa using hs, ?_⟩
    have h2 := congrArg (List.take l.length) ht
    rw [List.take_take, Nat.min_eq_left (by omega)] at h2
    rw [Nat.mul_one, h2]
    simp [intVals]
theorem IRow.step {T : List Nat} {g g1 : Nat → Nat} {w w1 : World} {v : Value} {l : List Int} (h : IRow w v l) (hs : Step T g g1 w w1) (ha : Apart T g v) : IRow w1 v l := by
  refine ⟨h.1, ?_⟩
  rcases h.2 with hn | ⟨gb, cap, cur, rfl, hb, hgg, rest⟩
  · exact .inl hn
  · exact .inr ⟨gb, cap, cur, rfl, hb, hs.at hgg (ha gb rfl), rest⟩

theorem IRow.stored {w : World} {g cap : Nat} {l : List Int} (h : IRow w (.slice (some ⟨g, 0, none⟩) l.length cap) l) (j : Nat) (a : Int) :
    IRow (w.setCell ⟨g, j, none⟩ (.int .i64 a)) (.slice (some ⟨g, 0, none⟩) l.length cap) (l.set j a) ∧ w.grownBy (w.setCell ⟨g, j, none⟩ (.int .i64 a)) (some g) := by
  have h1 := World.ownsRow.stored h j (.int .i64 a)
  refine ⟨?_, h1.2⟩
  unfold IRow
  rw [List.length_set, show intVals (l.set j a) = (intVals l).set j (.int .i64 a) by simp [intVals, List.map_set]]
  exact h1.1

theorem nums_len (l : List Int) (ad : Option Addr) (cap : Nat) (w : World) :
    Calls Try.prog 64 #[.slice ad l.length cap] w fun e w' => e = .returned (.int .i64 l.length) ∧ w = w' := by
  go_enter Try.func64, Try.ntmps64
  go_wp2
  go_ret
  exact ⟨rfl, rfl⟩

theorem nums_less (l : List Int) (g cap i j : Nat) (w : World) (hi : i < l.length) (hj : j < l.length) (hr : IRow w (.slice (some ⟨g, 0, none⟩) l.length cap) l) :
    Calls Try.prog 90 #[.slice (some ⟨g, 0, none⟩) l.length cap, .int .i64 i, .int .i64 j] w fun e w' => ∃ n, e = .returned (.bool (decide (l[i] < l[j]))) ∧ w' = w.drewN n := by
  have c1 := hr.cell hi
  have c2 := hr.cell hj
  clear hr
  have i1 : (i : Int) < (l.length : Int) := by omega
  have i2 : (j : Int) < (l.length : Int) := by omega
  generalize l[i] = a at *
  generalize l[j] = b at *
  go_enter Try.func90, Try.ntmps90
  go_wp2
  go_quiet (fail)
  go_wp2
  go_ret
  exact ⟨nq, rfl, rfl⟩

set_option maxHeartbeats 1000000 in
theorem nums_swap (l : List Int) (g cap i j : Nat) (w : World) (hi : i < l.length) (hj : j < l.length) (hr : IRow w (.slice (some ⟨g, 0, none⟩) l.length cap) l) :
    Calls Try.prog 93 #[.slice (some ⟨g, 0, none⟩) l.length cap, .int .i64 i, .int .i64 j] w fun e w' => e = .returned (.tuple #[]) ∧ IRow w' (.slice (some ⟨g, 0, none⟩) l.length cap) ((l.set i l[j]).set j l[i]) ∧ w.grownBy w' (some g) ∧ w'.heap.size = w.heap.size := by
  have c1 := hr.cell hi
  have c2 := hr.cell hj
  have f1 := World.ownsRow.frozenAt hr i
  have f2 := World.ownsRow.frozenAt hr j
  have hrH := Lib.hid hr; clear hr
  have i1 : (i : Int) < (l.length : Int) := by omega
  have i2 : (j : Int) < (l.length : Int) := by omega
  obtain ⟨a, ha⟩ : ∃ a, a = l[i] := ⟨_, rfl⟩
  obtain ⟨b, hb⟩ : ∃ b, b = l[j] := ⟨_, rfl⟩
  rw [← ha] at c1
  rw [← hb] at c2
  obtain ⟨v', hy'⟩ := cell?_setCell_some (w := w) (p := ⟨g, i, none⟩) (x := .int .i64 b) (q := ⟨g, j, none⟩) (v := .int .i64 b) (by go_simp)
  obtain ⟨v'', hy''⟩ := cell?_setCell_some (w := w) (p := ⟨g, j, none⟩) (x := .int .i64 a) (q := ⟨g, i, none⟩) (v := .int .i64 a) (by go_simp)
  have haH := Lib.hid ha; clear ha
  have hbH := Lib.hid hb; clear hb
  go_enter Try.func93, Try.ntmps93
  go_wp2
  go_region
  go_wp2
  go_end0
  have ha := haH.out
  have hb := hbH.out
  have r1 := IRow.stored hrH.out i b
  have r2 := IRow.stored (l := l.set i b) (by rw [List.length_set]; exact r1.1) j a
  rw [List.length_set] at r2
  refine ⟨rfl, ?_, ?_, by simp⟩
  · rw [← ha, ← hb]; exact r2.1
  · exact (r1.2.trans r2.2).trans (grown_drew _ _)
/-- disk.numbers behind a pointer: what one root owns. -/
structure NumsAt (g : Nat → Nat) (w : World) (r bf : Nat) (sv : Value) (l : List Int) : Prop where
  blk : w.heap[bf]? = some (.cells #[sv] 67 (0, 0))
  row : IRow w sv l
  own : g bf = r
  own2 : ∀ k, sv.ownBlock = some k → g k = r
  ne : sv.ownBlock ≠ some bf

theorem info_int : (Try.prog.info? 3).map (fun i => (i.zero, i.size, i.bytes)) = some (some (.int .i64 0), 1, 8) := by kernel_rfl

set_option maxRecDepth 20000 in
set_option maxHeartbeats 1000000 in
theorem nums_push (g : Nat → Nat) (r bf : Nat) (sv : Value) (l : List Int) (x : Int) (w : World) (hn : NumsAt g w r bf sv l) (hl : l.length ≤ 1000000) (hrl : r < w.heap.size) :
    Calls Try.prog 92 #[.pointer (some ⟨bf, 0, none⟩), .iface 3 (.int .i64 x)] w fun e w' => e = .returned (.tuple #[]) ∧ ∃ g' sv', NumsAt g' w' r bf sv' (l ++ [x]) ∧ Step [r] g g' w w' := by
  obtain ⟨i0, hi, hz0, hz1, hz2⟩ := info_parts info_int
  obtain ⟨hb, hr, ho, ho2, hne⟩ := hn
  have c0 := cell_blk hb (i := 0) rfl
  have f0 := free_blk hb 0
  have hbH := Lib.hid hb; clear hb
  have hrH := Lib.hid hr; clear hr
  have hoH := Lib.hid ho; clear ho
  have ho2H := Lib.hid ho2; clear ho2
  have hneH := Lib.hid hne; clear hne
  have hlt := lt_of_block hbH.out
  have hta : ∀ w : World, (Instr.typeAssert (.iface 3 (.int .i64 x)) 20 3 false).run Try.prog w = .ok (.int .i64 x) w := fun _ => by kernel_rfl
  have c1 : (w.alloc (.cells #[.int .i64 x] 3)).cell? ⟨bf, 0, none⟩ = some sv := (World.cell?_alloc_lt w _ ⟨bf, 0, none⟩ hlt).trans c0
  have f1 : (w.alloc (.cells #[.int .i64 x] 3)).frozen? ⟨bf, 0, none⟩ = false := (World.frozen?_alloc_past _ bf 0 hlt).trans f0
  go_enter Try.func92, Try.ntmps92
  go_wp2
  go_region_law ((refine step_app (by rfl) _ _ 67 (by rfl) 3 i0 (.int .i64 0) 1 8 Try.underlying67 hi hz0 hz1 hz2 rfl (by decide) sv l.length (intVals l) (by rfl) (by exact hrH.out.alloc _) (.slice (some ⟨w.heap.size, 0, none⟩) 1 1) 1 [.int .i64 x] (by rfl) ⟨rfl, .inr ⟨⟨w.heap.size, 0, none⟩, 1, rfl, by exact cell_one_new _ _ _⟩⟩ (by intro u hu; simp at hu; subst hu; rfl) (by omega) (by omega) ?_; intro ad' c' w1 hown hgrow hnil hat; have c2 := (World.cell?_of_block (hgrow.block bf (by simp; omega) (Ne.symm hneH.out))).trans c1; have f2 := (World.frozen?_of_block (hgrow.block bf (by simp; omega) (Ne.symm hneH.out))).trans f1))
  all_goals go_wp2
  all_goals go_end0
  all_goals
    have hne2 : (Value.slice ad' (l.length + 1) c').ownBlock ≠ some bf := by
      rcases hat with hat | hat
      · rw [hat]; exact hneH.out
      · rw [hat]; simp; omega
    have hgw : w.grownBy w1 sv.ownBlock := ((World.grownBy_alloc w _ _).trans (grown_drew _ _)).trans hgrow
    have hs1 : Step [r] g g w w1 := .grown hgw (fun k hk => by rw [ho2H.out k hk]; exact List.mem_singleton.2 rfl)
    have hs2 : Step [r] g g w (w1.setCell ⟨bf, 0, none⟩ (.slice ad' (l.length + 1) c')) := hs1.tail (.set _ _ (by rw [hoH.out]; exact List.mem_singleton.2 rfl))
    have hb1 : w1.heap[bf]? = some (.cells #[sv] 67 (0, 0)) := by rw [hgw.block bf hlt (Ne.symm hneH.out)]; exact hbH.out
    have hrow : IRow w1 (.slice ad' (l.length + 1) c') (l ++ [x]) := by unfold IRow; simpa [intVals] using hown
    have hrow2 : IRow (w1.setCell ⟨bf, 0, none⟩ (.slice ad' (l.length + 1) c')) (.slice ad' (l.length + 1) c') (l ++ [x]) := ownsRow_setCell_other hrow hne2 _
    refine ⟨rfl, giveTo g (.slice ad' (l.length + 1) c') r, _, ⟨set_blk hb1 0 _, hrow2, by rw [giveTo_other hne2]; exact hoH.out, fun k hk => giveTo_same hk, hne2⟩, hs2.giveTo (fun k hk => ⟨?_, (World.ownsRow.lt hrow2 k hk).2⟩) ?_⟩
    · rcases hat with hat | hat
      · right; rw [hat] at hk; rw [ho2H.out k hk]; exact List.mem_singleton.2 rfl
      · left; rw [hat] at hk; cases hk; simp
    · exact Nat.lt_of_lt_of_le hrl (Nat.le_trans hs1.size (by simp))

set_option maxRecDepth 20000 in
set_option maxHeartbeats 1000000 in
theorem nums_pop (g : Nat → Nat) (r bf : Nat) (sv : Value) (l : List Int) (x : Int) (w : World) (hn : NumsAt g w r bf sv (l ++ [x])) (hl : l.length ≤ 1000000) :
    Calls Try.prog 91 #[.pointer (some ⟨bf, 0, none⟩)] w fun e w' => e = .returned (.iface 3 (.int .i64 x)) ∧ ∃ sv', NumsAt g w' r bf sv' l ∧ Step [r] g g w w' := by
  obtain ⟨hb, hr, ho, ho2, hne⟩ := hn
  obtain ⟨gb, cap, rfl⟩ := hr.form (by simp)
  have hcell := hr.cell (i := l.length) (by simp)
  simp only [List.getElem_append_right (Nat.le_refl _), Nat.sub_self, List.getElem_singleton, List.length_append, List.length_singleton] at hcell hb hr ho2 hne ⊢
  have c0 := cell_blk hb (i := 0) rfl
  have f0 := free_blk hb 0
  have hbH := Lib.hid hb; clear hb
  have hrH := Lib.hid hr; clear hr
  have hoH := Lib.hid ho; clear ho
  have ho2H := Lib.hid ho2; clear ho2
  have hneH := Lib.hid hne; clear hne
  have hcap : l.length + 1 ≤ cap := by
    have := hrH.out.cap
    simpa using this
  go_enter Try.func91, Try.ntmps91
  go_wp2
  go_ret
  have hrow := hrH.out.init
  have hne' : (Value.slice (some ⟨gb, 0, none⟩) l.length cap).ownBlock ≠ some bf := hneH.out
  exact ⟨rfl, _, ⟨set_blk hbH.out 0 _, ownsRow_setCell_other hrow hne' _, hoH.out, fun k hk => ho2H.out k hk, hne'⟩, .set _ _ (by rw [hoH.out]; exact List.mem_singleton.2 rfl)⟩
end Go.Proofs.Ytlppoimdfclbaaa
