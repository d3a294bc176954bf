/- Rows of faults: what is asked of them. -/
import Derived.Test.YtlppoimdfclbaaaProg
import Derived.Test.YtlppoimdfclbaaaApp
set_option linter.unusedVariables false
set_option linter.unusedSimpArgs false
namespace Go.Proofs.Ytlppoimdfclbaaa
open Go.RowKit

def faultVals (l : List (Int × Int)) : List Value := l.flatMap fun f => [.int .i64 f.1, .int .i64 f.2]
theorem faultVals_length (l : List (Int × Int)) : (faultVals l).length = l.length * 2 := by
  induction l with
  | nil => rfl
  | cons f l ih => simp [faultVals] at *; omega
theorem faultVals_one (l : List (Int × Int)) : ∀ u ∈ faultVals l, u.oneCell' = true := by
  intro u hu
  simp only [faultVals, List.mem_flatMap] at hu
  obtain ⟨_, _, hu⟩ := hu
  simp at hu
  rcases hu with rfl | rfl <;> rfl
theorem faultVals_get {l : List (Int × Int)} {i : Nat} (h : i < l.length) : (faultVals l)[i * 2]? = some (.int .i64 l[i].1) ∧ (faultVals l)[i * 2 + 1]? = some (.int .i64 l[i].2) := by
  induction l generalizing i with
  | nil => simp at h
  | cons f l ih =>
    cases i with
    | zero => simp [faultVals]
    | succ i =>
      have := ih (i := i) (by simpa using h)
      simp only [faultVals, List.flatMap_cons] at this ⊢
      simp [Nat.add_mul, this]
def FRow (w : World) (v : Value) (l : List (Int × Int)) : Prop := w.ownsRow 0 89 2 v l.length (faultVals l)
theorem FRow.step {T : List Nat} {g g1 : Nat → Nat} {w w1 : World} {v : Value} {l : List (Int × Int)} (h : FRow w v l) (hs : Step T g g1 w w1) (ha : Apart T g v) : FRow w1 v l := by
  refine ⟨h.1, ?_⟩
  rcases h.2 with hn | ⟨gb, cap, cur, rfl, hb, hgg, rest⟩
  · exact .inl hn
  · exact .inr ⟨gb, cap, cur, rfl, hb, hs.at hgg (ha gb rfl), rest⟩
theorem FRow.cases {w : World} {v : Value} {l : List (Int × Int)} (h : FRow w v l) : (v = .slice none 0 0 ∧ l = []) ∨ ∃ g cap, v = .slice (some ⟨g, 0, none⟩) l.length cap ∧ g < w.heap.size ∧ l.length ≤ cap ∧
    ∀ i (h : i < l.length), w.cell? ⟨g, i * 2, none⟩ = some (.int .i64 l[i].1) ∧ w.cell? ⟨g, i * 2 + 1, none⟩ = some (.int .i64 l[i].2) := by
  rcases h.2 with ⟨rfl, hn⟩ | ⟨g, cap, cur, rfl, hb, hg, hn, hc, hs, ht⟩
  · exact .inl ⟨rfl, List.eq_nil_of_length_eq_zero hn⟩
  · refine .inr ⟨g, cap, rfl, lt_of_block hg, hn, fun i hi => ?_⟩
    have h2 := faultVals_get hi
    rw [← ht, List.getElem?_take, List.getElem?_take, if_pos (by omega), if_pos (by omega)] at h2
    exact ⟨cell_blk hg (by simpa using h2.1), cell_blk hg (by simpa using h2.2)⟩

def NotYet (l : List (Int × Int)) (a k : Int) (j : Nat) : Prop := ∀ i (h : i < l.length), i < j → l[i] ≠ (a, k)
def SomeInt (l : List (Int × Int)) (a k : Int) (e : Ending) : Prop := ∃ r : Int, e = .returned (.int .i64 r) ∧ (0 ≤ r ↔ (a, k) ∈ l) ∧ -1 ≤ r ∧ r ≤ 1000000000

theorem eql_fault (a k x1 x2 : Int) (w : World) : (binOp .eql 89 (.agg #[.int .i64 a, .int .i64 k]) (.agg #[.int .i64 x1, .int .i64 x2])).run Try.prog w = .ok (.bool (a == x1 && k == x2)) w := by
  have hm : Try.prog.stoodInHeld 89 = false := by kernel_rfl
  have hu := Try.underlying89
  simp only [run_eql_struct]
  rw [run_equalIn_struct (P := Try.prog) w 9999 89 _ _ (by kernel_rfl) hm]
  simp only [Program.fieldsOf, hu]
  by_cases h1 : a = x1
  · by_cases h2 : k = x2
    · simp [go_sem, h1, h2]
    · simp [go_sem, h1, h2]
  · simp [go_sem, h1]

set_option maxRecDepth 100000 in
set_option maxHeartbeats 1000000 in
theorem slices_index (l : List (Int × Int)) (a k : Int) (g cap n : Nat) (w : World) (hl : l.length = n) (hn : n ≤ 1000000000) (hg : g < w.heap.size) (hc : ∀ i (h : i < l.length), w.cell? ⟨g, i * 2, none⟩ = some (.int .i64 l[i].1) ∧ w.cell? ⟨g, i * 2 + 1, none⟩ = some (.int .i64 l[i].2)) :
    Calls Try.prog 63 #[.slice (some ⟨g, 0, none⟩) n cap, .agg #[.int .i64 a, .int .i64 k]] w fun e w' => SomeInt l a k e ∧ w.grownBy w' none := by
  have hcH := Lib.hid hc; clear hc
  have hlH := Lib.hid hl; clear hl
  go_enter Try.func63, Try.ntmps63
  go_wp2
  go_loopw [5, 8] (fun _ i wr => ∃ j : Nat, i = .int .i64 j ∧ j ≤ n ∧ w.grownBy wr none ∧ wr.heap[w.heap.size]? = some (.cells #[.int .i64 a, .int .i64 k] 89 (0, 0)) ∧ NotYet l a k j) (fun _ i _ => n - (intOf i).toNat)
  case atStart => exact ⟨0, rfl, by omega, World.grownBy_alloc w _ _, heap_alloc_new w _, fun i h hi => by omega⟩
  case round =>
    obtain ⟨j, rfl, hj, hgr, hb, hny⟩ := hrel
    have hnyH := Lib.hid hny; clear hny
    have hgrH := Lib.hid hgr
    have hbH := Lib.hid hb
    by_cases hlt : j < n
    · have hcj := hcH.out j (by rw [hlH.out]; exact hlt)
      obtain ⟨x1, hx1⟩ : ∃ x, x = (l[j]'(by rw [hlH.out]; exact hlt)).1 := ⟨_, rfl⟩
      obtain ⟨x2, hx2⟩ : ∃ x, x = (l[j]'(by rw [hlH.out]; exact hlt)).2 := ⟨_, rfl⟩
      rw [← hx1, ← hx2] at hcj
      have hxeH := Lib.hid (show l[j]'(by rw [hlH.out]; exact hlt) = (x1, x2) by rw [hx1, hx2])
      clear hx1 hx2
      have c1 : wr.cell? ⟨g, j * 2, none⟩ = some (.int .i64 x1) := (World.cell?_of_block (hgr.block g hg (by simp))).trans hcj.1
      have c2 : wr.cell? ⟨g, j * 2 + 1, none⟩ = some (.int .i64 x2) := (World.cell?_of_block (hgr.block g hg (by simp))).trans hcj.2
      have c3 := cell_blk hb (i := 0) rfl
      have c4 := cell_blk hb (i := 1) rfl
      clear hcj hb hgr
      have i1 : (j : Int) < (n : Int) := by omega
      have heq := eql_fault a k x1 x2
      have hgt : Try.prog.eqGuardType Try.prog.depth 89 = false := by kernel_rfl
      generalize hbb : (a == x1 && k == x2) = bb at *
      have hbbH := Lib.hid hbb; clear hbb
      go_wp2
      go_quiet (fail)
      cases bb with
      | true =>
        go_wp2
        go_ret
        refine ⟨⟨j, rfl, ⟨fun _ => ?_, fun _ => by omega⟩, by omega, by omega⟩, hgrH.out.trans (grown_drewN _ _ _)⟩
        have hb := hbbH.out
        simp only [Bool.and_eq_true, beq_iff_eq] at hb
        rw [hb.1, hb.2, ← hxeH.out]
        exact List.getElem_mem _
      | false =>
        go_wp2
        go_roundw
        case rel =>
          refine ⟨j + 1, by go_num, by omega, hgrH.out.trans (grown_drewN _ _ _), hbH.out, fun i h hi => ?_⟩
          by_cases hij : i < j
          · exact hnyH.out i h hij
          · obtain rfl : i = j := by omega
            intro he
            have h2 := hxeH.out
            rw [he] at h2
            have hb := hbbH.out
            simp only [Prod.mk.injEq] at h2
            rw [h2.1, h2.2] at hb
            simp at hb
        case measure => simp [intOf]; omega
    · go_wp2
      go_ret
      refine ⟨⟨-1, rfl, ⟨fun h => by omega, fun h => ?_⟩, by omega, by omega⟩, hgrH.out⟩
      obtain ⟨i, hi, he⟩ := List.getElem_of_mem h
      have := hlH.out
      exact absurd he (hnyH.out i hi (by omega))
theorem slices_index_any (l : List (Int × Int)) (a k : Int) (v : Value) (w : World) (hv : FRow w v l) (hl : l.length ≤ 1000000) :
    Calls Try.prog 63 #[v, .agg #[.int .i64 a, .int .i64 k]] w fun e w' => SomeInt l a k e ∧ w.grownBy w' none := by
  rcases hv.cases with ⟨rfl, rfl⟩ | ⟨g, cap, rfl, hg, hcap, hc⟩
  · clear hv
    go_enter Try.func63, Try.ntmps63
    go_wp2
    refine wp_loop_rounds 1 ?_
    rw [rounds_succ]
    go_wp2
    go_ret
    exact ⟨⟨-1, rfl, by simp, by omega, by omega⟩, World.grownBy_alloc w _ _⟩
  · exact slices_index l a k g cap l.length w rfl (by omega) hg hc

def SomeBoolF (l : List (Int × Int)) (e : Ending) : Prop := ∃ b : Bool, e = .returned (.bool b) ∧ (l = [] → b = false)

set_option maxRecDepth 100000 in
theorem slices_contains (l : List (Int × Int)) (a k : Int) (v : Value) (w : World) (hv : FRow w v l) (hl : l.length ≤ 1000000) :
    Calls Try.prog 56 #[v, .agg #[.int .i64 a, .int .i64 k]] w fun e w' => e = .returned (.bool (decide ((a, k) ∈ l))) ∧ w.grownBy w' none := by
  have hvH := Lib.hid hv; clear hv
  have hg0 : w.grownBy (w.alloc (.cells #[.int .i64 a, .int .i64 k] 89)) none := World.grownBy_alloc w _ _
  go_enter Try.func56, Try.ntmps56
  go_wp2_with fail
  refine (slices_index_any l a k v _ (hvH.out.step (T := []) (g := id) (Step.alloc _) (fun _ _ h => by cases h)) hl).mono ?_
  rintro e w1 ⟨⟨r, rfl, h1, h2, h3⟩, hg1⟩
  have hgH := Lib.hid (hg0.trans hg1)
  have h1H := Lib.hid h1
  clear hg0 hg1 h1
  go_wp2_with fail
  go_ret
  exact ⟨by rw [← decide_eq_decide.2 h1H.out]; rfl, hgH.out⟩

set_option maxRecDepth 100000 in
set_option maxHeartbeats 1000000 in
theorem plan_now (l : List (Int × Int)) (pd : Nat) (lv : Value) (since kind : Int) (w : World) (hv : FRow w lv l) (hl : l.length ≤ 1000000) (c7 : w.cell? ⟨pd, 7, none⟩ = some (.int .i64 since)) :
    Calls Try.prog 48 #[.agg #[.pointer (some ⟨pd, 0, none⟩), lv], .int .i64 kind] w fun e w' => e = .returned (.bool (decide ((since, kind) ∈ l))) ∧ w.grownBy w' none := by
  have hlv : ∃ ad n cap, lv = .slice ad n cap := by
    rcases hv.cases with ⟨rfl, _⟩ | ⟨g, cap, rfl, _⟩
    · exact ⟨_, _, _, rfl⟩
    · exact ⟨_, _, _, rfl⟩
  obtain ⟨ad, n, cap, rfl⟩ := hlv
  have hvH := Lib.hid hv; clear hv
  have hlt : pd < w.heap.size := World.block_lt_of_cell? w _ c7
  have hg0 : w.grownBy (w.alloc (.cells #[.pointer (some ⟨pd, 0, none⟩), .slice ad n cap] 91)) none := World.grownBy_alloc w _ _
  have k1 : (w.alloc (.cells #[.pointer (some ⟨pd, 0, none⟩), .slice ad n cap] 91)).cell? ⟨pd, 7, none⟩ = some (.int .i64 since) := (World.cell?_alloc_lt w _ ⟨pd, 7, none⟩ hlt).trans c7
  go_enter Try.func48, Try.ntmps48
  go_wp2_with fail
  generalize hW : w.alloc (.cells #[.pointer (some ⟨pd, 0, none⟩), .slice ad n cap] 91) = W at *
  have k2 : W.cell? ⟨w.heap.size, 0, none⟩ = some (.pointer (some ⟨pd, 0, none⟩)) := by rw [← hW]; simp
  have k3 : W.cell? ⟨w.heap.size, 1, none⟩ = some (.slice ad n cap) := by rw [← hW]; simp
  have hvW : FRow W (.slice ad n cap) l := by rw [← hW]; exact hvH.out.step (T := []) (g := id) (Step.alloc _) (fun _ _ h => by cases h)
  have hvWH := Lib.hid hvW; clear hvW
  have hgH := Lib.hid hg0
  clear hW hg0
  have hsz : w.heap.size < W.heap.size := World.block_lt_of_cell? W _ k2
  have hsz2 : pd < W.heap.size := World.block_lt_of_cell? W _ k1
  generalize w.heap.size = N at *
  go_region_held3 (fun w' => w'.cell? ⟨N, 0, none⟩ = some (.pointer (some ⟨pd, 0, none⟩)) ∧ w'.cell? ⟨N, 1, none⟩ = some (.slice ad n cap) ∧ w'.cell? ⟨pd, 7, none⟩ = some (.int .i64 since)) (first | exact ⟨k2, k3, k1⟩ | exact ⟨(World.cell?_of_block (hg1.block N hsz (by simp))).trans k2, (World.cell?_of_block (hg1.block N hsz (by simp))).trans k3, (World.cell?_of_block (hg1.block pd hsz2 (by simp))).trans k1⟩) (first | (go_at_call 56; refine (slices_contains l since kind _ _ (by exact hvWH.out) hl).mono ?_; rintro e w1 ⟨rfl, hg1⟩))
  all_goals go_wp2
  all_goals go_ret
  all_goals exact ⟨rfl, (hgH.out.trans (grown_drew _ _)).trans hg1⟩

theorem info_fault : (Try.prog.info? 89).map (fun i => (i.zero, i.size, i.bytes)) = some (some (.agg #[.int .i64 0, .int .i64 0]), 2, 16) := by kernel_rfl

theorem FRow.src {w : World} {v : Value} {l : List (Int × Int)} (h : FRow w v l) : Src w 2 v l.length (faultVals l) := by
  refine ⟨faultVals_length l, ?_⟩
  rcases h.2 with ⟨rfl, hn⟩ | ⟨g, cap, cur, rfl, hb, hg, hn, hc, hs, ht⟩
  · exact .inl ⟨rfl, hn⟩
  · exact .inr ⟨⟨g, 0, none⟩, cap, rfl, World.ownsRow.cells h (g := g) rfl⟩

set_option maxRecDepth 100000 in
set_option maxHeartbeats 1000000 in
theorem faults_clone (l : List (Int × Int)) (v : Value) (w : World) (hv : FRow w v l) (hl : l.length ≤ 1000000) :
    Calls Try.prog 47 #[v] w fun e w' => ∃ v', e = .returned v' ∧ FRow w' v' l ∧ w.grownBy w' none ∧ ∀ k, v'.ownBlock = some k → w.heap.size ≤ k := by
  rcases hv.cases with ⟨rfl, rfl⟩ | ⟨g, cap, rfl, hg, hcap, hc⟩
  · have hnil := fun w : World => Lib.run_eql_slice_nil w 52 89 none 0 0 0 0 Try.underlying52
    clear hv
    go_enter Try.func47, Try.ntmps47
    go_wp2
    go_ret
    exact ⟨_, rfl, World.ownsRow_nil _ _ _ _, grown_refl _ _, fun _ h => by cases h⟩
  · obtain ⟨i0, hi, hz0, hz1, hz2⟩ := info_parts info_fault
    have hvH := Lib.hid hv; clear hv hc
    have hbs : ∀ w : World, (Instr.buildSlice 52 0 #[]).run Try.prog w = .ok (.slice (some ⟨w.heap.size, 0, none⟩) 0 0) (w.alloc (.cells #[] 89)) := fun _ => by kernel_rfl
    have hnil := fun w : World => Lib.run_eql_slice_nil w 52 89 (some ⟨g, 0, none⟩) l.length cap 0 0 Try.underlying52
    go_enter Try.func47, Try.ntmps47
    go_wp2_with (at_builtin; refine wpList_app rfl _ _ 52 rfl 89 i0 (.agg #[.int .i64 0, .int .i64 0]) 2 16 Try.underlying52 hi hz0 hz1 hz2 rfl (by decide) (.slice (some ⟨w.heap.size, 0, none⟩) 0 0) 0 [] rfl (by exact World.ownsRow_made w #[] 0 (Nat.zero_le _) (Nat.zero_le _) rfl) _ l.length (faultVals l) rfl (by exact (hvH.out.step (T := []) (g := id) (Step.alloc _) (by intro k _ h; cases h)).src) (faultVals_one l) (by omega) (by omega) ?_; intro ad' c' w1 hown' hgrow hnil' hat)
    go_ret
    rw [Nat.zero_add] at hat
    refine ⟨.slice ad' l.length c', rfl, by simpa [FRow] using hown', grown_fresh (World.grownBy_alloc w _ none) hgrow (fun k hk => by cases hk; exact Nat.le_refl _), fun k hk => ?_⟩
    rcases hat with hat | hat
    · rw [hat] at hk; cases hk; exact Nat.le_refl _
    · rw [hat] at hk; cases hk; simp
end Go.Proofs.Ytlppoimdfclbaaa
