/- bson: lay upon bytes that are there. -/
import Derived.Test.YtbkmnhogfegmcaaDoorBsE1
set_option linter.unusedVariables false
set_option linter.unusedSimpArgs false
namespace Go.Proofs.YtbkmnhogfegmcaaDoor
open Go.RowKit

section
variable {w : World} {M : Bs} {g N cap : Nat}
theorem Row.block (h : Row w (.slice (some ⟨g, 0, none⟩) N cap) M) : ∃ cur, w.heap[g]? = some (.cells cur 5 (0, 0)) ∧ N = M.length ∧ N ≤ cap ∧ cap ≤ maxLen ∧ cur.size = cap ∧ cur.toList.take N = byteVals M := by
  rcases h.2 with ⟨e, _⟩ | ⟨g', cap', cur, e, _, h1, h2, h3, h4, h5⟩
  · cases e
  · injection e with e1 e2 e3
    injection e1 with e1
    injection e1 with e1
    subst e1 e2 e3
    exact ⟨cur, h1, rfl, h2, h3, by simpa using h4, by simpa using h5⟩
theorem Row.of_block {cur : Array Value} (h1 : w.heap[g]? = some (.cells cur 5 (0, 0))) (h2 : N = M.length) (h3 : N ≤ cap) (h4 : cap ≤ maxLen) (h5 : cur.size = cap) (h6 : cur.toList.take N = byteVals M) : Row w (.slice (some ⟨g, 0, none⟩) N cap) M := by
  subst h2
  exact ⟨by simp, .inr ⟨g, cap, cur, rfl, Nat.zero_le _, h1, h3, h4, by simpa using h5, by simpa using h6⟩⟩

set_option maxRecDepth 20000 in
/-- A byte upon one that is there. -/
theorem run_over_byte (ty : TypeId) (h : Row w (.slice (some ⟨g, 0, none⟩) N cap) M) (p : Nat) (hp : p < N) (c : UInt8) {a : Addr} (ha : w.cell? a = some (.int .u8 (c.toNat : Int))) :
    ∃ w', (Builtin.append_ #[22, 22] ty #[.slice (some ⟨g, 0, none⟩) p cap, .slice (some a) 1 1]).run Tryd.prog w = .ok (.slice (some ⟨g, 0, none⟩) (p + 1) cap) w' ∧ Row w' (.slice (some ⟨g, 0, none⟩) N cap) (M.set p c) ∧ w.grownBy w' (some g) := by
  obtain ⟨i, hi, hz0, hz1, hz2⟩ := info_split info_u8
  obtain ⟨cur, h1, h2, h3, h4, h5, h6⟩ := h.block
  have hr := run_append_room (P := Tryd.prog) w 22 ty 5 i Tryd.underlying22 hi g p cap cur h1 a 1 1 [.int .u8 (c.toNat : Int)] (by rw [hz1]; rfl) (fun j u hj => by
    cases j with
    | zero =>
      simp only [List.getElem?_cons_zero, Option.some.injEq] at hj
      subst hj
      rw [show a.add 0 = a by unfold Addr.add; split <;> simp_all]; exact ha
    | succ j => simp at hj) (by intro u hu; simp at hu; subst hu; rfl) (by omega) (by rw [hz1]; simp; omega)
  refine ⟨_, hr, ?_, ⟨rfl, rfl, rfl, by simp, fun k _ hk => setRow_other w g k _ (fun e => hk (by simp [e]))⟩⟩
  refine Row.of_block (setRow_heap w g cur _ 5 _ h1) (by simpa using h2) h3 h4 ?_ ?_
  · rw [hz1]; simp; omega
  · rw [hz1, Nat.mul_one]
    have hl : (byteVals M).length = N := by simp [h2]
    have e1 : cur.toList.take p = (byteVals M).take p := by rw [← h6, List.take_take, Nat.min_eq_left (by omega)]
    have e2 : (cur.toList.drop (p + 1)).take (N - (p + 1)) = (byteVals M).drop (p + 1) := by rw [← h6, List.drop_take]
    have e3 : byteVals (M.set p c) = (byteVals M).take p ++ ([.int .u8 (c.toNat : Int)] ++ (byteVals M).drop (p + 1)) := by
      unfold byteVals
      rw [List.map_set, List.set_eq_take_append_cons_drop, if_pos (by simpa using (by omega : p < M.length))]
      rfl
    have hpl : (cur.toList.take p).length = p := by simp; omega
    rw [e3]
    simp only [List.length_singleton, List.append_assoc]
    rw [List.take_append, hpl, List.take_of_length_le (by omega), e1]
    congr 1
    rw [List.take_append, List.take_of_length_le (by simp; omega)]
    rw [List.length_singleton, show N - p - 1 = N - (p + 1) by omega, e2]
theorem wpList_over_byte {ops : Array Oper} {rest : List Oper} {o : Oper} {a : Act} {Q : Exit → Act → World → Prop} (hgd : o.guard = none) (s x : Operand) (ho : o.op = .call { callee := .builtin .append, args := #[s, x], argTypes := #[22, 22] })
    (h : Row w (.slice (some ⟨g, 0, none⟩) N cap) M) (p : Nat) (hs : a.eval s = .slice (some ⟨g, 0, none⟩) p cap) (hp : p < N) (c : UInt8) {z : Int} (hx : a.eval x = .slice (some ⟨w.heap.size, 0, none⟩) 1 1) (hz : z = (c.toNat : Int))
    (hK : ∀ w', Row w' (.slice (some ⟨g, 0, none⟩) N cap) (M.set p c) → w.grownBy w' (some g) → wpList Tryd.prog ops Q rest (a.put o.dst (.slice (some ⟨g, 0, none⟩) (p + 1) cap)) w') :
    wpList Tryd.prog ops Q (o :: rest) a (w.alloc (.cells #[.int .u8 z] 5)) := by
  subst hz
  refine wpList_plain hgd fun K hK' => ?_
  have hrow : Row (w.alloc (.cells #[.int .u8 (c.toNat : Int)] 5)) (.slice (some ⟨g, 0, none⟩) N cap) M := World.ownsRow.alloc h _
  obtain ⟨w', hr, h2, h3⟩ := run_over_byte o.type hrow p hp c (a := ⟨w.heap.size, 0, none⟩) (cell_blk (heap_alloc_new w _) rfl)
  unfold Oper.wp execOp
  simp only [ho, resolve, invoke, builtin, Sem.run_bind, Sem.run_pure, Result.andThen_ok, List.map_toArray, List.map_cons, List.map_nil, hs, hx, hr]
  exact hK' _ _ (hK w' h2 ((World.grownBy_alloc w _ (some g)).trans h3))
end

theorem set_lay (l x r : Bs) (j : Nat) (h : j < x.length) (c : UInt8) : (l ++ (x ++ r)).set (l.length + j) c = l ++ (x.set j c ++ r) := by
  rw [List.set_append_right _ _ (by omega), Nat.add_sub_cancel_left, List.set_append_left _ _ h]

set_option maxRecDepth 100000 in
set_option maxHeartbeats 2000000 in
theorem bs_lay_over (l x r : Bs) (n : Int) (g N cap : Nat) (w : World) (hx : x.length = 4) (hb : N ≤ 1000000000) (hn : -9223372036854775808 ≤ n ∧ n ≤ 9223372036854775807) (h : Row w (.slice (some ⟨g, 0, none⟩) N cap) (l ++ (x ++ r))) :
    Calls Tryd.prog 60 #[.slice (some ⟨g, 0, none⟩) l.length cap, .int .i64 n, .int .i64 4] w fun e w' => (∃ v, e = .returned v) ∧ Row w' (.slice (some ⟨g, 0, none⟩) N cap) (l ++ (layI 4 n ++ r)) ∧ w.grownBy w' (some g) := by
  have hNl : N = l.length + 4 + r.length := by
    rw [h.len]; simp only [List.length_append, hx]; omega
  have hH := Lib.hid h
  have hNlH := Lib.hid hNl
  obtain ⟨p0, hp0⟩ : ∃ p0, p0 = l.length := ⟨_, rfl⟩
  have hp0H := Lib.hid hp0
  rw [← hp0]
  clear h hNl hp0
  go_enter Tryd.func60, Tryd.ntmps60
  go_wp2_with fail
  go_loopw [0, 9] (fun bv i wr => ∃ j : Nat, i = .int .i64 j ∧ j ≤ 4 ∧ bv = .slice (some ⟨g, 0, none⟩) (p0 + j) cap ∧ Row wr (.slice (some ⟨g, 0, none⟩) N cap) (l ++ ((layI 4 n).take j ++ x.drop j ++ r)) ∧ w.grownBy wr (some g)) (fun _ i _ => 4 - (intOf i).toNat)
  case atStart => exact ⟨0, rfl, Nat.zero_le _, rfl, by simpa using hH.out, grown_refl _ _⟩
  case round =>
    obtain ⟨j, rfl, hj, rfl, hrow, hgr⟩ := hrel
    have hrowH := Lib.hid hrow
    have hgrH := Lib.hid hgr
    clear hrow hgr
    by_cases hjk : j < 4
    · have hjk1 : (j : Int) < 4 := by omega
      have hpN : p0 + j < N := by rw [hNlH.out, hp0H.out]; omega
      go_wp2_with (at_builtin; refine wpList_over_byte rfl _ _ rfl hrowH.out (p0 + j) (by rfl) hpN (UInt8.ofNat ((n % 18446744073709551616).toNat / 256 ^ j)) (by rfl) (layI_cell n j (by omega)) ?_; intro w2 hr2 hg2; have hr2H := Lib.hid hr2; have hg2H := Lib.hid hg2; clear hr2 hg2)
      go_roundw
      case rel =>
        refine ⟨j + 1, rfl, by omega, rfl, ?_, hgrH.out.trans hg2H.out⟩
        have h1 := hr2H.out
        have hl4 : ((layI 4 n).take j).length = j := by rw [List.length_take, layI_length]; omega
        rw [hp0H.out, set_lay l _ r j (by simp [hl4, hx]; omega)] at h1
        rw [layI_take n 4 j hjk, List.append_assoc]
        have h2 : ((layI 4 n).take j ++ x.drop j).set j (UInt8.ofNat ((n % 18446744073709551616).toNat / 256 ^ j)) = (layI 4 n).take j ++ ([UInt8.ofNat ((n % 18446744073709551616).toNat / 256 ^ j)] ++ x.drop (j + 1)) := by
          rw [List.set_append_right _ _ (by omega), hl4, Nat.sub_self]
          congr 1
          have : x.drop j ≠ [] := by intro e; have := congrArg List.length e; simp at this; omega
          rw [List.drop_eq_getElem_cons (by omega : j < x.length)]; rfl
        rw [h2] at h1
        simpa using h1
      case measure => simp [intOf]; omega
    · have hjk1 : ¬ ((j : Int) < 4) := by omega
      obtain rfl : j = 4 := by omega
      go_wp2_with fail
      go_ret
      refine ⟨⟨_, rfl⟩, ?_, hgrH.out⟩
      have h1 := hrowH.out
      rw [List.take_of_length_le (by rw [layI_length]; exact Nat.le_refl _), List.drop_of_length_le (by omega)] at h1
      simpa using h1
end Go.Proofs.YtbkmnhogfegmcaaDoor
