/- heap.Push and heap.Pop over disk's numbers. -/
import Derived.Test.YtlppoimdfclbaaaHeap
set_option linter.unusedVariables false
set_option linter.unusedSimpArgs false
namespace Go.Proofs.Ytlppoimdfclbaaa
open Go.RowKit

theorem nums_len' (n : Nat) (ad : Option Addr) (cap : Nat) (w : World) :
    Calls Try.prog 64 #[.slice ad n cap] w fun e w' => e = .returned (.int .i64 n) ∧ w = w' := by
  have := nums_len (List.replicate n 0) ad cap w
  rw [List.length_replicate] at this
  exact this

set_option maxRecDepth 100000 in
set_option maxHeartbeats 1000000 in
theorem heap_push (g : Nat → Nat) (r bf : Nat) (sv : Value) (l : List Int) (x : Int) (w : World) (hn : NumsAt g w r bf sv l) (hl : l.length ≤ 100000) (hrl : r < w.heap.size) :
    Calls Try.prog 62 #[.iface 66 (.pointer (some ⟨bf, 0, none⟩)), .iface 3 (.int .i64 x)] w fun e w' => e = .returned (.tuple #[]) ∧ ∃ g' sv' l', l'.Perm (l ++ [x]) ∧ NumsAt g' w' r bf sv' l' ∧ Step [r] g g' w w' := by
  have hnH := Lib.hid hn; clear hn
  have mp := meth_push ⟨bf, 0, none⟩ w
  go_enter Try.func62, Try.ntmps62
  go_wp2_with fail
  refine (nums_push g r bf sv l x w hnH.out (by omega) hrl).mono ?_
  rintro e w1 ⟨rfl, g1, sv1, hn1, hs1⟩
  clear mp
  obtain ⟨ad, cap, rfl⟩ := hn1.row.len
  have c0 := cell_blk hn1.blk (i := 0) rfl
  have ml := meth_len _ _ _ c0
  have hn1H := Lib.hid hn1; clear hn1
  have hs1H := Lib.hid hs1; clear hs1
  generalize hln : (l ++ [x]).length = n at *
  have hnl : n = l.length + 1 := by rw [← hln]; simp
  have hlnH := Lib.hid hln; clear hln
  have hn0 : 1 ≤ n := by omega
  have hn9 : n ≤ 100001 := by omega
  clear hnl
  go_wp2_with fail
  refine (nums_len' n ad cap w1).mono ?_
  rintro e w' ⟨rfl, rfl⟩
  go_wp2_with fail
  rw [show ((n : Int) - 1) = ((n - 1 : Nat) : Int) by omega]
  refine (heap_up g1 r bf _ (l ++ [x]) (n - 1) _ hn1H.out (by rw [hlnH.out]; omega) (by rw [hlnH.out]; omega)).mono ?_
  rintro e w2 ⟨rfl, l2, hp, hn2, hs2⟩
  go_wp2_with fail
  go_end0
  exact ⟨rfl, g1, _, l2, hp, hn2, hs1H.out.tail hs2⟩

set_option maxRecDepth 100000 in
set_option maxHeartbeats 1000000 in
theorem heap_pop (g : Nat → Nat) (r bf : Nat) (sv : Value) (l : List Int) (w : World) (hn : NumsAt g w r bf sv l) (hl : l.length ≤ 100000) (h0 : 0 < l.length) :
    Calls Try.prog 65 #[.iface 66 (.pointer (some ⟨bf, 0, none⟩))] w fun e w' => ∃ x sv' l', e = .returned (.iface 3 (.int .i64 x)) ∧ (l' ++ [x]).Perm l ∧ NumsAt g w' r bf sv' l' ∧ Step [r] g g w w' := by
  obtain ⟨gb, cap, rfl⟩ := hn.row.form (by intro h; rw [h] at h0; simp at h0)
  have c0 := cell_blk hn.blk (i := 0) rfl
  have hnH := Lib.hid hn; clear hn
  have ml := meth_len _ _ _ c0
  have ms := meth_swap _ _ _ c0
  go_enter Try.func65, Try.ntmps65
  go_wp2_with fail
  refine (nums_len' l.length _ cap w).mono ?_
  rintro e w' ⟨rfl, rfl⟩
  go_wp2_with fail
  refine (nums_swap' l l.length gb cap _ _ _ rfl (by omega) (by omega) (by omega) (by omega) hnH.out.row).mono ?_
  rintro e w1 ⟨rfl, l1, hp1, hr1, hg1⟩
  have hsw := hnH.out.swapped hr1 hg1
  have hn1H := Lib.hid hsw.1
  have hs1H := Lib.hid hsw.2
  have hp1H := Lib.hid hp1
  have hl1 := Lib.hid hp1.length_eq
  clear hsw hp1 hr1 hg1 ml ms c0
  go_wp2_with fail
  rw [show ((l.length : Int) - 1) = ((l.length - 1 : Nat) : Int) by omega]
  refine (heap_down g r bf _ l1 (l.length - 1) _ hn1H.out (by rw [hl1.out]; omega) (by rw [hl1.out]; omega)).mono ?_
  rintro e w2 ⟨⟨b, rfl⟩, l2, hp2, hn2, hs2⟩
  have hl2 : l2.length = l.length := hp2.length_eq.trans hl1.out
  obtain ⟨l3, x, rfl⟩ : ∃ l3 x, l2 = l3 ++ [x] := by
    refine ⟨l2.dropLast, l2.getLast (by intro h; rw [h] at hl2; simp at hl2; omega), ?_⟩
    exact (List.dropLast_concat_getLast _).symm
  have hl3 : l3.length ≤ 100000 := by simp at hl2; omega
  have hn2H := Lib.hid hn2
  have hs2H := Lib.hid hs2
  have hp2H := Lib.hid hp2
  clear hn2 hs2 hp2 hl2
  have mp := meth_pop ⟨bf, 0, none⟩ w2
  go_wp2_with fail
  refine (nums_pop g r bf _ l3 x _ hn2H.out (by omega)).mono ?_
  rintro e w3 ⟨rfl, sv3, hn3, hs3⟩
  clear mp
  go_wp2_with fail
  go_ret
  exact ⟨x, sv3, l3, rfl, hp2H.out.trans hp1H.out, hn3, (hs1H.out.tail hs2H.out).tail hs3⟩
end Go.Proofs.Ytlppoimdfclbaaa
