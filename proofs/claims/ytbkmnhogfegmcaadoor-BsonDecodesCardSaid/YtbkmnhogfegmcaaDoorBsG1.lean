/- bson: the reader takes bytes and numbers. -/
import Derived.Test.YtbkmnhogfegmcaaDoorBsA2
import Derived.Test.YtbkmnhogfegmcaaDoorBsR
import Derived.Laws.BitsAllLaws
set_option linter.unusedVariables false
set_option linter.unusedSimpArgs false
namespace Go.Proofs.YtbkmnhogfegmcaaDoor
open Go.RowKit

theorem gwf_id (w : World) : GWf id w := ⟨fun _ h => h, fun _ _ => rfl⟩
/-- A step that may touch what is new, too. -/
theorem Step.tailNew {T T2 : List Nat} {w w1 w2 : World} (h : Step T id id w w1) (h2 : Step T2 id id w1 w2) (hT : ∀ r ∈ T2, r ∈ T ∨ w.heap.size ≤ r) : Step T id id w w2 := h.transNew (gwf_id w) h2 hT

/-- The reader's two cells: bytes, and a place among them. -/
structure Rd (w : World) (R B o c : Nat) (b : Bs) (a : Nat) : Prop where
  cell : w.heap[R]? = some (.cells #[.slice (some ⟨B, o, none⟩) b.length c, .int .i64 a] 62 (0, 0))
  bytes : ∀ i (h : i < b.length), w.cell? ⟨B, o + i, none⟩ = some (.int .u8 (b[i].toNat : Int))
  le : a ≤ b.length
  cap : b.length ≤ c
  ne : B ≠ R
  small : b.length ≤ 65536
  blt : B < w.heap.size
section
variable {w w' : World} {R B o c a : Nat} {b : Bs}
theorem Rd.step (h : Rd w R B o c b a) (hs : Step [] id id w w') : Rd w' R B o c b a :=
  ⟨hs.at h.cell (by simp), fun i hi => by
    have hb := World.block_lt_of_cell? w _ (h.bytes i hi)
    rw [cell_of_blk_eq (hs.keep B hb (by simp)).2]; exact h.bytes i hi, h.le, h.cap, h.ne, h.small, hs.lt h.blt⟩
theorem Rd.moved {n : Nat} (h : Rd w R B o c b a) (hn : n ≤ b.length) : Rd (w.setCell ⟨R, 1, none⟩ (.int .i64 n)) R B o c b n :=
  ⟨by have := set_blk h.cell 1 (.int .i64 n); simpa using this, fun i hi => by
    have hne := h.ne
    rw [World.cell?_setCell_other _ _ _ _ (by simp [hne])]; exact h.bytes i hi, hn, h.cap, h.ne, h.small, by simpa [World.setCell] using h.blt⟩
theorem Rd.kept {V : Nat} (h : Rd w R B o c b a) (hg : w.grownBy w' (some V)) (hR : V ≠ R) (hB : V ≠ B) : Rd w' R B o c b a :=
  ⟨(hg.block R (lt_of_block h.cell) (by simp; exact fun e => hR e.symm)).trans h.cell, fun i hi => by rw [cell_of_blk_eq (hg.block B h.blt (by simp; exact fun e => hB e.symm))]; exact h.bytes i hi, h.le, h.cap, h.ne, h.small, Nat.lt_of_lt_of_le h.blt hg.size⟩
end

/-- What is taken: an address of so many bytes. -/
def Took (B o c a n : Nat) (e : Ending) : Prop := ∃ ad, e = .returned (.slice (some ad) n (c - a)) ∧ (0 < n → ad = ⟨B, o + a, none⟩)

set_option maxRecDepth 100000 in
set_option maxHeartbeats 2000000 in
theorem take_ok {w : World} {R B o c a : Nat} {b : Bs} (n : Nat) (h : Rd w R B o c b a) (hn : a + n ≤ b.length) :
    Calls Tryd.prog 74 #[.pointer (some ⟨R, 0, none⟩), .int .i64 n] w fun e w' => Took B o c a n e ∧ Rd w' R B o c b (a + n) ∧ Step [R] id id w w' := by
  have hc := h.cap
  have hsm := h.small
  have k0 := cell_blk h.cell (i := 0) rfl
  have k1 := cell_blk h.cell (i := 1) rfl
  have f1 := free_blk h.cell 1
  have hle := h.le
  have hH := Lib.hid h
  clear h
  have hw1 : IntKind.i64.wrap ((b.length : Int) - (a : Int)) = (b.length : Int) - (a : Int) := IntWalk.i64_in _ (by omega)
  have hw2 : IntKind.i64.wrap ((a : Int) + (n : Int)) = (a : Int) + (n : Int) := IntWalk.i64_in _ (by omega)
  have hd : decide ((n : Int) ≤ (b.length : Int) - (a : Int)) = true := decide_eq_true (by omega)
  have h0 : (0 : Int) ≤ (a : Int) := by omega
  have h1 : (a : Int) ≤ (a : Int) + (n : Int) := by omega
  have h2 : (a : Int) + (n : Int) ≤ (c : Int) := by omega
  go_enter Tryd.func74, Tryd.ntmps74
  go_wp2_with fail
  go_quiet ((go_at_call 25; exact quietL (must_ok 2 _)))
  go_wp2_with fail
  go_quiet (fail)
  go_wp2_with fail
  · subst h
    go_ret
    refine ⟨⟨⟨B, o, none⟩, by rw [Nat.sub_self]; rfl, fun h => by omega⟩, ?_, (Step.drewN w _).tail (Step.set _ _ (by simp))⟩
    have := fun k => (hH.out.step (Step.drewN w k)).moved hn
    simp only [Int.natCast_add] at this; exact this _
  · go_ret
    refine ⟨⟨_, rfl, fun _ => rfl⟩, ?_, (Step.drewN w _).tail (Step.set _ _ (by simp))⟩
    have := fun k => (hH.out.step (Step.drewN w k)).moved hn
    simp only [Int.natCast_add] at this; exact this _

set_option maxRecDepth 100000 in
set_option maxHeartbeats 2000000 in
theorem take_bad {w : World} {R N c a : Nat} {ad : Option Addr} (n : Int) (h : w.heap[R]? = some (.cells #[.slice ad N c, .int .i64 a] 62 (0, 0))) (hN : N ≤ 65536) (ha : a ≤ N) (hn : ¬ n ≤ (N : Int) - (a : Int)) :
    Calls Tryd.prog 74 #[.pointer (some ⟨R, 0, none⟩), .int .i64 n] w fun e w' => e = broke 2 ∧ Step [] id id w w' := by
  have k0 := cell_blk h (i := 0) rfl
  have k1 := cell_blk h (i := 1) rfl
  have hw1 : IntKind.i64.wrap ((N : Int) - (a : Int)) = (N : Int) - (a : Int) := IntWalk.i64_in _ (by omega)
  have hd : decide (n ≤ (N : Int) - (a : Int)) = false := decide_eq_false hn
  clear h
  go_enter Tryd.func74, Tryd.ntmps74
  go_wp2_with fail
  refine wp_region_held_drew (S := fun w' => w'.cell? ⟨R, 0, none⟩ = some (.slice ad N c) ∧ w'.cell? ⟨R, 1, none⟩ = some (.int .i64 a)) (by kernel_rfl) ⟨k0, k1⟩ (fun hHeld => ?_)
  refine wpAnyH_take (i := 0) (v := ?_) rfl (by kernel_rfl) (by kernel_rfl) (by kernel_rfl) (fun _ _ _ h => h) (Or.inl ⟨by kernel_rfl, ?_⟩) hHeld ?_
  rotate_left
  · intro w' hSw; (try dsimp only at hSw); go_simp
    all_goals (with_reducible rfl)
  simp only [Act.put, List.getElem_toArray, List.getElem_cons_zero, List.getElem_cons_succ, List.setIfInBounds_toArray, List.set_cons_zero, List.set_cons_succ]
  refine wpAnyH_take (i := 1) (v := ?_) rfl (by kernel_rfl) (by kernel_rfl) (by kernel_rfl) (fun _ _ _ h => h) (Or.inl ⟨by kernel_rfl, ?_⟩) hHeld ?_
  rotate_left
  · intro w' hSw; (try dsimp only at hSw); go_simp
    all_goals (with_reducible rfl)
  simp only [Act.put, List.getElem_toArray, List.getElem_cons_zero, List.getElem_cons_succ, List.setIfInBounds_toArray, List.set_cons_zero, List.set_cons_succ]
  refine wpAnyH_take (i := 2) (v := ?_) rfl (by kernel_rfl) (by kernel_rfl) (by kernel_rfl) (fun _ _ _ h => h) (Or.inl ⟨by kernel_rfl, ?_⟩) hHeld ?_
  rotate_left
  · intro w' hSw; (try dsimp only at hSw); go_simp
    all_goals (with_reducible rfl)
  simp only [Act.put, List.getElem_toArray, List.getElem_cons_zero, List.getElem_cons_succ, List.setIfInBounds_toArray, List.set_cons_zero, List.set_cons_succ]
  refine wpAnyH_take (i := 3) (v := ?_) rfl (by kernel_rfl) (by kernel_rfl) (by kernel_rfl) (fun _ _ _ h => h) (Or.inl ⟨by kernel_rfl, ?_⟩) hHeld ?_
  rotate_left
  · intro w' hSw; (try dsimp only at hSw); go_simp
    all_goals (with_reducible rfl)
  simp only [Act.put, List.getElem_toArray, List.getElem_cons_zero, List.getElem_cons_succ, List.setIfInBounds_toArray, List.set_cons_zero, List.set_cons_succ]
  refine wpAnyH_take (i := 4) (v := ?_) rfl (by kernel_rfl) (by kernel_rfl) (by kernel_rfl) (fun _ _ _ h => h) (Or.inl ⟨by kernel_rfl, ?_⟩) hHeld ?_
  rotate_left
  · intro w' hSw; (try dsimp only at hSw); go_simp
    all_goals (with_reducible rfl)
  simp only [Act.put, List.getElem_toArray, List.getElem_cons_zero, List.getElem_cons_succ, List.setIfInBounds_toArray, List.set_cons_zero, List.set_cons_succ]
  refine wpAnyH_take (i := 5) (v := ?_) rfl (by kernel_rfl) (by kernel_rfl) (by kernel_rfl) (fun _ _ _ h => h) (Or.inl ⟨by kernel_rfl, ?_⟩) hHeld ?_
  rotate_left
  · intro w' hSw; (try dsimp only at hSw); go_simp
    all_goals (with_reducible rfl)
  simp only [Act.put, List.getElem_toArray, List.getElem_cons_zero, List.getElem_cons_succ, List.setIfInBounds_toArray, List.set_cons_zero, List.set_cons_succ]
  refine wpAnyH_take (i := 6) (v := ?_) rfl (by kernel_rfl) (by kernel_rfl) (by kernel_rfl) (fun _ _ _ h => h) (Or.inl ⟨by kernel_rfl, ?_⟩) hHeld ?_
  rotate_left
  · intro w' hSw; (try dsimp only at hSw); go_simp
    all_goals (with_reducible rfl)
  simp only [Act.put, List.getElem_toArray, List.getElem_cons_zero, List.getElem_cons_succ, List.setIfInBounds_toArray, List.set_cons_zero, List.set_cons_succ]
  refine wpAnyH_take (i := 7) (v := ?_) rfl (by kernel_rfl) (by kernel_rfl) (by kernel_rfl) (fun _ _ _ h => h) (Or.inl ⟨by kernel_rfl, ?_⟩) hHeld ?_
  rotate_left
  · intro w' hSw; (try dsimp only at hSw); go_simp
    all_goals (with_reducible rfl)
  simp only [Act.put, List.getElem_toArray, List.getElem_cons_zero, List.getElem_cons_succ, List.setIfInBounds_toArray, List.set_cons_zero, List.set_cons_succ]
  refine wpAnyH_take (i := 8) (v := ?_) rfl (by kernel_rfl) (by kernel_rfl) (by kernel_rfl) (fun _ _ _ h => h) (Or.inl ⟨by kernel_rfl, ?_⟩) hHeld ?_
  rotate_left
  · intro w' hSw; (try dsimp only at hSw); go_simp
    all_goals (with_reducible rfl)
  simp only [Act.put, List.getElem_toArray, List.getElem_cons_zero, List.getElem_cons_succ, List.setIfInBounds_toArray, List.set_cons_zero, List.set_cons_succ]
  refine wpAnyH_take (i := 9) (v := ?_) rfl (by kernel_rfl) (by kernel_rfl) (by kernel_rfl) (fun _ _ _ h => h) (Or.inl ⟨by kernel_rfl, ?_⟩) hHeld ?_
  rotate_left
  · intro w' hSw; (try dsimp only at hSw); go_simp
    all_goals (with_reducible rfl)
  simp only [Act.put, List.getElem_toArray, List.getElem_cons_zero, List.getElem_cons_succ, List.setIfInBounds_toArray, List.set_cons_zero, List.set_cons_succ]
  refine wpAnyH_take (i := 10) (v := ?_) rfl (by kernel_rfl) (by kernel_rfl) (by kernel_rfl) (fun _ _ _ h => h) (Or.inl ⟨by kernel_rfl, ?_⟩) hHeld ?_
  rotate_left
  · intro w' hSw; (try dsimp only at hSw); go_simp
    all_goals (with_reducible rfl)
  simp only [Act.put, List.getElem_toArray, List.getElem_cons_zero, List.getElem_cons_succ, List.setIfInBounds_toArray, List.set_cons_zero, List.set_cons_succ]
  refine wpAnyH_take (i := 11) (v := ?_) rfl (by kernel_rfl) (by kernel_rfl) (by kernel_rfl) (fun _ _ _ h => h) (Or.inl ⟨by kernel_rfl, ?_⟩) hHeld ?_
  rotate_left
  · intro w' hSw; (try dsimp only at hSw); go_simp
    all_goals (with_reducible rfl)
  simp only [Act.put, List.getElem_toArray, List.getElem_cons_zero, List.getElem_cons_succ, List.setIfInBounds_toArray, List.set_cons_zero, List.set_cons_succ]
  refine wpAnyH_ready (rs := [12]) (by kernel_rfl) (by simp) ?_
  refine AllReadyH.cons (o := _) rfl (fun K hK => ?_) AllReadyH.nil
  go_simp
  refine (must_bad 2 _).mono ?_
  rintro e w' ⟨rfl, rfl⟩
  exact ⟨rfl, rfl, Step.drew⟩

theorem leU64 (a b : Nat) (ha : a < 18446744073709551616) (hb : b < 18446744073709551616) : bits .or .u64 (a : Int) (b : Int) = ((a ||| b : Nat) : Int) := u64_or_nat a b ha hb
theorem number_step {l : Bs} {k : Nat} (hk : k < l.length) (hl : l.length ≤ 8) :
    bits .or .u64 ((leVal (l.take k) : Nat) : Int) ((((l[k].toNat : Int) * 2 ^ (8 * k)) % 18446744073709551616)) = ((leVal (l.take (k + 1)) : Nat) : Int) := by
  have h1 := leVal_lt (l.take k)
  have h2 := l[k].toNat_lt
  have hlen : (l.take k).length = k := by simp; omega
  rw [hlen] at h1
  have h : (2 : Int) ^ (8 * k) = ((256 ^ k : Nat) : Int) := by
    have : (2 : Nat) ^ (8 * k) = 256 ^ k := by rw [Nat.pow_mul]
    rw [← this]; simp
  have hp : 256 ^ k ≤ 256 ^ 7 := Nat.pow_le_pow_right (by omega) (by omega)
  have hpos : 0 < 256 ^ k := Nat.pow_pos (by omega)
  have hm : l[k].toNat * 256 ^ k ≤ 255 * 256 ^ 7 := Nat.mul_le_mul (by omega) hp
  have he : ((l[k].toNat : Int) * 2 ^ (8 * k)) % 18446744073709551616 = ((l[k].toNat * 256 ^ k : Nat) : Int) := by
    rw [h, ← Int.natCast_mul]; omega
  rw [he, leU64 _ _ (by omega) (by omega), List.take_succ_eq_append_getElem hk, leVal_snoc, hlen, Nat.or_comm]
  have h256 : (256 : Nat) ^ k = 2 ^ (8 * k) := by rw [Nat.pow_mul]
  rw [h256] at h1 ⊢
  rw [nat_join (8 * k)]
  · rw [Nat.add_comm, Nat.mul_comm]
  · simp
  · exact h1

set_option maxRecDepth 100000 in
set_option maxHeartbeats 2000000 in
theorem number_ok {w : World} {R B o c a : Nat} {b : Bs} (n : Nat) (h : Rd w R B o c b a) (hn : a + n ≤ b.length) (h0 : 0 < n) (h8 : n ≤ 8) :
    Calls Tryd.prog 47 #[.pointer (some ⟨R, 0, none⟩), .int .i64 n] w fun e w' => e = .returned (.int .u64 (numAt b a n)) ∧ Rd w' R B o c b (a + n) ∧ Step [R] id id w w' := by
  have hH := Lib.hid h
  clear h
  obtain ⟨x, hx⟩ : ∃ x, x = (b.drop a).take n := ⟨_, rfl⟩
  have hxl : x.length = n := by rw [hx]; exact take_len hn
  have hxH := Lib.hid hx
  clear hx
  go_enter Tryd.func47, Tryd.ntmps47
  go_wp2_with (go_at_call 74; refine (take_ok n hH.out hn).mono ?_; rintro e w1 ⟨⟨ad, rfl, had⟩, hr1, hs1⟩; obtain rfl := had h0; have hr1H := Lib.hid hr1; have hs1H := Lib.hid hs1; clear hr1 hs1)
  have hcell : ∀ i (hi : i < x.length), w1.cell? ⟨B, o + a + i, none⟩ = some (.int .u8 (x[i].toNat : Int)) := fun i hi => by
    have h1 : a + i < b.length := by omega
    have := hr1H.out.bytes (a + i) h1
    rw [Nat.add_assoc, this]
    congr 3
    simp [hxH.out]
  have hcellH := Lib.hid hcell
  clear hcell
  go_loop [5, 6, 7, 12] (fun s _ _ i => ∃ k : Nat, k ≤ n ∧ i = .int .i64 k ∧ s = .int .u64 (leVal (x.take k))) (fun _ _ _ i => n - (intOf i).toNat)
  case atStart => exact ⟨0, Nat.zero_le _, rfl, rfl⟩
  case round =>
    obtain ⟨k, hk, rfl, rfl⟩ := hrel
    by_cases hlt : k < n
    · have hcell := hcellH.out k (by omega)
      have hst := number_step (l := x) (k := k) (by omega) (by omega)
      have hstH := Lib.hid hst
      have hc0 := (x[k]'(by omega)).toNat_lt
      clear hst
      go_wp2
      go_round
      case rel => exact ⟨k + 1, by omega, by go_num, by rw [← hstH.out]; rfl⟩
      case measure => simp [intOf]; omega
    · go_wp2
      go_ret
      refine ⟨?_, hr1H.out, hs1H.out⟩
      rw [List.take_of_length_le (by omega), hxH.out]; rfl
set_option maxRecDepth 100000 in
set_option maxHeartbeats 2000000 in
theorem number_bad {w : World} {R N c a : Nat} {ad : Option Addr} (n : Nat) (h : w.heap[R]? = some (.cells #[.slice ad N c, .int .i64 a] 62 (0, 0))) (hN : N ≤ 65536) (ha : a ≤ N) (hn : ¬ a + n ≤ N) :
    Calls Tryd.prog 47 #[.pointer (some ⟨R, 0, none⟩), .int .i64 n] w fun e w' => e = broke 2 ∧ Step [] id id w w' := by
  have hH := Lib.hid h
  clear h
  go_enter Tryd.func47, Tryd.ntmps47
  go_wp2_with (go_at_call 74; refine (take_bad n hH.out hN ha (by omega)).mono ?_; rintro e w1 ⟨rfl, hs1⟩; have hs1H := Lib.hid hs1; clear hs1)
  exact ⟨rfl, rfl, hs1H.out⟩

theorem signed_conv (m : Nat) (h : m < 4294967296) : wrap64 (wrap32 (m : Int)) = signed 4 m := by
  unfold signed wrap64 wrap32
  simp only [show 8 * 4 - 1 = 31 from rfl, show 8 * 4 = 32 from rfl, show (2 : Nat) ^ 31 = 2147483648 from rfl, show (2 : Int) ^ 32 = 4294967296 from rfl]
  split <;> omega
theorem numAt_lt4 {b : Bs} {a : Nat} (h : a + 4 ≤ b.length) : numAt b a 4 < 4294967296 := by
  have := leVal_lt ((b.drop a).take 4)
  rw [take_len h] at this
  exact this

set_option maxRecDepth 100000 in
set_option maxHeartbeats 2000000 in
theorem signed_ok {w : World} {R B o c a : Nat} {b : Bs} (h : Rd w R B o c b a) (hn : a + 4 ≤ b.length) :
    Calls Tryd.prog 46 #[.pointer (some ⟨R, 0, none⟩)] w fun e w' => e = .returned (.int .i64 (signed 4 (numAt b a 4))) ∧ Rd w' R B o c b (a + 4) ∧ Step [R] id id w w' := by
  have hH := Lib.hid h
  clear h
  have hlt := numAt_lt4 hn
  have hcv := Lib.hid (signed_conv _ hlt)
  go_enter Tryd.func46, Tryd.ntmps46
  go_wp2_with (go_at_call 47; refine (number_ok 4 hH.out hn (by omega) (by omega)).mono ?_; rintro e w1 ⟨rfl, hr1, hs1⟩; have hr1H := Lib.hid hr1; have hs1H := Lib.hid hs1; clear hr1 hs1)
  go_ret
  refine ⟨?_, hr1H.out, hs1H.out⟩
  rw [← hcv.out]; rfl
set_option maxRecDepth 100000 in
set_option maxHeartbeats 2000000 in
theorem signed_bad {w : World} {R N c a : Nat} {ad : Option Addr} (h : w.heap[R]? = some (.cells #[.slice ad N c, .int .i64 a] 62 (0, 0))) (hN : N ≤ 65536) (ha : a ≤ N) (hn : ¬ a + 4 ≤ N) :
    Calls Tryd.prog 46 #[.pointer (some ⟨R, 0, none⟩)] w fun e w' => e = broke 2 ∧ Step [] id id w w' := by
  have hH := Lib.hid h
  clear h
  go_enter Tryd.func46, Tryd.ntmps46
  go_wp2_with (go_at_call 47; refine (number_bad 4 hH.out hN ha (by omega)).mono ?_; rintro e w1 ⟨rfl, hs1⟩; have hs1H := Lib.hid hs1; clear hs1)
  exact ⟨rfl, rfl, hs1H.out⟩

set_option maxRecDepth 100000 in
set_option maxHeartbeats 2000000 in
theorem length_ok {w : World} {R B o c a : Nat} {b : Bs} (least : Int) (h : Rd w R B o c b a) (hn : a + 4 ≤ b.length) (hl : least ≤ signed 4 (numAt b a 4)) :
    Calls Tryd.prog 26 #[.pointer (some ⟨R, 0, none⟩), .int .i64 least] w fun e w' => e = .returned (.int .i64 (signed 4 (numAt b a 4))) ∧ Rd w' R B o c b (a + 4) ∧ Step [R] id id w w' := by
  have hH := Lib.hid h
  clear h
  generalize hN : signed 4 (numAt b a 4) = N at *
  have hNH := Lib.hid hN
  clear hN
  go_enter Tryd.func26, Tryd.ntmps26
  go_wp2_with (first | (go_at_call 46; refine (signed_ok hH.out hn).mono ?_; rintro e w1 ⟨rfl, hr1, hs1⟩; rw [hNH.out]; have hr1H := Lib.hid hr1; have hs1H := Lib.hid hs1; clear hr1 hs1) | (go_at_call 25; refine (must_ok 4 _).mono ?_; rintro e w' ⟨rfl, rfl⟩))
  go_ret
  exact ⟨rfl, hr1H.out, hs1H.out⟩
set_option maxRecDepth 100000 in
set_option maxHeartbeats 2000000 in
theorem length_bad {w : World} {R B o c a : Nat} {b : Bs} (least : Int) (h : Rd w R B o c b a) (hn : a + 4 ≤ b.length) (hl : ¬ least ≤ signed 4 (numAt b a 4)) :
    Calls Tryd.prog 26 #[.pointer (some ⟨R, 0, none⟩), .int .i64 least] w fun e w' => e = broke 4 ∧ Step [R] id id w w' := by
  have hH := Lib.hid h
  clear h
  generalize hN : signed 4 (numAt b a 4) = N at *
  have hNH := Lib.hid hN
  have hd := Lib.hid (decide_eq_false hl)
  clear hN
  go_enter Tryd.func26, Tryd.ntmps26
  go_wp2_with (first | (go_at_call 46; refine (signed_ok hH.out hn).mono ?_; rintro e w1 ⟨rfl, hr1, hs1⟩; rw [hNH.out]; have hr1H := Lib.hid hr1; have hs1H := Lib.hid hs1; clear hr1 hs1) | (go_at_call 25; rw [hd.out]; refine (must_bad 4 _).mono ?_; rintro e w' ⟨rfl, rfl⟩))
  exact ⟨rfl, rfl, hs1H.out⟩
set_option maxRecDepth 100000 in
set_option maxHeartbeats 2000000 in
theorem length_short {w : World} {R N c a : Nat} {ad : Option Addr} (least : Int) (h : w.heap[R]? = some (.cells #[.slice ad N c, .int .i64 a] 62 (0, 0))) (hN : N ≤ 65536) (ha : a ≤ N) (hn : ¬ a + 4 ≤ N) :
    Calls Tryd.prog 26 #[.pointer (some ⟨R, 0, none⟩), .int .i64 least] w fun e w' => e = broke 2 ∧ Step [] id id w w' := by
  have hH := Lib.hid h
  clear h
  go_enter Tryd.func26, Tryd.ntmps26
  go_wp2_with (go_at_call 46; refine (signed_bad hH.out hN ha (by omega)).mono ?_; rintro e w1 ⟨rfl, hs1⟩; have hs1H := Lib.hid hs1; clear hs1)
  exact ⟨rfl, rfl, hs1H.out⟩
end Go.Proofs.YtbkmnhogfegmcaaDoor
