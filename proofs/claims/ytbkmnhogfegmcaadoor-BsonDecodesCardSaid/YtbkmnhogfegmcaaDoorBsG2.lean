/- bson: bytes found, cloned, turned to texts; the reader's name. -/
import Derived.Test.YtbkmnhogfegmcaaDoorBsG1
import Derived.Test.YtbkmnhogfegmcaaDoorBsT
import Derived.Laws.BytesArg
import Derived.Lib.ConvBytes
set_option linter.unusedVariables false
set_option linter.unusedSimpArgs false
namespace Go.Proofs.YtbkmnhogfegmcaaDoor
open Go.RowKit

def nums (l : Bs) : List Int := l.map fun c => (c.toNat : Int)
@[simp] theorem nums_length (l : Bs) : (nums l).length = l.length := by simp [nums]
theorem bytesOf_nums (l : Bs) : Lib.bytesOf (nums l) = l := by
  unfold Lib.bytesOf nums
  rw [List.map_map]
  conv => rhs; rw [← List.map_id l]
  refine List.map_congr_left fun c _ => ?_
  simp
theorem strOfNums_nums (l : Bs) : strOfNums (nums l) = strOf l := by
  have h := bytesOf_nums l
  unfold Lib.bytesOf at h
  unfold strOfNums strOf
  rw [h]
theorem nums_get {l : Bs} {i : Nat} (h : i < l.length) : (nums l).getD i 0 = (l[i].toNat : Int) := by
  simp [nums, List.getD_eq_getElem?_getD, h]
theorem nums_cells (l : Bs) : (nums l).map (Value.int .u8) = byteVals l := by simp [nums, byteVals]

/-- These bytes lie from an address on. -/
def Lie (w : World) (a : Addr) (l : Bs) : Prop := ∀ i (h : i < l.length), w.cell? (a.add i) = some (.int .u8 (l[i].toNat : Int))
section
variable {w : World} {a : Addr} {l : Bs}
theorem Lie.nums (h : Lie w a l) {n : Nat} (hn : n = l.length) : ∀ i, i < n → w.cell? (a.add i) = some (.int .u8 ((nums l).getD i 0)) := fun i hi => by
  rw [nums_get (by omega)]; exact h i (by omega)
theorem indexByte_zero : ∀ l : Bs, Lib.indexByte l 0 = match l.findIdx? (· == 0) with | none => -1 | some n => (n : Int)
  | [] => rfl
  | c :: l => by
    rw [Lib.indexByte, List.findIdx?_cons, indexByte_zero l]
    by_cases h : (c == 0) = true
    · rw [if_pos h, if_pos h]; rfl
    · rw [if_neg h, if_neg h]
      cases l.findIdx? (· == 0) with
      | none => rfl
      | some n =>
        have h1 : ¬ (((n : Int) == -1) = true) := by rw [beq_iff_eq]; omega
        simp only [Option.map_some]
        rw [if_neg h1]; push_cast; rfl
/-- Where the first 0 is; -1: there is none. -/
def zeroAt (l : Bs) : Int := match l.findIdx? (· == 0) with | none => -1 | some n => (n : Int)
theorem bs_index0 (a : Addr) (n c : Nat) (l : Bs) (w : World) (hn : n = l.length) (h : Lie w a l) : Calls Tryd.prog 65 #[.slice (some a) n c, .int .u8 0] w fun e w' => e = .returned (.int .i64 (zeroAt l)) ∧ w = w' := by
  refine (Tryd.bytes_IndexByte_at a n c (nums l) 0 w (by rw [nums_length, hn]) (h.nums hn)).mono ?_
  rintro e w' ⟨rfl, rfl⟩
  rw [bytesOf_nums]
  exact ⟨by unfold zeroAt; rw [← indexByte_zero]; rfl, rfl⟩
theorem bs_str (b o n c : Nat) (l : Bs) (w : World) (hn : n = l.length) (h : Lie w ⟨b, o, none⟩ l) : (convert 22 9 (.slice (some ⟨b, o, none⟩) n c)).run Tryd.prog w = .ok (.string (strOf l)) w := by
  have := run_convert_bytes_arg (P := Tryd.prog) w 22 5 Tryd.underlying22 Tryd.underlying5 b o n c (nums l) (by rw [nums_length, hn]) (fun i hi => by have := h.nums hn i hi; rwa [addr_add] at this) 9 Tryd.underlying9
  rw [strOfNums_nums] at this; exact this
theorem bs_clone (a : Addr) (n c : Nat) (l : Bs) (w : World) (hn : n = l.length) (hb : n ≤ 1000000000) (h : Lie w a l) : Calls Tryd.prog 36 #[.slice (some a) n c] w fun e w' => ∃ v, e = .returned v ∧ BIn (fun k => w.heap.size ≤ k) w' v l ∧ Row w' v l ∧ Step [] id id w w' ∧ ∀ k, v.ownBlock = some k → w.heap.size ≤ k := by
  refine (Tryd.bytes_Clone_at a n c (nums l) w (by rw [nums_length, hn]) (by omega) (h.nums hn)).mono ?_
  rintro e w' ⟨v, rfl, hr, hne, hbel⟩
  rw [nums_cells, hn] at hr
  have hr0 : Row w' v l := ⟨hr.1, hr.2.imp id (fun ⟨g, cap, cur, h1, _, h3⟩ => ⟨g, cap, cur, h1, Nat.zero_le _, h3⟩)⟩
  have hlt := fun k hk => (World.ownsRow.lt hr k hk).1
  refine ⟨v, rfl, ?_, hr0, Below.step hbel rfl, hlt⟩
  rcases hr0.bytes with ⟨rfl, rfl⟩ | ⟨b, o, cap, rfl, hc, hbl, hcell⟩
  · exact absurd rfl hne
  · exact .inr ⟨b, o, cap, rfl, hc, hlt b rfl, hcell⟩
end

theorem zeroAt_neg (l : Bs) : zeroAt l < 0 ↔ (0 : UInt8) ∉ l := by
  unfold zeroAt
  cases h : l.findIdx? (· == 0) with
  | none =>
    rw [List.findIdx?_eq_none_iff] at h
    refine ⟨fun _ hm => ?_, fun _ => by decide⟩
    have := h 0 hm
    simp at this
  | some n =>
    obtain ⟨h1, h2, h3⟩ := List.findIdx?_eq_some_iff_getElem.1 h
    refine ⟨fun hn => by simp only at hn; omega, fun hm => absurd ?_ hm⟩
    have h4 : l[n] = 0 := by simpa using h2
    rw [← h4]; exact List.getElem_mem h1
/-- []byte of a text: a new row. -/
theorem bs_bytes (l : Bs) (w : World) : ∃ cap W4, (convert 9 22 (.string (strOf l))).run Tryd.prog w = .ok (.slice (some ⟨w.heap.size, 0, none⟩) l.length cap) W4 ∧ Step [] id id w W4 ∧ Lie W4 ⟨w.heap.size, 0, none⟩ l ∧ w.heap.size < W4.heap.size := by
  have h := Lib.run_convert_string_bytes (P := Tryd.prog) w 9 22 5 (strOf l) Tryd.underlying9 Tryd.underlying22 Tryd.underlying5
  rw [strOf_size] at h
  have hsz := Lib.bytesWorld_size w 5 (strOf l)
  refine ⟨_, _, h, ⟨rfl, rfl, rfl, by omega, fun k hk _ => ⟨rfl, Lib.bytesWorld_at_old w _ _ k hk⟩, fun hw => hw.grow (by omega)⟩, fun i hi => ?_, by omega⟩
  have := Lib.bytesWorld_cell w 5 (strOf l) i (by rw [strOf_size]; exact hi)
  rw [addr_add, Nat.zero_add, this]
  simp [strOf, List.getD_eq_getElem?_getD, hi]

theorem Rd.lie {w : World} {R B o c a0 : Nat} {b : Bs} (h : Rd w R B o c b a0) (a n : Nat) : Lie w ⟨B, o + a, none⟩ ((b.drop a).take n) := fun i hi => by
  rw [List.length_take, List.length_drop] at hi
  rw [addr_add, Nat.add_assoc, h.bytes (a + i) (by omega)]
  congr 3; simp

/-- A name, up to its 0. -/
def nameRes (b : Bs) (a : Nat) : Res Bs :=
  match zeroFrom b a with
  | none => .bad 2
  | some n => if utf8 ((b.drop a).take n) = false then .bad 5 else if 120 < ((b.drop a).take n).length then .bad 15 else .ok ((b.drop a).take n) (a + n + 1)

set_option maxRecDepth 100000 in
set_option maxHeartbeats 2000000 in
theorem name_ok {P : Nat → Prop} {w : World} {R B o c a n : Nat} {b : Bs} (h : Rd w R B o c b a) (ht : Tabs P w) (hPR : ¬ P R) (hz : zeroFrom b a = some n) (hu : utf8 ((b.drop a).take n) = true) (hl : n ≤ 120) :
    Calls Tryd.prog 49 #[.pointer (some ⟨R, 0, none⟩)] w fun e w' => e = .returned (.string (strOf ((b.drop a).take n))) ∧ Rd w' R B o c b (a + n + 1) ∧ Step [R] id id w w' := by
  obtain ⟨z1, z2, z3⟩ := zeroFrom_some hz
  have hc := h.cap
  have hsm := h.small
  have k0 := cell_blk h.cell (i := 0) rfl
  have k1 := cell_blk h.cell (i := 1) rfl
  have hle := h.le
  have hH := Lib.hid h
  have htH := Lib.hid ht
  have hzz : zeroAt (b.drop a) = n := by unfold zeroAt; unfold zeroFrom at hz; rw [hz]
  have hix : ∀ k, Calls Tryd.prog 65 #[.slice (some ⟨B, o + a, none⟩) (b.length - a) (c - a), .int .u8 0] (w.drewN k) fun e w' => e = .returned (.int .i64 n) ∧ w.drewN k = w' := fun k => by
    rw [← hzz]
    refine bs_index0 ⟨B, o + a, none⟩ (b.length - a) (c - a) (b.drop a) _ (by simp) ?_
    have := h.lie a (b.length - a); rwa [List.take_of_length_le (by simp)] at this
  have hixH := Lib.hid hix
  have hlen : ((b.drop a).take n).length = n := take_len (by omega)
  obtain ⟨s, hs⟩ : ∃ s, s = (b.drop a).take n := ⟨_, rfl⟩
  rw [← hs] at hu hlen ⊢
  have hsz : (strOf s).size = n := by rw [strOf_size, hlen]
  have hsH := Lib.hid hs
  have huH := Lib.hid hu
  have hlenH := Lib.hid hlen
  have hn1 := Lib.hid (show (n : Int) + 1 = ((n + 1 : Nat) : Int) by push_cast; rfl)
  have hca : ¬ c = a := by omega
  clear h ht hz hzz z2 z3 hs hu hix hlen
  have hw1 : (0 : Int) ≤ (a : Int) := by omega
  have hw2 : (a : Int) ≤ (b.length : Int) := by omega
  have hw3 : (n : Int) ≤ ((c - a : Nat) : Int) := by omega
  go_enter Tryd.func49, Tryd.ntmps49
  go_wp2_with fail
  go_quiet ((go_at_call 65; exact quietL (hixH.out _)))
  have hl2 : (n : Int) ≤ 120 := by omega
  go_wp2_with (first | (go_at_call 74; rw [hn1.out]; refine (take_ok (n + 1) (hH.out.step (Step.drewN w _)) (by omega)).mono ?_; rintro e w1 ⟨⟨ad, rfl, had⟩, hr1, hs1⟩; obtain rfl := had (by omega); have hcv := bs_str B (o + a) n (c - a) s w1 hlenH.out.symm (by rw [hsH.out]; exact hr1.lie a n); have hr1H := Lib.hid hr1; have hs1H := Lib.hid hs1; clear hr1 hs1) | (go_at_call 64; refine (bs_valid s (by have := hlenH.out; omega) (htH.out.keep ((Step.drewN w _).tail hs1H.out) (fun k hk => by rw [List.mem_singleton] at hk; rw [hk]; exact hPR)).utf).mono ?_; rintro e w2 ⟨rfl, hs2⟩; rw [huH.out]; have hs2H := Lib.hid hs2; clear hs2) | (go_at_call 25; refine (must_ok _ _).mono ?_; rintro e w' ⟨rfl, rfl⟩))
  go_ret
  exact ⟨rfl, hr1H.out.step hs2H.out, ((Step.drewN w _).tail hs1H.out).tail (hs2H.out.mono (fun _ h => by cases h))⟩

set_option maxRecDepth 100000 in
set_option maxHeartbeats 2000000 in
theorem name_bad {P : Nat → Prop} {w : World} {R B o c a : Nat} {b : Bs} {er : Int} (h : Rd w R B o c b a) (ht : Tabs P w) (hPR : ¬ P R) (hz : nameRes b a = .bad er) :
    Calls Tryd.prog 49 #[.pointer (some ⟨R, 0, none⟩)] w fun e w' => e = broke er ∧ Step [R] id id w w' := by
  have hc := h.cap
  have hsm := h.small
  have k0 := cell_blk h.cell (i := 0) rfl
  have k1 := cell_blk h.cell (i := 1) rfl
  have hle := h.le
  have hw1 : (0 : Int) ≤ (a : Int) := by omega
  have hw2 : (a : Int) ≤ (b.length : Int) := by omega
  unfold nameRes at hz
  cases hzf : zeroFrom b a with
  | none =>
    rw [hzf] at hz
    cases hz
    have hix : ∀ (ad : Addr), Lie w ad (b.drop a) → ∀ k, Calls Tryd.prog 65 #[.slice (some ad) (b.length - a) (c - a), .int .u8 0] (w.drewN k) fun e w' => e = .returned (.int .i64 (-1)) ∧ w.drewN k = w' := fun ad hli k => by
      have hzz : zeroAt (b.drop a) = -1 := by unfold zeroAt; unfold zeroFrom at hzf; rw [hzf]
      rw [← hzz]
      exact bs_index0 ad (b.length - a) (c - a) (b.drop a) _ (by simp) hli
    have hli : Lie w ⟨B, o + a, none⟩ (b.drop a) := by have := h.lie a (b.length - a); rwa [List.take_of_length_le (by simp)] at this
    clear h ht hzf
    by_cases hca : c = a
    · subst hca
      have hbl : b.length = c := by omega
      have hd0 : b.length - c = 0 := by omega
      have hix1 := Lib.hid (hix ⟨B, o, none⟩ (fun i hi => by rw [List.length_drop] at hi; omega))
      rw [hd0] at hix1
      clear hix hli
      go_enter Tryd.func49, Tryd.ntmps49
      go_wp2_with fail
      go_quiet ((go_at_call 65; first | exact quietL (hix1.out _) | (rw [Nat.sub_self]; exact quietL (hix1.out _)) | (simp only [Nat.sub_self] at hix1; exact quietL (hix1.out _))))
      go_wp2_with (go_at_call 25; refine (must_bad _ _).mono ?_; rintro e w' ⟨rfl, rfl⟩)
      exact ⟨rfl, rfl, Step.drewN w _⟩
    · have hix1 := Lib.hid (hix ⟨B, o + a, none⟩ hli)
      clear hix hli
      go_enter Tryd.func49, Tryd.ntmps49
      go_wp2_with fail
      go_quiet ((go_at_call 65; exact quietL (hix1.out _)))
      go_wp2_with (go_at_call 25; refine (must_bad _ _).mono ?_; rintro e w' ⟨rfl, rfl⟩)
      exact ⟨rfl, rfl, Step.drewN w _⟩
  | some n =>
    rw [hzf] at hz
    dsimp only at hz
    obtain ⟨z1, z2, z3⟩ := zeroFrom_some hzf
    have hH := Lib.hid h
    have htH := Lib.hid ht
    have hzz : zeroAt (b.drop a) = n := by unfold zeroAt; unfold zeroFrom at hzf; rw [hzf]
    have hix : ∀ k, Calls Tryd.prog 65 #[.slice (some ⟨B, o + a, none⟩) (b.length - a) (c - a), .int .u8 0] (w.drewN k) fun e w' => e = .returned (.int .i64 n) ∧ w.drewN k = w' := fun k => by
      rw [← hzz]
      refine bs_index0 ⟨B, o + a, none⟩ (b.length - a) (c - a) (b.drop a) _ (by simp) ?_
      have := h.lie a (b.length - a); rwa [List.take_of_length_le (by simp)] at this
    have hixH := Lib.hid hix
    have hlen : ((b.drop a).take n).length = n := take_len (by omega)
    obtain ⟨s, hs⟩ : ∃ s, s = (b.drop a).take n := ⟨_, rfl⟩
    rw [← hs] at hz hlen
    have hsz : (strOf s).size = n := by rw [strOf_size, hlen]
    have hsH := Lib.hid hs
    have hlenH := Lib.hid hlen
    have hn1 := Lib.hid (show (n : Int) + 1 = ((n + 1 : Nat) : Int) by push_cast; rfl)
    have hca : ¬ c = a := by omega
    have hw3 : (n : Int) ≤ ((c - a : Nat) : Int) := by omega
    clear h ht hzf hzz z2 z3 hs hix
    by_cases hu : utf8 s = false
    · rw [if_pos hu] at hz
      cases hz
      have huH := Lib.hid hu
      clear hu hlen
      go_enter Tryd.func49, Tryd.ntmps49
      go_wp2_with fail
      go_quiet ((go_at_call 65; exact quietL (hixH.out _)))
      go_wp2_with (first | (go_at_call 74; rw [hn1.out]; refine (take_ok (n + 1) (hH.out.step (Step.drewN w _)) (by omega)).mono ?_; rintro e w1 ⟨⟨ad, rfl, had⟩, hr1, hs1⟩; obtain rfl := had (by omega); have hcv := bs_str B (o + a) n (c - a) s w1 hlenH.out.symm (by rw [hsH.out]; exact hr1.lie a n); have hr1H := Lib.hid hr1; have hs1H := Lib.hid hs1; clear hr1 hs1) | (go_at_call 64; refine (bs_valid s (by have := hlenH.out; omega) (htH.out.keep ((Step.drewN w _).tail hs1H.out) (fun k hk => by rw [List.mem_singleton] at hk; rw [hk]; exact hPR)).utf).mono ?_; rintro e w2 ⟨rfl, hs2⟩; rw [huH.out]; have hs2H := Lib.hid hs2; clear hs2) | (go_at_call 25; (first | (with_reducible refine (must_ok _ _).mono ?_) | (with_reducible refine (must_bad _ _).mono ?_)); rintro e w' ⟨rfl, rfl⟩))
      exact ⟨rfl, rfl, ((Step.drewN w _).tail hs1H.out).tail (hs2H.out.mono (fun _ h => by cases h))⟩
    · rw [if_neg hu, hlen] at hz
      have hu2 : utf8 s = true := by simpa using hu
      have huH := Lib.hid hu2
      clear hu hu2 hlen
      split at hz
      · rename_i hl
        cases hz
        have hl2 : ¬ (n : Int) ≤ 120 := by omega
        have hl3 : decide ((n : Int) ≤ 120) = false := decide_eq_false hl2
        go_enter Tryd.func49, Tryd.ntmps49
        go_wp2_with fail
        go_quiet ((go_at_call 65; exact quietL (hixH.out _)))
        go_wp2_with (first | (go_at_call 74; rw [hn1.out]; refine (take_ok (n + 1) (hH.out.step (Step.drewN w _)) (by omega)).mono ?_; rintro e w1 ⟨⟨ad, rfl, had⟩, hr1, hs1⟩; obtain rfl := had (by omega); have hcv := bs_str B (o + a) n (c - a) s w1 hlenH.out.symm (by rw [hsH.out]; exact hr1.lie a n); have hr1H := Lib.hid hr1; have hs1H := Lib.hid hs1; clear hr1 hs1) | (go_at_call 64; refine (bs_valid s (by have := hlenH.out; omega) (htH.out.keep ((Step.drewN w _).tail hs1H.out) (fun k hk => by rw [List.mem_singleton] at hk; rw [hk]; exact hPR)).utf).mono ?_; rintro e w2 ⟨rfl, hs2⟩; rw [huH.out]; have hs2H := Lib.hid hs2; clear hs2) | (go_at_call 25; (first | (with_reducible refine (must_ok _ _).mono ?_) | (with_reducible refine (must_bad _ _).mono ?_)); rintro e w' ⟨rfl, rfl⟩))
        exact ⟨rfl, rfl, ((Step.drewN w _).tail hs1H.out).tail (hs2H.out.mono (fun _ h => by cases h))⟩
      · cases hz
end Go.Proofs.YtbkmnhogfegmcaaDoor
