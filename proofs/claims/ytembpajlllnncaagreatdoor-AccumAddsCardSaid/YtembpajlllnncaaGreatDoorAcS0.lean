/- The weigher counts. The library's tables. Bytes found, cloned, turned to texts. How a weighing ends. -/
import Derived.Test.YtembpajlllnncaaGreatDoorBsE2
import Derived.Test.YtembpajlllnncaaGreatDoorBsA2
import Derived.Test.YtembpajlllnncaaGreatDoorAcX
import Derived.Test.YtembpajlllnncaaGreatDoorBsU2
import Derived.Shelf.Unicode.ValidAny
import Derived.Laws.BytesArg
import Derived.Lib.ConvBytes
import Derived.Test.YtembpajlllnncaaGreatDoorBsM
set_option linter.unusedVariables false
set_option linter.unusedSimpArgs false
namespace Go.Proofs.YtembpajlllnncaaGreatDoor
open Go.RowKit

/-- The weigher's one cell. -/
def Wgh (w : World) (R s : Nat) : Prop := w.heap[R]? = some (.cells #[.int .i64 s] 75 (0, 0))
set_option maxRecDepth 100000 in
set_option maxHeartbeats 2000000 in
theorem bs_add (w : World) (R s n : Nat) (h : Wgh w R s) (hs : s ≤ 65536) (hn : n ≤ 9223372036854775807) :
  Calls Tryz.prog 73 #[.pointer (some ⟨R, 0, none⟩), .int .i64 n] w fun e w' => (s + n ≤ 65536 ∧ e = done0 ∧ Wgh w' R (s + n) ∧ Step [R] id id w w') ∨ (¬ s + n ≤ 65536 ∧ e = broke 1 ∧ w = w') := by
 have k0 := cell_blk h (i := 0) rfl
 have f0 := free_blk h 0
 have hH := Lib.hid h
 clear h
 by_cases hle : s + n ≤ 65536
 ·have hle1 : (n : Int) ≤ 65536 - (s : Int) := by omega
  go_enter Tryz.func73, Tryz.ntmps73
  go_wp2_with (go_at_call 72; refine (must_ok 1 _).mono ?_; rintro e w' ⟨rfl, rfl⟩)
  go_end0
  refine .inl ⟨hle, rfl, ?_, Step.set _ _ (by simp)⟩
  have := set_blk hH.out 0 (.int .i64 ((s + n : Nat) : Int))
  simpa [Wgh] using this
 ·have hle1 : ¬ (n : Int) ≤ 65536 - (s : Int) := by omega
  go_enter Tryz.func73, Tryz.ntmps73
  go_wp2_with (go_at_call 72; refine (must_bad 1 _).mono ?_; rintro e w' ⟨rfl, rfl⟩)
  exact ⟨rfl, .inr ⟨hle, rfl, rfl⟩⟩
end Go.Proofs.YtembpajlllnncaaGreatDoor
namespace Go.Proofs.YtembpajlllnncaaGreatDoor
open Go.RowKit

abbrev Utf8T (w : World) : Prop := Lib.Utf8Tabs (Tryz.laysValid_ren.g 3) (Tryz.laysValid_ren.g 4) w
/-- P's blocks: the tables among them. -/
structure Tabs (P : Nat → Prop) (w : World) : Prop where
 lt : ∀ k, P k → k < w.heap.size
 pow : Pow10 w
 powP : ∀ k, Tryz.prog.globalNamed "internal/strconv.uint64pow10" = some k → P k
 utf : Utf8T w
 utf3 : P (Tryz.laysValid_ren.g 3)
 utf4 : P (Tryz.laysValid_ren.g 4)
section
variable {P P2 : Nat → Prop} {w w' : World} {T : List Nat}
theorem Utf8T.keep (h : Utf8T w) (h3 : w'.heap[Tryz.laysValid_ren.g 3]? = w.heap[Tryz.laysValid_ren.g 3]?) (h4 : w'.heap[Tryz.laysValid_ren.g 4]? = w.heap[Tryz.laysValid_ren.g 4]?) : Utf8T w' :=
 ⟨fun c hc => by rw [cell_of_blk_eq h3]; exact h.1 c hc, fun i hi => ⟨by rw [cell_of_blk_eq h4]; exact (h.2 i hi).1, by rw [cell_of_blk_eq h4]; exact (h.2 i hi).2⟩⟩
theorem Tabs.old (h : Tabs P w) (hs : Step T id id w w') (hT : ∀ k ∈ T, ¬ P k) : ∀ k, P k → k < w.heap.size → w'.heap[k]? = w.heap[k]? := fun k hP hk => (hs.keep k hk (fun e => hT k e hP)).2
theorem Tabs.keep (h : Tabs P w) (hs : Step T id id w w') (hT : ∀ k ∈ T, ¬ P k) : Tabs P w' :=
 ⟨fun k hk => hs.lt (h.lt k hk), h.pow.of fun k hk hl => h.old hs hT k (h.powP k hk) hl, h.powP, Utf8T.keep h.utf (h.old hs hT _ h.utf3 (h.lt _ h.utf3)) (h.old hs hT _ h.utf4 (h.lt _ h.utf4)), h.utf3, h.utf4⟩
theorem Tabs.grown (h : Tabs P w) (hg : w.grownBy w' none) : Tabs P w' := h.keep (T := []) (.grown hg (fun _ h => by cases h)) (fun _ h => by cases h)
theorem Tabs.quiet (h : Tabs P w) (hs : Step [] id id w w') : Tabs P w' := h.keep hs (fun _ h => by cases h)
theorem Tabs.one {R : Nat} (h : Tabs P w) (hs : Step [R] id id w w') (hR : ¬ P R) : Tabs P w' := h.keep hs (fun k hk => by rw [List.mem_singleton] at hk; rw [hk]; exact hR)
theorem Tabs.more (h : Tabs P w) (hP : ∀ k, P k → P2 k) (hl : ∀ k, P2 k → k < w.heap.size) : Tabs P2 w :=
 ⟨hl, h.pow, fun k hk => hP k (h.powP k hk), h.utf, hP _ h.utf3, hP _ h.utf4⟩
theorem Below.step {B : Nat} (h : Below B w w') (hB : B = w.heap.size) : Step [] id id w w' := by
 subst hB
 exact ⟨h.os, h.tape, h.output, h.size, fun k hk _ => ⟨rfl, h.block k hk⟩, fun hw => hw.grow h.size⟩
/-- utf8.ValidString. -/
theorem bs_valid (l : Bs) (hl : l.length ≤ 140737488351232) (ht : Utf8T w) : Calls Tryz.prog 74 #[.string (strOf l)] w fun e w' => e = .returned (.bool (utf8 l)) ∧ Step [] id id w w' := by
 have h : Calls Tryz.prog 74 #[.string (strOf l)] w fun e w' => e = .returned (.bool (Lib.validD (strOf l).data.toList)) ∧ Below w.heap.size w w' := Any.utf8_ValidString Tryz.laysValid (strOf l) w (by rw [strOf_size]; omega) ht
 refine h.mono ?_
 rintro e w' ⟨rfl, hb⟩
 refine ⟨?_, Below.step hb rfl⟩
 rw [utf8_validD]; simp [strOf]
end
end Go.Proofs.YtembpajlllnncaaGreatDoor
namespace Go.Proofs.YtembpajlllnncaaGreatDoor
open Go.RowKit

def nums (l : Bs) : List Int := l.map fun c => (c.toNat : Int)
@[simp] theorem nums_length (l : Bs) : (nums l).length = l.length := by simp [nums]
theorem bytesOf_nums (l : Bs) : Lib.bytesOf (nums l) = l := by
 unfold Lib.bytesOf nums
 rw [List.map_map]
 conv => rhs; rw [← List.map_id l]
 refine List.map_congr_left fun c _ => ?_
 simp
theorem strOfNums_nums (l : Bs) : strOfNums (nums l) = strOf l := by
 have h := bytesOf_nums l
 unfold Lib.bytesOf at h
 unfold strOfNums strOf
 rw [h]
theorem nums_get {l : Bs} {i : Nat} (h : i < l.length) : (nums l).getD i 0 = (l[i].toNat : Int) := by
 simp [nums, List.getD_eq_getElem?_getD, h]
theorem nums_cells (l : Bs) : (nums l).map (Value.int .u8) = byteVals l := by simp [nums, byteVals]
/-- These bytes lie from an address on. -/
def Lie (w : World) (a : Addr) (l : Bs) : Prop := ∀ i (h : i < l.length), w.cell? (a.add i) = some (.int .u8 (l[i].toNat : Int))
section
variable {w : World} {a : Addr} {l : Bs}
theorem Lie.nums (h : Lie w a l) {n : Nat} (hn : n = l.length) : ∀ i, i < n → w.cell? (a.add i) = some (.int .u8 ((nums l).getD i 0)) := fun i hi => by
 rw [nums_get (by omega)]; exact h i (by omega)
theorem indexByte_zero : ∀ l : Bs, Lib.indexByte l 0 = match l.findIdx? (· == 0) with | none => -1 | some n => (n : Int)
 | [] => rfl
 | c :: l => by
  rw [Lib.indexByte, List.findIdx?_cons, indexByte_zero l]
  by_cases h : (c == 0) = true
  ·rw [if_pos h, if_pos h]; rfl
  ·rw [if_neg h, if_neg h]
   cases l.findIdx? (· == 0) with
   | none => rfl
   | some n =>
    have h1 : ¬ (((n : Int) == -1) = true) := by rw [beq_iff_eq]; omega
    simp only [Option.map_some]
    rw [if_neg h1]; push_cast; rfl
/-- Where the first 0 is; -1: there is none. -/
def zeroAt (l : Bs) : Int := match l.findIdx? (· == 0) with | none => -1 | some n => (n : Int)
theorem bs_index0 (a : Addr) (n c : Nat) (l : Bs) (w : World) (hn : n = l.length) (h : Lie w a l) : Calls Tryz.prog 75 #[.slice (some a) n c, .int .u8 0] w fun e w' => e = .returned (.int .i64 (zeroAt l)) ∧ w = w' := by
 refine (Tryz.bytes_IndexByte_at a n c (nums l) 0 w (by rw [nums_length, hn]) (h.nums hn)).mono ?_
 rintro e w' ⟨rfl, rfl⟩
 rw [bytesOf_nums]
 exact ⟨by unfold zeroAt; rw [← indexByte_zero]; rfl, rfl⟩
theorem bs_str (b o n c : Nat) (l : Bs) (w : World) (hn : n = l.length) (h : Lie w ⟨b, o, none⟩ l) : (convert 32 9 (.slice (some ⟨b, o, none⟩) n c)).run Tryz.prog w = .ok (.string (strOf l)) w := by
 have := run_convert_bytes_arg (P := Tryz.prog) w 32 5 Tryz.underlying32 Tryz.underlying5 b o n c (nums l) (by rw [nums_length, hn]) (fun i hi => by have := h.nums hn i hi; rwa [addr_add] at this) 9 Tryz.underlying9
 rw [strOfNums_nums] at this; exact this
theorem bs_clone (a : Addr) (n c : Nat) (l : Bs) (w : World) (hn : n = l.length) (hb : n ≤ 1000000000) (h : Lie w a l) : Calls Tryz.prog 49 #[.slice (some a) n c] w fun e w' => ∃ v, e = .returned v ∧ BIn (fun k => w.heap.size ≤ k) w' v l ∧ Row w' v l ∧ Step [] id id w w' ∧ ∀ k, v.ownBlock = some k → w.heap.size ≤ k := by
 refine (Tryz.bytes_Clone_at a n c (nums l) w (by rw [nums_length, hn]) (by omega) (h.nums hn)).mono ?_
 rintro e w' ⟨v, rfl, hr, hne, hbel⟩
 rw [nums_cells, hn] at hr
 have hr0 : Row w' v l := ⟨hr.1, hr.2.imp id (fun ⟨g, cap, cur, h1, _, h3⟩ => ⟨g, cap, cur, h1, Nat.zero_le _, h3⟩)⟩
 have hlt := fun k hk => (World.ownsRow.lt hr k hk).1
 refine ⟨v, rfl, ?_, hr0, Below.step hbel rfl, hlt⟩
 rcases hr0.bytes with ⟨rfl, rfl⟩ | ⟨b, o, cap, rfl, hc, hbl, hcell⟩
 ·exact absurd rfl hne
 ·exact .inr ⟨b, o, cap, rfl, hc, hlt b rfl, hcell⟩
end
theorem zeroAt_neg (l : Bs) : zeroAt l < 0 ↔ (0 : UInt8) ∉ l := by
 unfold zeroAt
 cases h : l.findIdx? (· == 0) with
 | none =>
  rw [List.findIdx?_eq_none_iff] at h
  refine ⟨fun _ hm => ?_, fun _ => by decide⟩
  have := h 0 hm
  simp at this
 | some n =>
  obtain ⟨h1, h2, h3⟩ := List.findIdx?_eq_some_iff_getElem.1 h
  refine ⟨fun hn => by simp only at hn; omega, fun hm => absurd ?_ hm⟩
  have h4 : l[n] = 0 := by simpa using h2
  rw [← h4]; exact List.getElem_mem h1
/-- []byte of a text: a new row. -/
theorem bs_bytes (l : Bs) (w : World) : ∃ cap W4, (convert 9 32 (.string (strOf l))).run Tryz.prog w = .ok (.slice (some ⟨w.heap.size, 0, none⟩) l.length cap) W4 ∧ Step [] id id w W4 ∧ Lie W4 ⟨w.heap.size, 0, none⟩ l ∧ w.heap.size < W4.heap.size := by
 have h := Lib.run_convert_string_bytes (P := Tryz.prog) w 9 32 5 (strOf l) Tryz.underlying9 Tryz.underlying32 Tryz.underlying5
 rw [strOf_size] at h
 have hsz := Lib.bytesWorld_size w 5 (strOf l)
 refine ⟨_, _, h, ⟨rfl, rfl, rfl, by omega, fun k hk _ => ⟨rfl, Lib.bytesWorld_at_old w _ _ k hk⟩, fun hw => hw.grow (by omega)⟩, fun i hi => ?_, by omega⟩
 have := Lib.bytesWorld_cell w 5 (strOf l) i (by rw [strOf_size]; exact hi)
 rw [addr_add, Nat.zero_add, this]
 simp [strOf, List.getD_eq_getElem?_getD, hi]
end Go.Proofs.YtembpajlllnncaaGreatDoor
namespace Go.Proofs.YtembpajlllnncaaGreatDoor
open Go.RowKit

/-- How a weighing ends. -/
def WPost (ok : Prop) (R n : Nat) (w w' : World) (e : Ending) : Prop :=
 Step [R] id id w w' ∧ ((ok ∧ e = done0 ∧ Wgh w' R n) ∨ (¬ ok ∧ e = broke 1 ∧ ∃ s, Wgh w' R s))
def WghF (fuel : Nat) : Prop := ∀ (P : Nat → Prop) (f : List (Bs × Val)) (fa : Option Addr) (fc R s deep : Nat) (w : World), 34 ≤ fuel + deep → deep ≤ 1000 → f.length ≤ fc → f.length ≤ 140737488351232 → FIs P w f fa 0 → Wgh w R s → s ≤ 65536 → Tabs P w → ¬ P R →
 Calls Tryz.prog 58 #[.pointer (some ⟨R, 0, none⟩), .slice fa f.length fc, .int .i64 deep] w fun e w' => WPost (deep ≤ 32 ∧ okFs deep [] f = true ∧ s + (wrapDoc (encFs f)).length ≤ 65536) R (s + (wrapDoc (encFs f)).length) w w' e
def WghV (fuel : Nat) : Prop := ∀ (P : Nat → Prop) (x : Val) (cs : List Value) (R s deep : Nat) (w : World), 33 ≤ fuel + deep → deep ≤ 32 → VIs P w x cs → Wgh w R s → s ≤ 65536 → Tabs P w → ¬ P R →
 Calls Tryz.prog 76 #[.pointer (some ⟨R, 0, none⟩), .agg cs.toArray, .int .i64 deep] w fun e w' => WPost (okV deep x = true ∧ s + (encV x).length ≤ 65536) R (s + (encV x).length) w w' e
theorem add_ok {w : World} {R s n : Nat} (h : Wgh w R s) (hs : s ≤ 65536) (hn : s + n ≤ 65536) :
  Calls Tryz.prog 73 #[.pointer (some ⟨R, 0, none⟩), .int .i64 n] w fun e w' => e = done0 ∧ Wgh w' R (s + n) ∧ Step [R] id id w w' :=
 (bs_add w R s n h hs (by omega)).mono fun e w' h => by
  rcases h with ⟨_, h1, h2, h3⟩ | ⟨h1, _⟩
  ·exact ⟨h1, h2, h3⟩
  ·exact absurd hn h1
theorem add_bad {w : World} {R s n : Nat} (h : Wgh w R s) (hs : s ≤ 65536) (hn : ¬ s + n ≤ 65536) (hb : n ≤ 9223372036854775807) :
  Calls Tryz.prog 73 #[.pointer (some ⟨R, 0, none⟩), .int .i64 n] w fun e w' => e = broke 1 ∧ w = w' :=
 (bs_add w R s n h hs hb).mono fun e w' h => by
  rcases h with ⟨h1, _⟩ | ⟨_, h1, h2⟩
  ·exact absurd h1 hn
  ·exact ⟨h1, h2⟩
theorem Wgh.keep {w w' : World} {R s : Nat} (h : Wgh w R s) (hg : w.grownBy w' none) : Wgh w' R s := (hg.block R (lt_of_block h) (by simp)).trans h
theorem Wgh.step {w w' : World} {R s : Nat} (h : Wgh w R s) (hg : Step [] id id w w') : Wgh w' R s := hg.at h (by simp)
theorem Step.plus {T : List Nat} {w w1 w2 : World} (h : Step [] id id w w1) (hg : w1.grownBy w2 none) : Step T id id w w2 :=
 (h.tail (.grown hg (fun _ h => by cases h))).mono (fun _ h => by cases h)
end Go.Proofs.YtembpajlllnncaaGreatDoor
