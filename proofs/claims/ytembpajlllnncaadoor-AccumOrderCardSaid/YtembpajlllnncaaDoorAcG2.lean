/- Bytes found, cloned, turned to texts. -/
import Derived.Test.YtembpajlllnncaaDoorAcT
import Derived.Laws.BytesArg
import Derived.Lib.ConvBytes
set_option linter.unusedVariables false
set_option linter.unusedSimpArgs false
namespace Go.Proofs.YtembpajlllnncaaDoor
open Go.RowKit

def nums (l : Bs) : List Int := l.map fun c => (c.toNat : Int)
@[simp] theorem nums_length (l : Bs) : (nums l).length = l.length := by simp [nums]
theorem bytesOf_nums (l : Bs) : Lib.bytesOf (nums l) = l := by
  unfold Lib.bytesOf nums
  rw [List.map_map]
  conv => rhs; rw [← List.map_id l]
  refine List.map_congr_left fun c _ => ?_
  simp
theorem strOfNums_nums (l : Bs) : strOfNums (nums l) = strOf l := by
  have h := bytesOf_nums l
  unfold Lib.bytesOf at h
  unfold strOfNums strOf
  rw [h]
theorem nums_get {l : Bs} {i : Nat} (h : i < l.length) : (nums l).getD i 0 = (l[i].toNat : Int) := by
  simp [nums, List.getD_eq_getElem?_getD, h]
theorem nums_cells (l : Bs) : (nums l).map (Value.int .u8) = byteVals l := by simp [nums, byteVals]
/-- These bytes lie from an address on. -/
def Lie (w : World) (a : Addr) (l : Bs) : Prop := ∀ i (h : i < l.length), w.cell? (a.add i) = some (.int .u8 (l[i].toNat : Int))
section
variable {w : World} {a : Addr} {l : Bs}
theorem Lie.nums (h : Lie w a l) {n : Nat} (hn : n = l.length) : ∀ i, i < n → w.cell? (a.add i) = some (.int .u8 ((nums l).getD i 0)) := fun i hi => by
  rw [nums_get (by omega)]; exact h i (by omega)
theorem indexByte_zero : ∀ l : Bs, Lib.indexByte l 0 = match l.findIdx? (· == 0) with | none => -1 | some n => (n : Int)
  | [] => rfl
  | c :: l => by
    rw [Lib.indexByte, List.findIdx?_cons, indexByte_zero l]
    by_cases h : (c == 0) = true
    · rw [if_pos h, if_pos h]; rfl
    · rw [if_neg h, if_neg h]
      cases l.findIdx? (· == 0) with
      | none => rfl
      | some n =>
        have h1 : ¬ (((n : Int) == -1) = true) := by rw [beq_iff_eq]; omega
        simp only [Option.map_some]
        rw [if_neg h1]; push_cast; rfl
/-- Where the first 0 is; -1: there is none. -/
def zeroAt (l : Bs) : Int := match l.findIdx? (· == 0) with | none => -1 | some n => (n : Int)
theorem bs_index0 (a : Addr) (n c : Nat) (l : Bs) (w : World) (hn : n = l.length) (h : Lie w a l) : Calls Tryd.prog 62 #[.slice (some a) n c, .int .u8 0] w fun e w' => e = .returned (.int .i64 (zeroAt l)) ∧ w = w' := by
  refine (Tryd.bytes_IndexByte_at a n c (nums l) 0 w (by rw [nums_length, hn]) (h.nums hn)).mono ?_
  rintro e w' ⟨rfl, rfl⟩
  rw [bytesOf_nums]
  exact ⟨by unfold zeroAt; rw [← indexByte_zero]; rfl, rfl⟩
theorem bs_str (b o n c : Nat) (l : Bs) (w : World) (hn : n = l.length) (h : Lie w ⟨b, o, none⟩ l) : (convert 26 9 (.slice (some ⟨b, o, none⟩) n c)).run Tryd.prog w = .ok (.string (strOf l)) w := by
  have := run_convert_bytes_arg (P := Tryd.prog) w 26 5 Tryd.underlying26 Tryd.underlying5 b o n c (nums l) (by rw [nums_length, hn]) (fun i hi => by have := h.nums hn i hi; rwa [addr_add] at this) 9 Tryd.underlying9
  rw [strOfNums_nums] at this; exact this
theorem bs_clone (a : Addr) (n c : Nat) (l : Bs) (w : World) (hn : n = l.length) (hb : n ≤ 1000000000) (h : Lie w a l) : Calls Tryd.prog 34 #[.slice (some a) n c] w fun e w' => ∃ v, e = .returned v ∧ BIn (fun k => w.heap.size ≤ k) w' v l ∧ Row w' v l ∧ Step [] id id w w' ∧ ∀ k, v.ownBlock = some k → w.heap.size ≤ k := by
  refine (Tryd.bytes_Clone_at a n c (nums l) w (by rw [nums_length, hn]) (by omega) (h.nums hn)).mono ?_
  rintro e w' ⟨v, rfl, hr, hne, hbel⟩
  rw [nums_cells, hn] at hr
  have hr0 : Row w' v l := ⟨hr.1, hr.2.imp id (fun ⟨g, cap, cur, h1, _, h3⟩ => ⟨g, cap, cur, h1, Nat.zero_le _, h3⟩)⟩
  have hlt := fun k hk => (World.ownsRow.lt hr k hk).1
  refine ⟨v, rfl, ?_, hr0, Below.step hbel rfl, hlt⟩
  rcases hr0.bytes with ⟨rfl, rfl⟩ | ⟨b, o, cap, rfl, hc, hbl, hcell⟩
  · exact absurd rfl hne
  · exact .inr ⟨b, o, cap, rfl, hc, hlt b rfl, hcell⟩
end
theorem zeroAt_neg (l : Bs) : zeroAt l < 0 ↔ (0 : UInt8) ∉ l := by
  unfold zeroAt
  cases h : l.findIdx? (· == 0) with
  | none =>
    rw [List.findIdx?_eq_none_iff] at h
    refine ⟨fun _ hm => ?_, fun _ => by decide⟩
    have := h 0 hm
    simp at this
  | some n =>
    obtain ⟨h1, h2, h3⟩ := List.findIdx?_eq_some_iff_getElem.1 h
    refine ⟨fun hn => by simp only at hn; omega, fun hm => absurd ?_ hm⟩
    have h4 : l[n] = 0 := by simpa using h2
    rw [← h4]; exact List.getElem_mem h1
/-- []byte of a text: a new row. -/
theorem bs_bytes (l : Bs) (w : World) : ∃ cap W4, (convert 9 26 (.string (strOf l))).run Tryd.prog w = .ok (.slice (some ⟨w.heap.size, 0, none⟩) l.length cap) W4 ∧ Step [] id id w W4 ∧ Lie W4 ⟨w.heap.size, 0, none⟩ l ∧ w.heap.size < W4.heap.size := by
  have h := Lib.run_convert_string_bytes (P := Tryd.prog) w 9 26 5 (strOf l) Tryd.underlying9 Tryd.underlying26 Tryd.underlying5
  rw [strOf_size] at h
  have hsz := Lib.bytesWorld_size w 5 (strOf l)
  refine ⟨_, _, h, ⟨rfl, rfl, rfl, by omega, fun k hk _ => ⟨rfl, Lib.bytesWorld_at_old w _ _ k hk⟩, fun hw => hw.grow (by omega)⟩, fun i hi => ?_, by omega⟩
  have := Lib.bytesWorld_cell w 5 (strOf l) i (by rw [strOf_size]; exact hi)
  rw [addr_add, Nat.zero_add, this]
  simp [strOf, List.getD_eq_getElem?_getD, hi]
end Go.Proofs.YtembpajlllnncaaDoor
