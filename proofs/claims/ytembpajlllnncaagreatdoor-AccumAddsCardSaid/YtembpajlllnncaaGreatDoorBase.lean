/- The words that all texts of this family share: who owns a block, what a step leaves alone, a slice that reads as bytes. -/
import Derived.WalkKit
import Derived.Lib.Hide
import Derived.Deep.QuietTactic
import Derived.BigQuiet
import Derived.Deep.RegionHeld3
import Derived.Deep.DrawnRows
import Derived.Deep.RegionLaw
import Derived.Deep.AppendLies
import Derived.Deep.LoopGhost
import Derived.Deep.Cut
import Derived.Laws.CopyOwn
import Derived.Maps.AppendAt
import Derived.WalkSpells
import Derived.WalkLawsBesides
import Derived.Deep.DeepFit
set_option linter.unusedVariables false
set_option linter.unusedSimpArgs false
namespace Go.Proofs.YtembpajlllnncaaGreatDoor
open Go.RowKit

/-- Every block has an owner (a root's block); a block that is not there yet owns itself. -/
def GWf (g : Nat → Nat) (w : World) : Prop := (∀ k, k < w.heap.size → g k < w.heap.size) ∧ ∀ k, w.heap.size ≤ k → g k = k

/-- From w to w' nothing has turned but what the roots T own. -/
structure Step (T : List Nat) (g g' : Nat → Nat) (w w' : World) : Prop where
 os : w'.os = w.os
 tape : w'.tape = w.tape
 output : w'.output = w.output
 size : w.heap.size ≤ w'.heap.size
 keep : ∀ k, k < w.heap.size → g k ∉ T → g' k = g k ∧ w'.heap[k]? = w.heap[k]?
 wf : GWf g w → GWf g' w'

section
variable {T T2 : List Nat} {g g1 g2 : Nat → Nat} {w w1 w2 : World}

theorem Step.refl (T : List Nat) (g : Nat → Nat) (w : World) : Step T g g w w := ⟨rfl, rfl, rfl, Nat.le_refl _, fun _ _ _ => ⟨rfl, rfl⟩, fun h => h⟩

theorem Step.mono (h : Step T g g1 w w1) (hT : ∀ r ∈ T, r ∈ T2) : Step T2 g g1 w w1 :=
 ⟨h.os, h.tape, h.output, h.size, fun k hk hn => h.keep k hk (fun e => hn (hT _ e)), h.wf⟩

theorem Step.trans (h : Step T g g1 w w1) (h2 : Step T2 g1 g2 w1 w2) (hT : ∀ r ∈ T2, r ∈ T) : Step T g g2 w w2 :=
 ⟨h2.os.trans h.os, h2.tape.trans h.tape, h2.output.trans h.output, Nat.le_trans h.size h2.size, fun k hk hn => by
  obtain ⟨e1, e2⟩ := h.keep k hk hn
  obtain ⟨e3, e4⟩ := h2.keep k (Nat.lt_of_lt_of_le hk h.size) (fun e => hn (by rw [← e1]; exact hT _ e))
  exact ⟨e3.trans e1, e4.trans e2⟩, fun hw => h2.wf (h.wf hw)⟩

theorem Step.tail (h : Step T g g1 w w1) (h2 : Step T g1 g2 w1 w2) : Step T g g2 w w2 := h.trans h2 (fun _ h => h)

/-- The second step may touch roots that are new to w. -/
theorem Step.transNew (hw : GWf g w) (h : Step T g g1 w w1) (h2 : Step T2 g1 g2 w1 w2) (hT : ∀ r ∈ T2, r ∈ T ∨ w.heap.size ≤ r) : Step T g g2 w w2 :=
 ⟨h2.os.trans h.os, h2.tape.trans h.tape, h2.output.trans h.output, Nat.le_trans h.size h2.size, fun k hk hn => by
  obtain ⟨e1, e2⟩ := h.keep k hk hn
  obtain ⟨e3, e4⟩ := h2.keep k (Nat.lt_of_lt_of_le hk h.size) (fun e => by
   rcases hT _ e with e' | e'
   ·exact hn (by rw [← e1]; exact e')
   ·rw [e1] at e'; have := hw.1 k hk; omega)
  exact ⟨e3.trans e1, e4.trans e2⟩, fun hw => h2.wf (h.wf hw)⟩

/-- What no root of T owns is as it was. -/
theorem Step.at {k : Nat} {o : Obj} (h : Step T g g1 w w1) (ho : w.heap[k]? = some o) (hn : g k ∉ T) : w1.heap[k]? = some o := by
 rw [(h.keep k (lt_of_block ho) hn).2]; exact ho
theorem Step.own_at {k : Nat} {o : Obj} (h : Step T g g1 w w1) (ho : w.heap[k]? = some o) (hn : g k ∉ T) : g1 k = g k := (h.keep k (lt_of_block ho) hn).1
theorem Step.lt {k : Nat} (h : Step T g g1 w w1) (hk : k < w.heap.size) : k < w1.heap.size := Nat.lt_of_lt_of_le hk h.size

theorem GWf.grow (h : GWf g w) (hs : w.heap.size ≤ w1.heap.size) : GWf g w1 :=
 ⟨fun k hk => by
  rcases Nat.lt_or_ge k w.heap.size with h' | h'
  ·exact Nat.lt_of_lt_of_le (h.1 k h') hs
  ·rw [h.2 k h']; exact hk, fun k hk => h.2 k (Nat.le_trans hs hk)⟩

theorem Step.grown {row : Option Nat} (h : w.grownBy w1 row) (hr : ∀ k, row = some k → g k ∈ T) : Step T g g w w1 :=
 ⟨h.os, h.tape, h.output, h.size, fun k hk hn => ⟨rfl, h.block k hk (fun e => hn (hr k e.symm))⟩, fun hw => hw.grow h.size⟩
theorem Step.set (p : Addr) (v : Value) (h : g p.block ∈ T) : Step T g g w (w.setCell p v) :=
 ⟨rfl, rfl, rfl, by simp [World.setCell], fun k _ hn => ⟨rfl, Below.heap_setCell _ _ _ _ (fun e => hn (by rw [e]; exact h))⟩, fun hw => hw.grow (by simp [World.setCell])⟩
theorem Step.alloc (o : Obj) : Step T g g w (w.alloc o) := .grown (World.grownBy_alloc w o none) (fun _ h => by cases h)
theorem Step.drew : Step T g g w w.drew := ⟨rfl, rfl, rfl, Nat.le_refl _, fun _ _ _ => ⟨rfl, rfl⟩, fun h => h⟩

/-- Block k gets the owner r. -/
def upd (g : Nat → Nat) (k r : Nat) : Nat → Nat := fun i => if i = k then r else g i
theorem upd_same (g : Nat → Nat) (k r : Nat) : upd g k r k = r := by simp [upd]
theorem upd_other (g : Nat → Nat) {k i : Nat} (r : Nat) (h : i ≠ k) : upd g k r i = g i := by simp [upd, h]

theorem Step.give {k r : Nat} (h : Step T g g1 w w1) (hk : w.heap.size ≤ k ∨ g k ∈ T) (hk1 : k < w1.heap.size) (hr : r < w1.heap.size) : Step T g (upd g1 k r) w w1 :=
 ⟨h.os, h.tape, h.output, h.size, fun i hi hn => by
  have : i ≠ k := by
   rintro rfl
   rcases hk with hk | hk
   ·omega
   ·exact hn hk
  rw [upd_other _ _ this]; exact h.keep i hi hn, fun hw => by
  have h1 := h.wf hw
  refine ⟨fun i hi => ?_, fun i hi => ?_⟩
  ·by_cases e : i = k
   ·rw [e, upd_same]; exact hr
   ·rw [upd_other _ _ e]; exact h1.1 i hi
  ·rw [upd_other _ _ (by omega)]; exact h1.2 i hi⟩

/-- The block in which v lies gets the owner r. -/
def giveTo (g : Nat → Nat) (v : Value) (r : Nat) : Nat → Nat := fun i => if v.ownBlock = some i then r else g i
theorem giveTo_same {g : Nat → Nat} {v : Value} {r k : Nat} (h : v.ownBlock = some k) : giveTo g v r k = r := by simp [giveTo, h]
theorem giveTo_other {g : Nat → Nat} {v : Value} {r k : Nat} (h : v.ownBlock ≠ some k) : giveTo g v r k = g k := by simp [giveTo, h]
theorem giveTo_keep {g : Nat → Nat} {v : Value} {r k : Nat} (h : g k = r) : giveTo g v r k = r := by unfold giveTo; split; rfl; exact h
theorem Step.giveTo {v : Value} {r : Nat} (h : Step T g g1 w w1) (hv : ∀ k, v.ownBlock = some k → (w.heap.size ≤ k ∨ g k ∈ T) ∧ k < w1.heap.size) (hr : r < w1.heap.size) : Step T g (giveTo g1 v r) w w1 := by
 cases hb : v.ownBlock with
 | none =>
  have : Go.Proofs.YtembpajlllnncaaGreatDoor.giveTo g1 v r = g1 := by funext i; exact giveTo_other (by rw [hb]; simp)
  rw [this]; exact h
 | some k =>
  have : Go.Proofs.YtembpajlllnncaaGreatDoor.giveTo g1 v r = upd g1 k r := by
   funext i
   unfold Go.Proofs.YtembpajlllnncaaGreatDoor.giveTo upd
   rw [hb]
   by_cases e : i = k
   ·simp [e]
   ·have e' : ¬ k = i := fun h => e h.symm
    simp [e, e']
  rw [this]; exact h.give (hv k hb).1 (hv k hb).2 hr

/-- The owners may be told anew for blocks that are T's or new. -/
theorem Step.regive (h : Step T g g1 w w1) (hk : ∀ k, k < w.heap.size → g k ∉ T → g2 k = g1 k) (hw : GWf g w → GWf g2 w1) : Step T g g2 w w1 :=
 ⟨h.os, h.tape, h.output, h.size, fun i hi hn => by rw [hk i hi hn]; exact h.keep i hi hn, hw⟩

theorem Step.below {B : Nat} (h : Step T g g1 w w1) (hT : ∀ k, k < B → g k ∉ T) (hB : B ≤ w.heap.size) : Below B w w1 :=
 ⟨h.os, h.tape, h.output, h.size, fun k hk => (h.keep k (by omega) (hT k hk)).2⟩
end

/-! blocks and cells -/
section
variable {w : World} {b : Nat} {cs : Array Value} {t : TypeId}
theorem cell_blk (h : w.heap[b]? = some (.cells cs t (0, 0))) {i : Nat} {v : Value} (hi : cs[i]? = some v) : w.cell? ⟨b, i, none⟩ = some v := by simp [World.cell?, h, hi]
theorem free_blk (h : w.heap[b]? = some (.cells cs t (0, 0))) : ∀ o, w.frozen? ⟨b, o, none⟩ = false := by intro o; simp [World.frozen?, h]
theorem set_blk (h : w.heap[b]? = some (.cells cs t (0, 0))) (i : Nat) (v : Value) : (w.setCell ⟨b, i, none⟩ v).heap[b]? = some (.cells (cs.setIfInBounds i v) t (0, 0)) :=
 heap_setCell_same w b i cs t v h
theorem set_other {k : Nat} {o : Obj} {p : Addr} {v : Value} (h : w.heap[k]? = some o) (hn : k ≠ p.block) : (w.setCell p v).heap[k]? = some o := by rw [Below.heap_setCell _ _ _ _ hn]; exact h
theorem alloc_old {k : Nat} {o x : Obj} (h : w.heap[k]? = some o) : (w.alloc x).heap[k]? = some o := by rw [Below.heap_alloc _ _ _ (lt_of_block h)]; exact h
theorem drew_blk {k : Nat} {o : Obj} (h : w.heap[k]? = some o) : w.drew.heap[k]? = some o := h
theorem drewN_blk {k n : Nat} {o : Obj} (h : w.heap[k]? = some o) : (w.drewN n).heap[k]? = some o := h
end

/-- A new thing, then writes to new things alone. -/
theorem grown_fresh {w w1 w2 : World} {row : Option Nat} (h1 : w.grownBy w1 none) (h2 : w1.grownBy w2 row) (hr : ∀ k, row = some k → w.heap.size ≤ k) : w.grownBy w2 none :=
 ⟨h2.os.trans h1.os, h2.tape.trans h1.tape, h2.output.trans h1.output, Nat.le_trans h1.size h2.size, fun k hk _ =>
  (h2.block k (Nat.lt_of_lt_of_le hk h1.size) (fun e => by have := hr k e.symm; omega)).trans (h1.block k hk (by simp))⟩
theorem grown_refl (w : World) (row : Option Nat) : w.grownBy w row := ⟨rfl, rfl, rfl, Nat.le_refl _, fun _ _ _ => rfl⟩

/-! what a quiet region asks at a call -/
theorem quietL {P : Program} {f : FuncId} {args : Array Value} {w : World} {n : Nat} {v : Value}
  (h : Calls P f args (w.drewN n) fun e w' => e = .returned v ∧ w.drewN n = w') : Calls P f args (w.drewN n) fun e w'' => e = .returned v ∧ ∃ m, w'' = w.drewN m :=
 h.mono fun _ _ ⟨he, hm⟩ => ⟨he, n, hm.symm⟩
theorem quietAddL {P : Program} {f : FuncId} {args : Array Value} {w : World} {a n : Nat} {v : Value}
  (h : Calls P f args (w.drewN (a + n)) fun e w' => e = .returned v ∧ w.drewN (a + n) = w') :
  Calls P f args (w.drewN (a + n)) fun e w'' => e = .returned v ∧ ∃ m, w'' = w.drewN (a + m) :=
 h.mono fun _ _ ⟨he, hm⟩ => ⟨he, n, hm.symm⟩
theorem grown_drew (w : World) (row : Option Nat) : w.grownBy w.drew row := ⟨rfl, rfl, rfl, Nat.le_refl _, fun _ _ _ => rfl⟩
theorem grown_drewN (w : World) (n : Nat) (row : Option Nat) : w.grownBy (w.drewN n) row := ⟨rfl, rfl, rfl, Nat.le_refl _, fun _ _ _ => rfl⟩
theorem Step.drewN {T : List Nat} {g : Nat → Nat} (w : World) (n : Nat) : Step T g g w (w.drewN n) := ⟨rfl, rfl, rfl, Nat.le_refl _, fun _ _ _ => ⟨rfl, rfl⟩, fun h => h⟩

/-! bytes -/
def byteVals (l : List UInt8) : List Value := l.map fun b => .int .u8 (b.toNat : Int)
@[simp] theorem byteVals_length (l : List UInt8) : (byteVals l).length = l.length := by simp [byteVals]
theorem byteVals_append (a b : List UInt8) : byteVals (a ++ b) = byteVals a ++ byteVals b := by simp [byteVals]
theorem byteVals_take (n : Nat) (a : List UInt8) : byteVals (a.take n) = (byteVals a).take n := by simp [byteVals]
theorem byteVals_drop (n : Nat) (a : List UInt8) : byteVals (a.drop n) = (byteVals a).drop n := by simp [byteVals]
theorem byteVals_get {l : List UInt8} {i : Nat} (h : i < l.length) : (byteVals l)[i]? = some (.int .u8 (l[i].toNat : Int)) := by simp [byteVals, h]
theorem byteVals_one (l : List UInt8) : ∀ u ∈ byteVals l, u.oneCell' = true := by
 intro u hu
 simp only [byteVals, List.mem_map] at hu
 obtain ⟨_, _, rfl⟩ := hu
 rfl

/-- A slice value that reads as bytes. -/
def Bytes (w : World) (v : Value) (l : List UInt8) : Prop :=
 (v = .slice none 0 0 ∧ l = []) ∨ ∃ b o cap, v = .slice (some ⟨b, o, none⟩) l.length cap ∧ l.length ≤ cap ∧ b < w.heap.size ∧ ∀ i (h : i < l.length), w.cell? ⟨b, o + i, none⟩ = some (.int .u8 (l[i].toNat : Int))

/-- .. that is no root's of T. -/
def Apart (T : List Nat) (g : Nat → Nat) (v : Value) : Prop := ∀ k, v.ownBlock = some k → g k ∉ T

theorem cell_of_blk_eq {w w1 : World} {b o : Nat} (h : w1.heap[b]? = w.heap[b]?) : w1.cell? ⟨b, o, none⟩ = w.cell? ⟨b, o, none⟩ := by simp [World.cell?, h]

theorem Bytes.step {T : List Nat} {g g1 : Nat → Nat} {w w1 : World} {v : Value} {l : List UInt8} (h : Bytes w v l) (hs : Step T g g1 w w1) (ha : Apart T g v) : Bytes w1 v l := by
 rcases h with h | ⟨b, o, cap, rfl, hc, hb, h⟩
 ·exact .inl h
 ·refine .inr ⟨b, o, cap, rfl, hc, hs.lt hb, fun i hi => ?_⟩
  rw [cell_of_blk_eq (hs.keep b hb (ha b rfl)).2]; exact h i hi
theorem Apart.step {T T2 : List Nat} {g g1 : Nat → Nat} {w w1 : World} {v : Value} {l : List UInt8} (h : Bytes w v l) (ha : Apart T2 g v) (hs : Step T g g1 w w1) (ha1 : Apart T g v) : Apart T2 g1 v := by
 intro k hk
 rcases h with ⟨rfl, _⟩ | ⟨b, o, cap, rfl, hc, hb, h⟩
 ·cases hk
 ·obtain rfl : b = k := by simpa [Value.ownBlock] using hk
  rw [(hs.keep b hb (ha1 b rfl)).1]; exact ha b rfl
theorem Apart.mono {T T2 : List Nat} {g : Nat → Nat} {v : Value} (h : Apart T g v) (hT : ∀ r ∈ T2, r ∈ T) : Apart T2 g v := fun k hk e => h k hk (hT _ e)

/-- A row of bytes that one block holds from its head. -/
def Row (w : World) (v : Value) (l : List UInt8) : Prop := w.ownsRow 0 5 1 v l.length (byteVals l)

theorem Row.bytes {w : World} {v : Value} {l : List UInt8} (h : Row w v l) : Bytes w v l := by
 rcases h.2 with ⟨rfl, hn⟩ | ⟨g, cap, cur, rfl, _, hg, hn, hc, hs, ht⟩
 ·exact .inl ⟨rfl, by simpa using hn⟩
 ·refine .inr ⟨g, 0, cap, rfl, hn, lt_of_block hg, fun i hi => ?_⟩
  simp only [Nat.mul_one] at ht hs
  refine cell_blk hg (i := 0 + i) ?_
  have h1 := congrArg (fun x : List Value => x[i]?) ht
  simp only [byteVals_get hi] at h1
  rw [List.getElem?_take, if_pos hi] at h1
  simpa using h1
theorem Row.step {T : List Nat} {g g1 : Nat → Nat} {w w1 : World} {v : Value} {l : List UInt8} (h : Row w v l) (hs : Step T g g1 w w1) (ha : Apart T g v) : Row w1 v l := by
 refine ⟨h.1, ?_⟩
 rcases h.2 with hn | ⟨gb, cap, cur, rfl, hb, hgg, rest⟩
 ·exact .inl hn
 ·exact .inr ⟨gb, cap, cur, rfl, hb, hs.at hgg (ha gb rfl), rest⟩
theorem Row.lt {w : World} {v : Value} {l : List UInt8} (h : Row w v l) {k : Nat} (hk : v.ownBlock = some k) : k < w.heap.size := (World.ownsRow.lt h k hk).2
theorem Row.nil (w : World) : Row w (.slice none 0 0) [] := World.ownsRow_nil w 0 _ 1
theorem apart_nil (T : List Nat) (g : Nat → Nat) : Apart T g (.slice none 0 0) := fun _ h => by cases h

/-- no room for a wrap -/
theorem wrap_id {n : Int} (h0 : -9223372036854775808 ≤ n) (h1 : n ≤ 9223372036854775807) : wrap64 n = n := by unfold wrap64; omega
/-! Shorter words for the moves of a walk. -/
theorem tkH {P : Program} {md : Region.Mode} {ops : Array Oper} {Q : Exit → Act → World → Prop} {S : World → Prop} (i : Nat) (v : Value) {oi : Oper} {fuel : Nat} {listed : Array Bool} {a : Act} {w : World} (hi : ops[i]? = some oi)
  (hb : (Region.noSelect ops && (Region.free md ops listed i && ((Region.ready md ops listed).contains i && Region.wanted oi (yielded ops a.tmps)))) = true)
  (hQ : ∀ c a w, Q (.panic c) (a.put oi.dst v) w → Q (.panic c) a w) (hy : ∀ w, S w → (execOp a.eval oi).run P w = .ok (.value v) w) (hS : S w)
  (h : wpAnyH P md ops Q S fuel (listed.setIfInBounds i true) (a.put oi.dst v) w) : wpAnyH P md ops Q S (fuel + 1) listed a w := by
 simp only [Bool.and_eq_true] at hb
 exact wpAnyH_take hi hb.1 hb.2.1 hb.2.2.1 hQ (Or.inl ⟨hb.2.2.2, hy⟩) hS h
theorem zP (t : Array Value) (d : List Deferred) (i : Tmp) (v : Value) : Act.put ⟨t, d⟩ (some i) v = ⟨t.setIfInBounds i v, d⟩ := rfl
theorem zO (a : Act) (v : Value) : a.put none v = a := rfl
theorem zA {α : Type _} {xs : List α} {i : Nat} (h : i < xs.toArray.size) : xs.toArray[i] = xs[i]'(by simpa using h) := List.getElem_toArray h
theorem zB {α : Type _} (a : α) (as : List α) (h : 0 < (a :: as).length) : (a :: as)[0] = a := rfl
theorem zC {α : Type _} (a : α) (as : List α) (i : Nat) (h : i + 1 < (a :: as).length) : (a :: as)[i + 1] = as[i]'(by simpa using h) := rfl
theorem zD {α : Type _} (l : List α) (i : Nat) (a : α) : l.toArray.setIfInBounds i a = (l.set i a).toArray := List.setIfInBounds_toArray l i a
theorem zE {α : Type _} {x : α} {xs : List α} {a : α} : (x :: xs).set 0 a = a :: xs := rfl
theorem zF {α : Type _} {x : α} {xs : List α} {i : Nat} {a : α} : (x :: xs).set (i + 1) a = x :: xs.set i a := rfl
end Go.Proofs.YtembpajlllnncaaGreatDoor
