/- The law BsonOrder: the walk. -/
import Derived.Test.YtbkmnhogfegmcaaDoorBsO8
import Derived.Maps.RangeWalk
set_option linter.unusedVariables false
set_option linter.unusedSimpArgs false
namespace Go.Proofs.YtbkmnhogfegmcaaDoor
open Go.RowKit

/-- A slice of numbers that came in. -/
def IntsAt (w : World) (q : IntKind) (a : Option Addr) (n : Nat) (z : Nat → Int) : Prop := ∀ i, i < n → ∃ b o, a = some ⟨b, o, none⟩ ∧ w.cell? ⟨b, o + i, none⟩ = some (.int q (z i))
theorem info_string : (Tryd.prog.info? 9).map (fun i => (i.zero, i.size, i.bytes)) = some (some (.string ⟨#[]⟩), 1, 16) := by kernel_rfl
def strO (o : Ord) : List Value := o.map fun p => .string (strOf p.1)
theorem strO_len (o : Ord) : (strO o).length = o.length := by simp [strO]
theorem docO_nil (P : Nat → Prop) (w : World) : VIs P w (docO []) [.int .i64 6, .int .i64 0, .string ⟨#[]⟩, .slice none 0 0, .slice none 0 0, .slice none 0 0] :=
  VIs.mk ⟨.slice none 0 0, none, 0, none, 0, rfl, .inl ⟨none, 0, rfl, rfl, fun _ => rfl⟩, ⟨Nat.le_refl _, Nat.le_refl _, fun _ => rfl, fun _ => rfl⟩, ⟨by decide, by decide, by decide, by decide⟩, ⟨by simp [docO, Val.s], by simp [docO, Val.b], by simp [docO, fO, Val.f], by simp [docO, Val.l]⟩, by simp [docO, fO, Val.f, FIs], by simp [docO, Val.l, LIs]⟩
/-- What holds at the head of each round. -/
def OrdR (w : World) (V j : Nat) (o : Ord) (oa : Option Addr) (oc : Nat) (D : DU) (cs : List Value) (wr : World) : Prop :=
  o.length ≤ j ∧ OkO o ∧ RelM D o ∧ OwnM wr (V + 1) j D ∧ wr.ownsRow 0 9 1 (.slice oa o.length oc) o.length (strO o) ∧ (∀ k, (Value.slice oa o.length oc).ownBlock = some k → k ≠ V ∧ k ≠ V + 1 ∧ w.heap.size ≤ k) ∧
  wr.heap[V]? = some (.cells cs.toArray 27 (0, 0)) ∧ VIs (fun k => k ≠ V ∧ k ≠ V + 1 ∧ (Value.slice oa o.length oc).ownBlock ≠ some k) wr (docO o) cs ∧ Step [] id id w wr
theorem VIs.i32 (P : Nat → Prop) (w : World) {n : Int} (h : -128 ≤ n ∧ n ≤ 127) : VIs P w (i32V n) [.int .i64 3, .int .i64 n, .string ⟨#[]⟩, .slice none 0 0, .slice none 0 0, .slice none 0 0] :=
  VIs.mk ⟨.slice none 0 0, none, 0, none, 0, rfl, .inl ⟨none, 0, rfl, rfl, fun _ => rfl⟩, ⟨Nat.le_refl _, Nat.le_refl _, fun _ => rfl, fun _ => rfl⟩, ⟨by simp [i32V, Val.kind], by simp [i32V, Val.kind], by simp [i32V, Val.num]; omega, by simp [i32V, Val.num]; omega⟩, ⟨by simp [i32V, Val.s], by simp [i32V, Val.b], by simp [i32V, Val.f], by simp [i32V, Val.l]⟩, by simp [i32V, Val.f, FIs], by simp [i32V, Val.l, LIs]⟩
theorem nm_val {z : Int} (h : 0 ≤ z ∧ z ≤ 255) : ((97 + (UInt8.ofNat z.toNat) % 6 : UInt8).toNat : Int) = 97 + z % 6 := by
  rw [UInt8.toNat_add, UInt8.toNat_mod, UInt8.toNat_ofNat']
  have h1 : z.toNat % 2 ^ 8 = z.toNat := Nat.mod_eq_of_lt (by omega)
  rw [h1]
  simp
  omega
set_option maxRecDepth 100000 in
set_option maxHeartbeats 8000000 in
theorem law_order {w : World} {a1 a2 : Option Addr} {n1 c1 n2 c2 : Nat} {z1 z2 : Nat → Int} (ht : Tw w) (h1 : IntsAt w .u8 a1 n1 z1) (h2 : IntsAt w .i8 a2 n2 z2) (hb1 : ∀ i, i < n1 → 0 ≤ z1 i ∧ z1 i ≤ 255) (hb2 : ∀ i, i < n2 → -128 ≤ z2 i ∧ z2 i ≤ 127) (hn1 : n1 ≤ 140737488351232) (hn2 : n2 ≤ 140737488351232) :
    Calls Tryd.prog 9 #[.slice a1 n1 c1, .slice a2 n2 c2] w fun e w' => e = .returned (.bool true) ∧ Step [] id id w w' := by
  have htH := Lib.hid ht
  have h1H := Lib.hid h1
  have h2H := Lib.hid h2
  have hb1H := Lib.hid hb1
  have hb2H := Lib.hid hb2
  clear ht h1 h2 hb1 hb2
  have hmm := @run_makeMap Tryd.prog
  by_cases hg : n1 ≤ 60 ∧ n1 ≤ n2 ∧ n2 ≤ 200
  rotate_left
  · by_cases g1 : n1 ≤ 60
    · have d1 : decide ((60 : Int) < (n1 : Int)) = false := decide_eq_false (by omega)
      by_cases g2 : n1 ≤ n2
      · have d2 : decide (n2 < n1) = false := decide_eq_false (by omega)
        have d3 : decide ((200 : Int) < (n2 : Int)) = true := decide_eq_true (by omega)
        have e1 : ¬ (60 : Int) < (n1 : Int) := by omega
        have e2 : ¬ n2 < n1 := by omega
        have e3 : (200 : Int) < (n2 : Int) := by omega
        go_enter Tryd.func9, Tryd.ntmps9
        go_wp2_with (go_at_call 10; refine (bs_awake w htH.out).mono ?_; rintro e w3 ⟨rfl, hs3⟩)
        go_ret
        exact ⟨rfl, hs3⟩
      · have d2 : decide (n2 < n1) = true := decide_eq_true (by omega)
        have e1 : ¬ (60 : Int) < (n1 : Int) := by omega
        have e2 : n2 < n1 := by omega
        go_enter Tryd.func9, Tryd.ntmps9
        go_wp2_with (go_at_call 10; refine (bs_awake w htH.out).mono ?_; rintro e w3 ⟨rfl, hs3⟩)
        go_ret
        exact ⟨rfl, hs3⟩
    · have d1 : decide ((60 : Int) < (n1 : Int)) = true := decide_eq_true (by omega)
      have e1 : (60 : Int) < (n1 : Int) := by omega
      go_enter Tryd.func9, Tryd.ntmps9
      go_wp2_with (go_at_call 10; refine (bs_awake w htH.out).mono ?_; rintro e w3 ⟨rfl, hs3⟩)
      go_ret
      exact ⟨rfl, hs3⟩
  obtain ⟨g1, g2, g3⟩ := hg
  have d1 : decide ((60 : Int) < (n1 : Int)) = false := decide_eq_false (by omega)
  have d2 : decide (n2 < n1) = false := decide_eq_false (by omega)
  have d3 : decide ((200 : Int) < (n2 : Int)) = false := decide_eq_false (by omega)
  have e1 : ¬ (60 : Int) < (n1 : Int) := by omega
  have e2 : ¬ n2 < n1 := by omega
  have e3 : ¬ (200 : Int) < (n2 : Int) := by omega
  go_enter Tryd.func9, Tryd.ntmps9
  go_wp2_with (go_at_call 10; refine (bs_awake w htH.out).mono ?_; rintro e w3 ⟨rfl, hs3⟩; have hs3H := Lib.hid hs3; clear hs3)
  obtain ⟨V, hV⟩ : ∃ V, V = w3.heap.size := ⟨_, rfl⟩
  obtain ⟨W5, hW5⟩ : ∃ W5, W5 = (w3.alloc (.cells #[.int .i64 6, .int .i64 0, .string ⟨#[]⟩, .slice none 0 0, .slice none 0 0, .slice none 0 0] 27)).alloc (.map #[] 0) := ⟨_, rfl⟩
  have hs5 : Step [] id id w W5 := by rw [hW5]; exact hs3H.out.tail ((Step.alloc _).tail (Step.alloc _))
  have hVb : W5.heap[V]? = some (.cells #[.int .i64 6, .int .i64 0, .string ⟨#[]⟩, .slice none 0 0, .slice none 0 0, .slice none 0 0] 27 (0, 0)) := by rw [hW5, hV]; exact alloc_old (heap_alloc_new w3 _)
  have hB : OwnM W5 (V + 1) 0 (.map []) := by
    have h := World.ownsMap_made (H := Unit) (w3.alloc (.cells #[.int .i64 6, .int .i64 0, .string ⟨#[]⟩, .slice none 0 0, .slice none 0 0, .slice none 0 0] 27)) Tryd.prog 9 (plainElem Tryd.prog 2)
    rw [hW5, hV]
    have e : (w3.alloc (.cells #[.int .i64 6, .int .i64 0, .string ⟨#[]⟩, .slice none 0 0, .slice none 0 0, .slice none 0 0] 27)).heap.size = w3.heap.size + 1 := by simp
    rw [e] at h
    exact h
  have hwV : w.heap.size ≤ V := by rw [hV]; exact hs3H.out.size
  rw [← hW5, ← hV]
  have hs5H := Lib.hid hs5
  have hVbH := Lib.hid hVb
  have hBH := Lib.hid hB
  clear hW5 hV hs5 hVb hB hmm
  go_loopw [6, 8] (fun v i wr => ∃ (j : Nat), i = .int .i64 j ∧ j ≤ n1 ∧ ∃ o oa oc D cs, v = .slice oa (o : Ord).length oc ∧ OrdR w V j o oa oc D cs wr) (fun _ i _ => n1 - (intOf i).toNat)
  case atStart => exact ⟨0, rfl, Nat.zero_le _, [], none, 0, .map [], _, rfl, Nat.le_refl _, ⟨by simp [namesO], by simp, by simp⟩, RelM.nil, hBH.out, World.ownsRow_nil _ _ _ _, fun k hk => (by cases hk), hVbH.out, docO_nil _ _, hs5H.out⟩
  case round =>
    obtain ⟨j, rfl, hj, o, oa, oc, D, cs, rfl, hol, hok, hrm, hmap, hown, hnew, hVr, hdoc, hst⟩ := hrel
    obtain ⟨on, hon⟩ : ∃ on, on = o.length := ⟨_, rfl⟩
    rw [← hon] at hown hnew hdoc hol ⊢
    by_cases hjl : j < n1
    · have hjl1 : (j : Int) < (n1 : Int) := by omega
      have hjl2 : (j : Int) < (n2 : Int) := by omega
      have hj0 : (0 : Int) ≤ (j : Int) := by omega
      obtain ⟨b1, o1, hae1, q1⟩ := h1H.out j hjl
      obtain ⟨b2, o2, hae2, q2⟩ := h2H.out j (by omega)
      subst hae1 hae2
      obtain ⟨hz0, hz1⟩ := hb1H.out j hjl
      obtain ⟨hy0, hy1⟩ := hb2H.out j (by omega)
      obtain ⟨z, hz⟩ : ∃ z, z = z1 j := ⟨_, rfl⟩
      obtain ⟨y, hy⟩ : ∃ y, y = z2 j := ⟨_, rfl⟩
      rw [← hz] at q1 hz0 hz1
      rw [← hy] at q2 hy0 hy1
      have q1r : wr.cell? ⟨b1, o1 + j, none⟩ = some (.int .u8 z) := (World.cell?_of_block (a := ⟨b1, o1 + j, none⟩) ((hst.keep b1 (World.block_lt_of_cell? w _ q1) (by simp)).2)).trans q1
      have q2r : wr.cell? ⟨b2, o2 + j, none⟩ = some (.int .i8 y) := (World.cell?_of_block (a := ⟨b2, o2 + j, none⟩) ((hst.keep b2 (World.block_lt_of_cell? w _ q2) (by simp)).2)).trans q2
      have hb1l : b1 < wr.heap.size := World.block_lt_of_cell? wr _ q1r
      have hb2l : b2 < wr.heap.size := World.block_lt_of_cell? wr _ q2r
      have hwrap : IntKind.i64.wrap ((j : Int) + 1) = (j : Int) + 1 := IntWalk.i64_in _ (by omega)
      obtain ⟨c, hc⟩ : ∃ c, c = UInt8.ofNat z.toNat := ⟨_, rfl⟩
      obtain ⟨S, hS⟩ : ∃ S, S = strOf (nmO c) := ⟨_, rfl⟩
      have hconv : (convert 22 9 (.slice (some ⟨wr.heap.size, 0, none⟩) 1 1)).run Tryd.prog (wr.alloc (.cells #[.int .u8 (97 + z % 6)] 5)) = .ok (.string S) (wr.alloc (.cells #[.int .u8 (97 + z % 6)] 5)) := by
        rw [hS]
        refine bs_str wr.heap.size 0 1 1 (nmO c) _ rfl (fun i hi => ?_)
        obtain rfl : i = 0 := by simp [nmO] at hi; omega
        rw [addr_add]
        refine (cell_blk (heap_alloc_new wr _) (i := 0) rfl).trans ?_
        simp only [nmO, List.getElem_cons_zero]
        rw [hc, nm_val ⟨hz0, hz1⟩]
        rfl
      have hSH := Lib.hid hS
      have hVrH := Lib.hid hVr
      have hdocH := Lib.hid hdoc
      have hstH := Lib.hid hst
      have hownH := Lib.hid hown
      have hnewH := Lib.hid hnew
      have hmapH := Lib.hid hmap
      have hrmH := Lib.hid hrm
      have hokH := Lib.hid hok
      have honH := Lib.hid hon
      have q2o := Lib.hid q2
      clear q1 q2 hz hy hc hS hVr hdoc hst hown hnew hmap hrm hok hon
      obtain ⟨W6, hW6⟩ : ∃ W6, W6 = wr.alloc (.cells #[.int .u8 (97 + z % 6)] 5) := ⟨_, rfl⟩
      have hs6 : Step [] id id wr W6 := by rw [hW6]; exact Step.alloc _
      have hV6 := hs6.at hVrH.out (by simp)
      have hmap6 := hmapH.out.step hs6 (by simp)
      have hdoc6 := hdocH.out.keep (P2 := fun k => k ≠ V ∧ k ≠ V + 1 ∧ (Value.slice oa on oc).ownBlock ≠ some k) (w' := W6) (fun _ h => h) (fun k hP hk => (hs6.keep k hk (by simp)).2)
      have hown6 := ownsRow_step hownH.out hs6 (fun k _ => by simp)
      obtain ⟨s0, ba, bn, bc, fa, fn, fc, la, ln, lc, hcs, -⟩ := hdocH.out.six
      obtain ⟨k0, hk0⟩ : ∃ k, k = (docO o).kind := ⟨_, rfl⟩
      obtain ⟨n0, hn0⟩ : ∃ k, k = (docO o).num := ⟨_, rfl⟩
      rw [← hk0, ← hn0] at hcs
      subst hcs
      have hwrz : W6.heap.size = wr.heap.size + 1 := by rw [hW6]; simp
      have hVl : V < wr.heap.size := lt_of_block hVrH.out
      have hVne : V ≠ wr.heap.size := by omega
      obtain ⟨v0, v1, v2, v3, v4, v5⟩ := cells_of6 hVrH.out
      have hnml : (nmO c).length ≤ 1000 := by simp [nmO]
      have hV6H := Lib.hid hV6
      have hmap6H := Lib.hid hmap6
      have hdoc6H := Lib.hid hdoc6
      have hown6H := Lib.hid hown6
      have hs6H := Lib.hid hs6
      have hwrzH := Lib.hid hwrz
      by_cases hth : nmO c ∈ namesO o
      · obtain ⟨c0, hlk⟩ := map_lk_ok hmap6 hrmH.out hSH.out hnml
        rw [decide_eq_true hth, hW6] at hlk
        have hthH := Lib.hid hth
        have hW6H := Lib.hid hW6
        clear hs6 hV6 hmap6 hdoc6 hown6 hk0 hn0 hwrz hth hW6
        by_cases hy : y < 0
        · have hwc := Lib.hid (bs_with hSH.out hdoc6H.out (VIs.zero _ W6) (by show (fO o).length ≤ 2999; rw [fO_len, ← honH.out]; omega) (by omega))
          go_wp2_with fail
          rw [← hW6H.out]
          refine hwc.out.mono ?_
          rintro e w7 ⟨ds, rfl, hd7, hs7⟩
          rw [withV_del] at hd7
          obtain ⟨s9, ba9, bn9, bc9, fa9, fn9, fc9, la9, ln9, lc9, hds, -⟩ := hd7.six
          obtain ⟨n9, hn9⟩ : ∃ k, k = (docO (delO (nmO c) o)).num := ⟨_, rfl⟩
          obtain ⟨k9, hk9⟩ : ∃ k, k = (docO (delO (nmO c) o)).kind := ⟨_, rfl⟩
          rw [← hk9, ← hn9] at hds
          subst hds
          have hV7 := hs7.at hV6H.out (by simp)
          obtain ⟨p0, p1, p2, p3, p4, p5⟩ := cells_of6 hV7
          have frr := free_blk hV7
          have fr0 := frr 0
          have fr1 := frr 1
          have fr2 := frr 2
          have fr3 := frr 3
          have fr4 := frr 4
          have fr5 := frr 5
          have hVl7 := lt_of_block hV7
          obtain ⟨W8, hW8⟩ : ∃ W8, W8 = set6 w7 V (.int .i64 k9) (.int .i64 n9) (.string s9) (.slice ba9 bn9 bc9) (.slice fa9 fn9 fc9) (.slice la9 ln9 lc9) := ⟨_, rfl⟩
          have hg8 : w7.grownBy W8 (some V) := by rw [hW8]; exact set6_grown
          have hV8 : W8.heap[V]? = some (.cells #[.int .i64 k9, .int .i64 n9, .string s9, .slice ba9 bn9 bc9, .slice fa9 fn9 fc9, .slice la9 ln9 lc9] 27 (0, 0)) := by rw [hW8]; exact set6_heap hV7
          have hs8 : Step [V] id id W6 W8 := (hs7.mono (by simp)).tail (.grown hg8 (fun k hk => by cases hk; simp))
          have hmap8 := hmap6H.out.step hs8 (by simp)
          have hown8 := ownsRow_step hown6H.out hs8 (fun k hk hm => (hnewH.out k hk).1 (by simpa using hm))
          have hd8 := (VIs.below _ _ hd7).keep (P2 := fun k => ((k ≠ V ∧ k ≠ V + 1 ∧ (Value.slice oa on oc).ownBlock ≠ some k) ∨ W6.heap.size ≤ k) ∧ k < W8.heap.size) (w' := W8) (fun k h => ⟨h.1, Nat.lt_of_lt_of_le h.2 hg8.size⟩) (fun k hP hk => hg8.block k hk (by
            intro e; injection e with e
            have hz := hwrzH.out
            rcases hP.1 with h | h
            · exact h.1 e
            · omega))
          have hs8H := Lib.hid hs8
          have hV8H := Lib.hid hV8
          have hW8H := Lib.hid hW8
          have hmap8H := Lib.hid hmap8
          have hown8H := Lib.hid hown8
          have hd8H := Lib.hid hd8
          clear hd7 hs7 hn9 hk9 hV7 hW8 hg8 hV8 hs8 hmap8 hown8 hd8 frr v0 v1 v2 v3 v4 v5 hwc hlk hconv
          go_wp2_with (at_delete; change wpList _ _ _ _ _ (set6 w7 V (.int .i64 k9) (.int .i64 n9) (.string s9) (.slice ba9 bn9 bc9) (.slice fa9 fn9 fc9) (.slice la9 ln9 lc9)); rw [← hW8H.out]; refine wpList_delete_own _ rfl _ _ 52 9 rfl 2 strKeyed Tryd.underlying52 (plainElem Tryd.prog 2) (V + 1) j D rfl hmap8H.out (.string S) (.string (nmO c)) rfl (key_of hSH.out hnml) ?_; intro w9 hmap9 hturn9; have hg9 := hturn9.grown; have hmap9H := Lib.hid hmap9; have hg9H := Lib.hid hg9; clear hmap9 hturn9 hg9)
          obtain ⟨wo, rfl⟩ : ∃ wo : World, wo = wr := ⟨_, rfl⟩
          have hs9 : Step [V + 1] id id W8 w9 := .grown hg9H.out (fun k hk => by cases hk; simp)
          have hown9 := ownsRow_step hown8H.out hs9 (fun k hk hm => (hnewH.out k hk).2.1 (by simpa using hm))
          have hV9 := hs9.at hV8H.out (by simp)
          have hd9 := hd8H.out.keep (P2 := fun k => ((k ≠ V ∧ k ≠ V + 1 ∧ (Value.slice oa on oc).ownBlock ≠ some k) ∨ W6.heap.size ≤ k) ∧ k < W8.heap.size) (w' := w9) (fun k h => h) (fun k hP hk => (hs9.keep k hk (by
            have hz := hwrzH.out
            simp only [List.mem_singleton]
            rcases hP.1 with h | h
            · exact h.2.1
            · intro e; have e2 : k = V + 1 := e; omega)).2)
          have hs9H := Lib.hid hs9
          have hown9H := Lib.hid hown9
          have hV9H := Lib.hid hV9
          have hd9H := Lib.hid hd9
          clear hs9 hown9 hV9 hd9 p0 p1 p2 p3 p4 p5 fr0 fr1 fr2 fr3 fr4 fr5 q1r q2r
          go_loopw [12, 13] (fun v i wq => ∃ (q : Nat) (m : Nat) (la : Option Addr) (lc : Nat), i = .int .i64 q ∧ q ≤ on ∧ m = (delO (nmO c) (o.take q)).length ∧ v = .slice la m lc ∧ wq.ownsRow 0 9 1 (.slice la m lc) m (strO (delO (nmO c) (o.take q))) ∧ (∀ k, (Value.slice la m lc).ownBlock = some k → w9.heap.size ≤ k) ∧ Step [] id id w9 wq) (fun _ i _ => on - (intOf i).toNat)
          case atStart => exact ⟨0, 0, none, 0, rfl, Nat.zero_le _, rfl, rfl, World.ownsRow_nil _ _ _ _, fun k hk => (by cases hk), Step.refl _ _ _⟩
          case round =>
            obtain ⟨q, m, la2, lc2, rfl, hq, hm, rfl, hownL, hnewL, hstq⟩ := hrel
            have hmq : m ≤ q := by rw [hm]; exact Nat.le_trans delO_len (List.length_take_le _ _)
            have hmH := Lib.hid hm
            clear hm
            by_cases hql : q < on
            · have hql1 : (q : Int) < (on : Int) := by omega
              have hq0 : (0 : Int) ≤ (q : Int) := by omega
              have hqo : q < o.length := by rw [← honH.out]; exact hql
              obtain ⟨g, hva⟩ : ∃ g, oa = some ⟨g, 0, none⟩ := by
                rcases hown9H.out.2 with ⟨e, -⟩ | ⟨g, cap, cur, e, -⟩
                · injection e with _ e2 _; omega
                · injection e with e1 _ _; exact ⟨g, e1⟩
              subst hva
              obtain ⟨N, hN⟩ : ∃ N, N = strOf o[q].1 := ⟨_, rfl⟩
              have hcq : wr.cell? ⟨g, q, none⟩ = some (.string N) := by
                have hownq := ownsRow_step hown9H.out hstq (fun k _ => by simp)
                have h8 := World.ownsRow.cells hownq (g := g) rfl q (.string N) (by simp [strO, hqo, hN])
                rw [addr_add, Nat.zero_add] at h8
                exact h8
              have hgl : g < wr.heap.size := World.block_lt_of_cell? wr _ hcq
              have hwrapq : IntKind.i64.wrap ((q : Int) + 1) = (q : Int) + 1 := IntWalk.i64_in _ (by omega)
              have htk : o.take (q + 1) = o.take q ++ [o[q]] := List.take_succ_eq_append_getElem hqo
              have htkH := Lib.hid htk
              have hNH := Lib.hid hN
              have hownLH := Lib.hid hownL
              have hnewLH := Lib.hid hnewL
              have hstqH := Lib.hid hstq
              have hne : N = S ↔ o[q].1 = nmO c := by rw [hN, hSH.out]; exact strOf_eq
              have hneH := Lib.hid hne
              clear htk hN hownL hnewL hstq hne
              by_cases hd : N = S
              · have hdd : (N.toList != S.toList) = false := by rw [bne, str_cmp, decide_eq_true hd]; rfl
                have hde : (N.toList == S.toList) = true := by rw [str_cmp]; exact decide_eq_true hd
                have hdH := Lib.hid (hneH.out.1 hd)
                clear hd
                go_wp2_with fail
                go_roundw
                case rel =>
                  have e : delO (nmO c) (o.take (q + 1)) = delO (nmO c) (o.take q) := by
                    rw [htkH.out]; unfold delO; rw [List.filter_append]; simp [hdH.out]
                  exact ⟨q + 1, m, la2, lc2, by go_num, by omega, by rw [e]; exact hmH.out, rfl, by rw [e]; exact hownLH.out, hnewLH.out, hstqH.out⟩
                case measure => simp [intOf]; omega
              · have hdd : (N.toList != S.toList) = true := by rw [bne, str_cmp, decide_eq_false hd]; rfl
                have hde : (N.toList == S.toList) = false := by rw [str_cmp]; exact decide_eq_false hd
                have hdH := Lib.hid (show o[q].1 ≠ nmO c from fun e => hd (hneH.out.2 e))
                clear hd
                obtain ⟨WA, hWA⟩ : ∃ WA, WA = wr.alloc (.cells #[.string N] 9) := ⟨_, rfl⟩
                have hsA : Step [] id id wr WA := by rw [hWA]; exact Step.alloc _
                have hsrc : Src WA 1 (.slice (some ⟨wr.heap.size, 0, none⟩) 1 1) 1 [.string N] := by
                  refine ⟨rfl, .inr ⟨_, 1, rfl, fun t u ht => ?_⟩⟩
                  rw [addr_add, Nat.zero_add, hWA]
                  exact cell_blk (heap_alloc_new wr _) (by rw [← ht]; simp)
                have hownA := ownsRow_step hownLH.out hsA (fun k _ => by simp)
                obtain ⟨i0, hi, hi0, hi1, hi2⟩ := info_split info_string
                have hiH := Lib.hid hi
                have hi0H := Lib.hid hi0
                have hi1H := Lib.hid hi1
                have hi2H := Lib.hid hi2
                have hWAH := Lib.hid hWA
                have hsAH := Lib.hid hsA
                have hsrcH := Lib.hid hsrc
                have hownAH := Lib.hid hownA
                clear hi hi0 hi1 hi2 hWA hsA hsrc hownA
                go_wp2_with (at_builtin; rw [← hWAH.out]; refine wpList_app rfl _ _ 45 rfl 9 i0 _ 1 16 Tryd.underlying45 hiH.out hi0H.out hi1H.out hi2H.out rfl (by decide) (.slice la2 m lc2) m (strO (delO (nmO c) (o.take q))) (by rfl) hownAH.out (.slice (some ⟨wr.heap.size, 0, none⟩) 1 1) 1 [.string N] (by rfl) hsrcH.out (by simp [Value.oneCell']) (by omega) (by omega) ?_; intro ad' c' wB hownB hgrowB hnilB hatB; have hownBH := Lib.hid hownB; have hgrowBH := Lib.hid hgrowB; have hatBH := Lib.hid hatB; clear hownB hgrowB hnilB hatB)
                go_roundw
                case rel =>
                  have e : delO (nmO c) (o.take (q + 1)) = delO (nmO c) (o.take q) ++ [o[q]] := by
                    rw [htkH.out]; unfold delO; rw [List.filter_append]; simp [hdH.out]
                  have hsB : Step [] id id w9 wB := (hstqH.out.tail hsAH.out).tailNew (.grown (T := (Value.slice la2 m lc2).ownBlock.toList) hgrowBH.out (fun k hk => by simp [hk])) (fun r hr => .inr (hnewLH.out r (by simpa using hr)))
                  refine ⟨q + 1, m + 1, ad', c', by go_num, by omega, by rw [e, List.length_append, ← hmH.out]; rfl, rfl, ?_, ?_, hsB⟩
                  · have h := hownBH.out
                    rw [e]
                    have e2 : strO (delO (nmO c) (o.take q) ++ [o[q]]) = strO (delO (nmO c) (o.take q)) ++ [.string N] := by simp [strO, hNH.out]
                    rw [e2]; exact h
                  · intro k hk
                    rcases hatBH.out with h | h
                    · exact hnewLH.out k (by rw [← h]; exact hk)
                    · rw [h] at hk; cases hk
                      have := hstqH.out.size; have := hsAH.out.size; omega
                case measure => simp [intOf]; omega
            · have hql1 : ¬ (q : Int) < (on : Int) := by omega
              obtain rfl : q = on := by omega
              have hownLH := Lib.hid hownL
              have hnewLH := Lib.hid hnewL
              have hstqH := Lib.hid hstq
              clear hownL hnewL hstq
              go_wp2_with fail
              go_roundw
              case rel =>
                have e : delO (nmO c) (o.take q) = delO (nmO c) o := by rw [List.take_of_length_le (by rw [← honH.out]; exact Nat.le_refl _)]
                have hml : m = (delO (nmO c) o).length := by rw [← e]; exact hmH.out
                have hz7 : W8.heap.size ≤ w9.heap.size := hs9H.out.size
                have hz6 := hwrzH.out
                have hz8 : W6.heap.size ≤ W8.heap.size := hs8H.out.size
                have hwz : w.heap.size ≤ wo.heap.size := hstH.out.size
                have hstall : Step [] id id w wr := (hstH.out.tail hs6H.out).tailNew (T2 := [V, V + 1]) (((hs8H.out.mono (by simp)).tail (hs9H.out.mono (by simp))).tail (hstqH.out.mono (by simp))) (fun r hr => .inr (by
                  simp only [List.mem_cons, List.mem_nil_iff, or_false] at hr
                  rcases hr with h | h <;> omega))
                refine ⟨j + 1, by go_num, by omega, delO (nmO c) o, la2, lc2, D.del (.string (nmO c)), [.int .i64 k9, .int .i64 n9, .string s9, .slice ba9 bn9 bc9, .slice fa9 fn9 fc9, .slice la9 ln9 lc9], by rw [hml], ?_⟩
                refine ⟨by have := delO_len (nm := nmO c) (o := o); have := honH.out; omega, hokH.out.del, hrmH.out.del hokH.out, (OwnM.step hmap9H.out hstqH.out (by simp)).mono (by omega), ?_, ?_, hstqH.out.at hV9H.out (by simp), ?_, hstall⟩
                · rw [← hml, ← e]; exact hownLH.out
                · rw [← hml]
                  intro k hk
                  have := hnewLH.out k hk
                  refine ⟨?_, ?_, ?_⟩ <;> omega
                · rw [← hml]
                  refine hd9H.out.keep (fun k hk => ?_) (fun k hP hk => (hstqH.out.keep k hk (by simp)).2)
                  refine ⟨?_, ?_, fun h => ?_⟩
                  · rcases hk.1 with h | h
                    · exact h.1
                    · omega
                  · rcases hk.1 with h | h
                    · exact h.2.1
                    · omega
                  · have := hnewLH.out k h
                    omega
              case measure => simp [intOf]; omega
        · go_wp2_with (at_mapUpdate; (rw [← hW6H.out]); refine wpList_mapUpdate_own _ rfl _ _ _ 52 rfl 9 2 strKeyed Tryd.underlying52 (plainElem Tryd.prog 2) (V + 1) j D rfl hmap6H.out (by unfold maxLen; omega) (.string S) (.int .i64 y) (.string (nmO c)) rfl rfl (key_of hSH.out hnml) (nI y) [] (plainElem_int Tryd.underlying2 (wf_small ⟨hy0, hy1⟩)) ?_; intro w7 hmap7 hg7; have hmap7H := Lib.hid hmap7; have hg7H := Lib.hid hg7; clear hmap7 hg7)
          have hV7 := (hg7H.out.block _ (lt_of_block hV6H.out) (by intro e; injection e with e; omega)).trans hV6H.out
          have hdoc7 := (VIs.below _ _ hdoc6H.out).keep (P2 := fun k => (k ≠ V ∧ k ≠ V + 1 ∧ (Value.slice oa on oc).ownBlock ≠ some k) ∧ k < w7.heap.size) (w' := w7) (fun k h => ⟨h.1, Nat.lt_of_lt_of_le h.2 hg7H.out.size⟩) (fun k hP hk => hg7H.out.block k hk (by intro e; injection e with e; exact hP.1.2.1 e))
          have hpl : (putO (nmO c) y o).length = on := by rw [← namesO_len, namesO_put, if_pos hthH.out, namesO_len, honH.out]
          have hps : strO (putO (nmO c) y o) = strO o := by
            have e : ∀ o : Ord, strO o = (namesO o).map fun n => .string (strOf n) := fun o => by simp [strO, namesO]
            rw [e, e, namesO_put, if_pos hthH.out]
          have hown7 : w7.ownsRow 0 9 1 (.slice oa on oc) on (strO (putO (nmO c) y o)) := by rw [hps]; exact ownsRow_other hown6H.out hg7H.out (fun k hk => (hnewH.out k hk).2.1)
          clear hps
          have hst7 : Step [] id id w w7 := (hstH.out.tail hs6H.out).tailNew (.grown (T := [V + 1]) hg7H.out (fun k hk => by cases hk; simp)) (fun r hr => .inr (by rw [List.mem_singleton] at hr; omega))
          have q27 : w7.cell? ⟨b2, o2 + j, none⟩ = some (.int .i8 y) := (World.cell?_of_block (a := ⟨b2, o2 + j, none⟩) ((hst7.keep b2 (by have := World.block_lt_of_cell? w _ q2o.out; exact this) (by simp)).2)).trans q2o.out
          have hnew7H := hnewH
          have hV7H := Lib.hid hV7
          have hst7H := Lib.hid hst7
          have hdoc7H := Lib.hid hdoc7
          have hown7H := Lib.hid hown7
          have hplH := Lib.hid hpl
          have hwc := Lib.hid (fun (W : World) (hW : Step [] id id w7 W) => bs_with (ds := [.int .i64 3, .int .i64 y, .string ⟨#[]⟩, .slice none 0 0, .slice none 0 0, .slice none 0 0]) hSH.out (hdoc7H.out.keep (P2 := fun k => (k ≠ V ∧ k ≠ V + 1 ∧ (Value.slice oa on oc).ownBlock ≠ some k) ∧ k < w7.heap.size) (w' := W) (fun _ h => h) (fun k hP hk => (hW.keep k hk (by simp)).2)) (VIs.i32 _ W ⟨hy0, hy1⟩) (by show (fO o).length ≤ 2999; rw [fO_len, ← honH.out]; omega) (show (nmO c).length ≤ 140737488351232 by omega))
          have hVl7 : V < w7.heap.size := lt_of_block hV7
          have hb27 : b2 < w7.heap.size := World.block_lt_of_cell? w7 _ q27
          clear hV7 hst7 hdoc7 hown7 hpl v0 v1 v2 v3 v4 v5 q1r q2r
          have hwy : IntKind.i64.wrap y = y := IntWalk.i64_in _ (by omega)
          refine wp_region_held_drew (S := fun w' => w'.cell? ⟨b2, o2 + j, none⟩ = some (.int .i8 y)) (by kernel_rfl) q27 (fun hHeld => ?_)
          refine wpAnyH_take (i := 1) (v := ?_) rfl (by kernel_rfl) (by kernel_rfl) (by kernel_rfl) (fun _ _ _ h => h) (Or.inl ⟨by kernel_rfl, ?_⟩) hHeld ?_
          rotate_left
          · intro w' hSw; (try dsimp only at hSw); go_simp
            all_goals (with_reducible rfl)
          simp only [Act.put, List.getElem_toArray, List.getElem_cons_zero, List.getElem_cons_succ, List.setIfInBounds_toArray, List.set_cons_zero, List.set_cons_succ]
          refine wpAnyH_take (i := 2) (v := ?_) rfl (by kernel_rfl) (by kernel_rfl) (by kernel_rfl) (fun _ _ _ h => h) (Or.inl ⟨by kernel_rfl, ?_⟩) hHeld ?_
          rotate_left
          · intro w' hSw; (try dsimp only at hSw); go_simp
            all_goals (with_reducible rfl)
          simp only [Act.put, List.getElem_toArray, List.getElem_cons_zero, List.getElem_cons_succ, List.setIfInBounds_toArray, List.set_cons_zero, List.set_cons_succ]
          refine wpAnyH_take (i := 3) (v := ?_) rfl (by kernel_rfl) (by kernel_rfl) (by kernel_rfl) (fun _ _ _ h => h) (Or.inl ⟨by kernel_rfl, ?_⟩) hHeld ?_
          rotate_left
          · intro w' hSw; (try dsimp only at hSw); go_simp
            all_goals (with_reducible rfl)
          simp only [Act.put, List.getElem_toArray, List.getElem_cons_zero, List.getElem_cons_succ, List.setIfInBounds_toArray, List.set_cons_zero, List.set_cons_succ]
          refine wpAnyH_take (i := 4) (v := ?_) rfl (by kernel_rfl) (by kernel_rfl) (by kernel_rfl) (fun _ _ _ h => h) (Or.inl ⟨by kernel_rfl, ?_⟩) hHeld ?_
          rotate_left
          · intro w' hSw; (try dsimp only at hSw); go_simp
            all_goals (with_reducible rfl)
          simp only [Act.put, List.getElem_toArray, List.getElem_cons_zero, List.getElem_cons_succ, List.setIfInBounds_toArray, List.set_cons_zero, List.set_cons_succ]
          refine wpAnyH_take (i := 5) (v := ?_) rfl (by kernel_rfl) (by kernel_rfl) (by kernel_rfl) (fun _ _ _ h => h) (Or.inl ⟨by kernel_rfl, ?_⟩) hHeld ?_
          rotate_left
          · intro w' hSw; (try dsimp only at hSw); go_simp
            all_goals (with_reducible rfl)
          simp only [Act.put, List.getElem_toArray, List.getElem_cons_zero, List.getElem_cons_succ, List.setIfInBounds_toArray, List.set_cons_zero, List.set_cons_succ]
          refine wpAnyH_take (i := 6) (v := ?_) rfl (by kernel_rfl) (by kernel_rfl) (by kernel_rfl) (fun _ _ _ h => h) (Or.inl ⟨by kernel_rfl, ?_⟩) hHeld ?_
          rotate_left
          · intro w' hSw; (try dsimp only at hSw); go_simp
            all_goals (with_reducible rfl)
          simp only [Act.put, List.getElem_toArray, List.getElem_cons_zero, List.getElem_cons_succ, List.setIfInBounds_toArray, List.set_cons_zero, List.set_cons_succ]
          refine wpAnyH_take (i := 7) (v := ?_) rfl (by kernel_rfl) (by kernel_rfl) (by kernel_rfl) (fun _ _ _ h => h) (Or.inl ⟨by kernel_rfl, ?_⟩) hHeld ?_
          rotate_left
          · intro w' hSw; (try dsimp only at hSw); go_simp
            all_goals (with_reducible rfl)
          simp only [Act.put, List.getElem_toArray, List.getElem_cons_zero, List.getElem_cons_succ, List.setIfInBounds_toArray, List.set_cons_zero, List.set_cons_succ]
          obtain ⟨v0, v1, v2, v3, v4, v5⟩ := cells_of6 hV7H.out
          refine wpAnyH_ready (rs := [0]) (by kernel_rfl) (by simp) ?_
          refine AllReadyH.cons (o := _) rfl (fun K hK => ?_) AllReadyH.nil
          go_simp
          refine hK.out _ _ ?_ (fun hHeld => ?_)
          · exact q27
          clear hK K
          refine wpAnyH_ready (rs := [8]) (by kernel_rfl) (by simp) ?_
          refine AllReadyH.cons (o := _) rfl (fun K hK => ?_) AllReadyH.nil
          go_simp
          clear v0 v1 v2 v3 v4 v5
          refine (hwc.out w7.drew Step.drew).mono ?_
          rintro e u8 ⟨ds, rfl, hd8, hs8⟩
          rw [withV_put] at hd8
          obtain ⟨s9, ba9, bn9, bc9, fa9, fn9, fc9, la9, ln9, lc9, hds, -⟩ := hd8.six
          obtain ⟨n9, hn9⟩ : ∃ k, k = (docO (putO (nmO c) y o)).num := ⟨_, rfl⟩
          obtain ⟨k9, hk9⟩ : ∃ k, k = (docO (putO (nmO c) y o)).kind := ⟨_, rfl⟩
          rw [← hk9, ← hn9] at hds
          subst hds
          have hV8 := hs8.at hV7H.out (by simp)
          have q28 : u8.cell? ⟨b2, o2 + j, none⟩ = some (.int .i8 y) := (World.cell?_of_block (a := ⟨b2, o2 + j, none⟩) ((hs8.keep b2 (by exact hb27) (by simp)).2)).trans q27
          obtain ⟨p0, p1, p2, p3, p4, p5⟩ := cells_of6 hV8
          have frr := free_blk hV8
          have fr0 := frr 0
          have fr1 := frr 1
          have fr2 := frr 2
          have fr3 := frr 3
          have fr4 := frr 4
          have fr5 := frr 5
          have hVl8 := lt_of_block hV8
          have hs8H := Lib.hid (show Step [] id id w7 u8 from Step.drew.tail hs8)
          have hd8H := Lib.hid hd8
          have hV8H := Lib.hid hV8
          clear hd8 hs8 hV8 hn9 hk9 frr
          go_wp2_with fail
          refine hK.out _ _ ?_ (fun hHeld => ?_)
          · exact q28
          clear hK K
          refine wpAnyH_ready (rs := [9]) (by kernel_rfl) (by simp) ?_
          refine AllReadyH.cons (o := _) rfl (fun K hK => ?_) AllReadyH.nil
          go_simp
          go_wp2_with fail
          change K _ (set6 u8 V (.int .i64 k9) (.int .i64 n9) (.string s9) (.slice ba9 bn9 bc9) (.slice fa9 fn9 fc9) (.slice la9 ln9 lc9))
          obtain ⟨W9, hW9⟩ : ∃ W9, W9 = set6 u8 V (.int .i64 k9) (.int .i64 n9) (.string s9) (.slice ba9 bn9 bc9) (.slice fa9 fn9 fc9) (.slice la9 ln9 lc9) := ⟨_, rfl⟩
          rw [← hW9]
          have hg9 : u8.grownBy W9 (some V) := by rw [hW9]; exact set6_grown
          have hV9 : W9.heap[V]? = some (.cells #[.int .i64 k9, .int .i64 n9, .string s9, .slice ba9 bn9 bc9, .slice fa9 fn9 fc9, .slice la9 ln9 lc9] 27 (0, 0)) := by rw [hW9]; exact set6_heap hV8H.out
          have q29 : W9.cell? ⟨b2, o2 + j, none⟩ = some (.int .i8 y) := (World.cell?_of_block (a := ⟨b2, o2 + j, none⟩) (hg9.block b2 (World.block_lt_of_cell? u8 _ q28) (by
            have := World.block_lt_of_cell? w _ q2o.out
            intro e; injection e with e; simp at this; omega))).trans q28
          have hg9H := Lib.hid hg9
          have hV9H := Lib.hid hV9
          clear hg9 hV9 hW9
          refine hK.out _ _ ?_ (fun hHeld => ?_)
          · exact q29
          clear hK K
          refine wpAnyH_done (by kernel_rfl) ?_ _
          clear p0 p1 p2 p3 p4 p5 fr0 fr1 fr2 fr3 fr4 fr5 q28 q29 q27 hHeld hwy
          go_wp2_with fail
          go_roundw
          case rel =>
            have hs79 : Step [V] id id w7 W9 := (hs8H.out.mono (by simp)).tail (.grown hg9H.out (fun k hk => by cases hk; simp))
            have hz7 : w7.heap.size ≤ u8.heap.size := hs8H.out.size
            have hz9 : u8.heap.size ≤ W9.heap.size := hg9H.out.size
            have hstall : Step [] id id w W9 := hst7H.out.tailNew hs79 (fun r hr => .inr (by rw [List.mem_singleton] at hr; omega))
            refine ⟨j + 1, by go_num, by omega, putO (nmO c) y o, oa, oc, D.put (.string (nmO c)) (nI y), [.int .i64 k9, .int .i64 n9, .string s9, .slice ba9 bn9 bc9, .slice fa9 fn9 fc9, .slice la9 ln9 lc9], by rw [hplH.out], ?_⟩
            refine ⟨by have := putO_len (nm := nmO c) (n := y) (o := o); have := honH.out; omega, hokH.out.put ⟨c, rfl⟩ ⟨hy0, hy1⟩, hrmH.out.put hokH.out ⟨c, rfl⟩ ⟨hy0, hy1⟩, OwnM.step hmap7H.out hs79 (by simp), ?_, ?_, hV9H.out, ?_, hstall⟩
            · rw [hplH.out]; exact ownsRow_step hown7H.out hs79 (fun k hk hm => (hnew7H.out k hk).1 (by simpa using hm))
            · rw [hplH.out]; exact hnew7H.out
            · rw [hplH.out]
              have hlt : ∀ k, (Value.slice oa on oc).ownBlock = some k → k < w7.heap.size := fun k hk => (World.ownsRow.lt hown7H.out k hk).2
              have hd : VIs (fun k => ((k ≠ V ∧ k ≠ V + 1 ∧ (Value.slice oa on oc).ownBlock ≠ some k) ∧ k < w7.heap.size) ∨ w7.heap.size ≤ k) u8 (docO (putO (nmO c) y o)) _ := hd8H.out
              have hV1 := hmap7H.out.lt
              refine hd.keep (fun k hk => ?_) (fun k hP hk => hg9H.out.block k hk (by
                intro e; injection e with e
                rcases hP with h | h
                · exact h.1.1 e
                · omega))
              rcases hk with h | h
              · exact h.1
              · exact ⟨by omega, by omega, fun e => by have := hlt k e; omega⟩
          case measure => simp [intOf]; omega
      · obtain ⟨c0, hlk⟩ := map_lk_ok hmap6 hrmH.out hSH.out hnml
        rw [decide_eq_false hth, hW6] at hlk
        have hthH := Lib.hid hth
        have hW6H := Lib.hid hW6
        clear hs6 hV6 hmap6 hdoc6 hown6 hk0 hn0 hwrz hth hW6
        by_cases hy : y < 0
        · have hwc := Lib.hid (bs_with hSH.out hdoc6H.out (VIs.zero _ W6) (by show (fO o).length ≤ 2999; rw [fO_len, ← honH.out]; omega) (by omega))
          go_wp2_with fail
          rw [← hW6H.out]
          refine hwc.out.mono ?_
          rintro e w7 ⟨ds, rfl, hd7, hs7⟩
          rw [withV_del] at hd7
          obtain ⟨s9, ba9, bn9, bc9, fa9, fn9, fc9, la9, ln9, lc9, hds, -⟩ := hd7.six
          obtain ⟨n9, hn9⟩ : ∃ k, k = (docO (delO (nmO c) o)).num := ⟨_, rfl⟩
          obtain ⟨k9, hk9⟩ : ∃ k, k = (docO (delO (nmO c) o)).kind := ⟨_, rfl⟩
          rw [← hk9, ← hn9] at hds
          subst hds
          have hV7 := hs7.at hV6H.out (by simp)
          obtain ⟨p0, p1, p2, p3, p4, p5⟩ := cells_of6 hV7
          have frr := free_blk hV7
          have fr0 := frr 0
          have fr1 := frr 1
          have fr2 := frr 2
          have fr3 := frr 3
          have fr4 := frr 4
          have fr5 := frr 5
          have hVl7 := lt_of_block hV7
          obtain ⟨W8, hW8⟩ : ∃ W8, W8 = set6 w7 V (.int .i64 k9) (.int .i64 n9) (.string s9) (.slice ba9 bn9 bc9) (.slice fa9 fn9 fc9) (.slice la9 ln9 lc9) := ⟨_, rfl⟩
          have hg8 : w7.grownBy W8 (some V) := by rw [hW8]; exact set6_grown
          have hV8 : W8.heap[V]? = some (.cells #[.int .i64 k9, .int .i64 n9, .string s9, .slice ba9 bn9 bc9, .slice fa9 fn9 fc9, .slice la9 ln9 lc9] 27 (0, 0)) := by rw [hW8]; exact set6_heap hV7
          have hs8 : Step [V] id id W6 W8 := (hs7.mono (by simp)).tail (.grown hg8 (fun k hk => by cases hk; simp))
          have hmap8 := hmap6H.out.step hs8 (by simp)
          have hown8 := ownsRow_step hown6H.out hs8 (fun k hk hm => (hnewH.out k hk).1 (by simpa using hm))
          have hd8 := (VIs.below _ _ hd7).keep (P2 := fun k => ((k ≠ V ∧ k ≠ V + 1 ∧ (Value.slice oa on oc).ownBlock ≠ some k) ∨ W6.heap.size ≤ k) ∧ k < W8.heap.size) (w' := W8) (fun k h => ⟨h.1, Nat.lt_of_lt_of_le h.2 hg8.size⟩) (fun k hP hk => hg8.block k hk (by
            intro e; injection e with e
            have hz := hwrzH.out
            rcases hP.1 with h | h
            · exact h.1 e
            · omega))
          have hs8H := Lib.hid hs8
          have hV8H := Lib.hid hV8
          have hW8H := Lib.hid hW8
          have hmap8H := Lib.hid hmap8
          have hown8H := Lib.hid hown8
          have hd8H := Lib.hid hd8
          clear hd7 hs7 hn9 hk9 hV7 hW8 hg8 hV8 hs8 hmap8 hown8 hd8 frr v0 v1 v2 v3 v4 v5 hwc hlk hconv
          go_wp2_with fail
          obtain ⟨Wz, hWz⟩ : ∃ Wz, Wz = W8 := ⟨_, rfl⟩
          go_roundw
          case rel =>
            have e := delO_none hthH.out
            have h8 := hW8H.out
            have hz8 : W6.heap.size ≤ W8.heap.size := hs8H.out.size
            have hstall : Step [] id id w W8 := (hstH.out.tail hs6H.out).tailNew hs8H.out (fun r hr => .inr (by rw [List.mem_singleton] at hr; omega))
            have hO : OrdR w V (j + 1) o oa oc D [.int .i64 k9, .int .i64 n9, .string s9, .slice ba9 bn9 bc9, .slice fa9 fn9 fc9, .slice la9 ln9 lc9] W8 := by
              refine ⟨by have := honH.out; omega, hokH.out, hrmH.out, hmap8H.out.mono (by omega), by rw [← honH.out]; exact hown8H.out, by rw [← honH.out]; exact hnewH.out, hV8H.out, ?_, hstall⟩
              have hd := hd8H.out
              rw [e] at hd
              have hm := hmapH.out.lt
              rw [← honH.out]
              refine hd.keep (fun k hk => ?_) (fun _ _ _ => rfl)
              have hz := hwrzH.out
              rcases hk.1 with h | h
              · exact h
              · exact ⟨by omega, by omega, fun e => by have := (World.ownsRow.lt hownH.out k e).2; omega⟩
            rw [h8] at hO
            exact ⟨j + 1, by go_num, by omega, o, oa, oc, D, _, by rw [honH.out], hO⟩
          case measure => simp [intOf]; omega
        · obtain ⟨WA, hWA⟩ : ∃ WA, WA = W6.alloc (.cells #[.string S] 9) := ⟨_, rfl⟩
          have hsA : Step [] id id W6 WA := by rw [hWA]; exact Step.alloc _
          have hsrc : Src WA 1 (.slice (some ⟨wr.heap.size + 1, 0, none⟩) 1 1) 1 [.string S] := by
            refine ⟨rfl, .inr ⟨_, 1, rfl, fun t u ht => ?_⟩⟩
            rw [addr_add, Nat.zero_add, hWA, ← hwrzH.out]
            exact cell_blk (heap_alloc_new W6 _) (by rw [← ht]; simp)
          have hownA := ownsRow_step hown6H.out hsA (fun k _ => by simp)
          have hmapA := hmap6H.out.step hsA (by simp)
          obtain ⟨i0, hi, hi0, hi1, hi2⟩ := info_split info_string
          have hiH := Lib.hid hi
          have hi0H := Lib.hid hi0
          have hi1H := Lib.hid hi1
          have hi2H := Lib.hid hi2
          have hWAH := Lib.hid hWA
          have hsAH := Lib.hid hsA
          have hsrcH := Lib.hid hsrc
          have hownAH := Lib.hid hownA
          have hmapAH := Lib.hid hmapA
          have q2A := Lib.hid (show WA.cell? ⟨b2, o2 + j, none⟩ = some (.int .i8 y) from (World.cell?_of_block (a := ⟨b2, o2 + j, none⟩) (((hs6H.out.tail hsA).keep b2 hb2l (by simp)).2)).trans q2r)
          have hb2w : b2 < w.heap.size := World.block_lt_of_cell? w _ q2o.out
          clear hi hi0 hi1 hi2 hWA hsA hsrc hownA hmapA
          go_wp2_with (first | (at_builtin; rw [← hW6H.out, ← hWAH.out]; refine wpList_app rfl _ _ 45 rfl 9 i0 _ 1 16 Tryd.underlying45 hiH.out hi0H.out hi1H.out hi2H.out rfl (by decide) (.slice oa on oc) on (strO o) (by rfl) hownAH.out (.slice (some ⟨wr.heap.size + 1, 0, none⟩) 1 1) 1 [.string S] (by rfl) hsrcH.out (by simp [Value.oneCell']) (by omega) (by omega) ?_; intro ad' c' wB hownB hgrowB hnilB hatB; have hmapBH := Lib.hid (hmapAH.out.step (Step.grown (T := (Value.slice oa on oc).ownBlock.toList) hgrowB (fun k hk => by simp [hk])) (fun hm => (hnewH.out _ (by simpa using hm)).2.1 rfl)); have hb2A : b2 < WA.heap.size := World.block_lt_of_cell? WA _ q2A.out; have q2B : wB.cell? ⟨b2, o2 + j, none⟩ = some (.int .i8 y) := (World.cell?_of_block (a := ⟨b2, o2 + j, none⟩) (hgrowB.block b2 hb2A (fun e => by have := (hnewH.out b2 e.symm).2.2; omega))).trans q2A.out; have hb2B : b2 < wB.heap.size := World.block_lt_of_cell? wB _ q2B; have hownBH := Lib.hid hownB; have hgrowBH := Lib.hid hgrowB; have hatBH := Lib.hid hatB; clear hownB hgrowB hnilB hatB) | (at_mapUpdate; refine wpList_mapUpdate_own _ rfl _ _ _ 52 rfl 9 2 strKeyed Tryd.underlying52 (plainElem Tryd.prog 2) (V + 1) j D rfl hmapBH.out (by unfold maxLen; omega) (.string S) (.int .i64 y) (.string (nmO c)) rfl rfl (key_of hSH.out hnml) (nI y) [] (plainElem_int Tryd.underlying2 (wf_small ⟨hy0, hy1⟩)) ?_; intro w7 hmap7 hg7; have hmap7H := Lib.hid hmap7; have hg7H := Lib.hid hg7; clear hmap7 hg7))
          have hsAB : Step (Value.slice oa on oc).ownBlock.toList id id WA wB := .grown hgrowBH.out (fun k hk => by simp [hk])
          have hownne : ∀ k, k ∈ (Value.slice oa on oc).ownBlock.toList → k ≠ V ∧ k ≠ V + 1 ∧ w.heap.size ≤ k := fun k hk => hnewH.out k (by simpa using hk)
          have hzA : WA.heap.size = W6.heap.size + 1 := by rw [hWAH.out]; simp
          have hm6 := hmap6H.out.lt
          have hV7 := (hg7H.out.block _ (lt_of_block (hsAB.at (hsAH.out.at hV6H.out (by simp)) (fun hm => (hownne _ hm).1 rfl))) (by intro e; injection e with e; omega)).trans (hsAB.at (hsAH.out.at hV6H.out (by simp)) (fun hm => (hownne _ hm).1 rfl))
          have hnewB : ∀ k, (Value.slice ad' (on + 1) c').ownBlock = some k → k ≠ V ∧ k ≠ V + 1 ∧ w.heap.size ≤ k := fun k hk => by
            rcases hatBH.out with h | h
            · exact hnewH.out k (by rw [← h]; exact hk)
            · rw [h] at hk; cases hk
              have := hstH.out.size
              have := hwrzH.out
              refine ⟨?_, ?_, ?_⟩ <;> omega
          have hnew7H := Lib.hid hnewB
          have hst7 : Step [] id id w w7 := ((hstH.out.tail hs6H.out).tail hsAH.out).tailNew (T2 := (V + 1) :: (Value.slice oa on oc).ownBlock.toList) ((hsAB.mono (fun r hr => List.mem_cons_of_mem _ hr)).tail (.grown hg7H.out (fun k hk => by cases hk; simp))) (fun r hr => .inr (by
            rcases List.mem_cons.1 hr with h | h
            · omega
            · exact (hownne _ h).2.2))
          have hdoc7 := (VIs.below _ _ hdoc6H.out).keep (P2 := fun k => (k ≠ V ∧ k ≠ V + 1 ∧ (Value.slice ad' (on + 1) c').ownBlock ≠ some k) ∧ k < w7.heap.size) (w' := w7) (fun k h => by
            have h1 := hg7H.out.size
            have h2 := hsAB.size
            refine ⟨⟨h.1.1, h.1.2.1, fun e => ?_⟩, by have := h.2; omega⟩
            rcases hatBH.out with h3 | h3
            · exact h.1.2.2 (by rw [← h3]; exact e)
            · rw [h3] at e; cases e
              have := h.2; omega) (fun k hP hk => by
            have e1 := (hsAH.out.keep k hk (by simp)).2
            have e2 := (hsAB.keep k (by omega) (fun hm => hP.1.2.2 (by simpa using hm))).2
            have e3 := hg7H.out.block k (by have := hsAB.size; omega) (by intro e; injection e with e; exact hP.1.2.1 e)
            exact e3.trans (e2.trans e1))
          have hps : strO (putO (nmO c) y o) = strO o ++ [.string S] := by
            have e : ∀ o : Ord, strO o = (namesO o).map fun n => .string (strOf n) := fun o => by simp [strO, namesO]
            rw [e, e, namesO_put, if_neg hthH.out, hSH.out, List.map_append]; rfl
          have hpl : (putO (nmO c) y o).length = on + 1 := by rw [← namesO_len, namesO_put, if_neg hthH.out, List.length_append, namesO_len, honH.out]; rfl
          have hown7 : w7.ownsRow 0 9 1 (.slice ad' (on + 1) c') (on + 1) (strO (putO (nmO c) y o)) := by rw [hps]; exact ownsRow_other hownBH.out hg7H.out (fun k hk => (hnewB k hk).2.1)
          have q27 : w7.cell? ⟨b2, o2 + j, none⟩ = some (.int .i8 y) := (World.cell?_of_block (a := ⟨b2, o2 + j, none⟩) ((hst7.keep b2 hb2w (by simp)).2)).trans q2o.out
          clear hps hsAB hownne hzA hm6 hnewB q2B hb2B hb2A
          have hV7H := Lib.hid hV7
          have hst7H := Lib.hid hst7
          have hdoc7H := Lib.hid hdoc7
          have hown7H := Lib.hid hown7
          have hplH := Lib.hid hpl
          have hwc := Lib.hid (fun (W : World) (hW : Step [] id id w7 W) => bs_with (ds := [.int .i64 3, .int .i64 y, .string ⟨#[]⟩, .slice none 0 0, .slice none 0 0, .slice none 0 0]) hSH.out (hdoc7H.out.keep (P2 := fun k => (k ≠ V ∧ k ≠ V + 1 ∧ (Value.slice ad' (on + 1) c').ownBlock ≠ some k) ∧ k < w7.heap.size) (w' := W) (fun _ h => h) (fun k hP hk => (hW.keep k hk (by simp)).2)) (VIs.i32 _ W ⟨hy0, hy1⟩) (by show (fO o).length ≤ 2999; rw [fO_len, ← honH.out]; omega) (show (nmO c).length ≤ 140737488351232 by omega))
          have hVl7 : V < w7.heap.size := lt_of_block hV7
          have hb27 : b2 < w7.heap.size := World.block_lt_of_cell? w7 _ q27
          clear hV7 hst7 hdoc7 hown7 hpl v0 v1 v2 v3 v4 v5 q1r q2r
          have hwy : IntKind.i64.wrap y = y := IntWalk.i64_in _ (by omega)
          refine wp_region_held_drew (S := fun w' => w'.cell? ⟨b2, o2 + j, none⟩ = some (.int .i8 y)) (by kernel_rfl) q27 (fun hHeld => ?_)
          refine wpAnyH_take (i := 1) (v := ?_) rfl (by kernel_rfl) (by kernel_rfl) (by kernel_rfl) (fun _ _ _ h => h) (Or.inl ⟨by kernel_rfl, ?_⟩) hHeld ?_
          rotate_left
          · intro w' hSw; (try dsimp only at hSw); go_simp
            all_goals (with_reducible rfl)
          simp only [Act.put, List.getElem_toArray, List.getElem_cons_zero, List.getElem_cons_succ, List.setIfInBounds_toArray, List.set_cons_zero, List.set_cons_succ]
          refine wpAnyH_take (i := 2) (v := ?_) rfl (by kernel_rfl) (by kernel_rfl) (by kernel_rfl) (fun _ _ _ h => h) (Or.inl ⟨by kernel_rfl, ?_⟩) hHeld ?_
          rotate_left
          · intro w' hSw; (try dsimp only at hSw); go_simp
            all_goals (with_reducible rfl)
          simp only [Act.put, List.getElem_toArray, List.getElem_cons_zero, List.getElem_cons_succ, List.setIfInBounds_toArray, List.set_cons_zero, List.set_cons_succ]
          refine wpAnyH_take (i := 3) (v := ?_) rfl (by kernel_rfl) (by kernel_rfl) (by kernel_rfl) (fun _ _ _ h => h) (Or.inl ⟨by kernel_rfl, ?_⟩) hHeld ?_
          rotate_left
          · intro w' hSw; (try dsimp only at hSw); go_simp
            all_goals (with_reducible rfl)
          simp only [Act.put, List.getElem_toArray, List.getElem_cons_zero, List.getElem_cons_succ, List.setIfInBounds_toArray, List.set_cons_zero, List.set_cons_succ]
          refine wpAnyH_take (i := 4) (v := ?_) rfl (by kernel_rfl) (by kernel_rfl) (by kernel_rfl) (fun _ _ _ h => h) (Or.inl ⟨by kernel_rfl, ?_⟩) hHeld ?_
          rotate_left
          · intro w' hSw; (try dsimp only at hSw); go_simp
            all_goals (with_reducible rfl)
          simp only [Act.put, List.getElem_toArray, List.getElem_cons_zero, List.getElem_cons_succ, List.setIfInBounds_toArray, List.set_cons_zero, List.set_cons_succ]
          refine wpAnyH_take (i := 5) (v := ?_) rfl (by kernel_rfl) (by kernel_rfl) (by kernel_rfl) (fun _ _ _ h => h) (Or.inl ⟨by kernel_rfl, ?_⟩) hHeld ?_
          rotate_left
          · intro w' hSw; (try dsimp only at hSw); go_simp
            all_goals (with_reducible rfl)
          simp only [Act.put, List.getElem_toArray, List.getElem_cons_zero, List.getElem_cons_succ, List.setIfInBounds_toArray, List.set_cons_zero, List.set_cons_succ]
          refine wpAnyH_take (i := 6) (v := ?_) rfl (by kernel_rfl) (by kernel_rfl) (by kernel_rfl) (fun _ _ _ h => h) (Or.inl ⟨by kernel_rfl, ?_⟩) hHeld ?_
          rotate_left
          · intro w' hSw; (try dsimp only at hSw); go_simp
            all_goals (with_reducible rfl)
          simp only [Act.put, List.getElem_toArray, List.getElem_cons_zero, List.getElem_cons_succ, List.setIfInBounds_toArray, List.set_cons_zero, List.set_cons_succ]
          refine wpAnyH_take (i := 7) (v := ?_) rfl (by kernel_rfl) (by kernel_rfl) (by kernel_rfl) (fun _ _ _ h => h) (Or.inl ⟨by kernel_rfl, ?_⟩) hHeld ?_
          rotate_left
          · intro w' hSw; (try dsimp only at hSw); go_simp
            all_goals (with_reducible rfl)
          simp only [Act.put, List.getElem_toArray, List.getElem_cons_zero, List.getElem_cons_succ, List.setIfInBounds_toArray, List.set_cons_zero, List.set_cons_succ]
          obtain ⟨v0, v1, v2, v3, v4, v5⟩ := cells_of6 hV7H.out
          refine wpAnyH_ready (rs := [0]) (by kernel_rfl) (by simp) ?_
          refine AllReadyH.cons (o := _) rfl (fun K hK => ?_) AllReadyH.nil
          go_simp
          refine hK.out _ _ ?_ (fun hHeld => ?_)
          · exact q27
          clear hK K
          refine wpAnyH_ready (rs := [8]) (by kernel_rfl) (by simp) ?_
          refine AllReadyH.cons (o := _) rfl (fun K hK => ?_) AllReadyH.nil
          go_simp
          clear v0 v1 v2 v3 v4 v5
          refine (hwc.out w7.drew Step.drew).mono ?_
          rintro e u8 ⟨ds, rfl, hd8, hs8⟩
          rw [withV_put] at hd8
          obtain ⟨s9, ba9, bn9, bc9, fa9, fn9, fc9, la9, ln9, lc9, hds, -⟩ := hd8.six
          obtain ⟨n9, hn9⟩ : ∃ k, k = (docO (putO (nmO c) y o)).num := ⟨_, rfl⟩
          obtain ⟨k9, hk9⟩ : ∃ k, k = (docO (putO (nmO c) y o)).kind := ⟨_, rfl⟩
          rw [← hk9, ← hn9] at hds
          subst hds
          have hV8 := hs8.at hV7H.out (by simp)
          have q28 : u8.cell? ⟨b2, o2 + j, none⟩ = some (.int .i8 y) := (World.cell?_of_block (a := ⟨b2, o2 + j, none⟩) ((hs8.keep b2 (by exact hb27) (by simp)).2)).trans q27
          obtain ⟨p0, p1, p2, p3, p4, p5⟩ := cells_of6 hV8
          have frr := free_blk hV8
          have fr0 := frr 0
          have fr1 := frr 1
          have fr2 := frr 2
          have fr3 := frr 3
          have fr4 := frr 4
          have fr5 := frr 5
          have hVl8 := lt_of_block hV8
          have hs8H := Lib.hid (show Step [] id id w7 u8 from Step.drew.tail hs8)
          have hd8H := Lib.hid hd8
          have hV8H := Lib.hid hV8
          clear hd8 hs8 hV8 hn9 hk9 frr
          go_wp2_with fail
          refine hK.out _ _ ?_ (fun hHeld => ?_)
          · exact q28
          clear hK K
          refine wpAnyH_ready (rs := [9]) (by kernel_rfl) (by simp) ?_
          refine AllReadyH.cons (o := _) rfl (fun K hK => ?_) AllReadyH.nil
          go_simp
          go_wp2_with fail
          change K _ (set6 u8 V (.int .i64 k9) (.int .i64 n9) (.string s9) (.slice ba9 bn9 bc9) (.slice fa9 fn9 fc9) (.slice la9 ln9 lc9))
          obtain ⟨W9, hW9⟩ : ∃ W9, W9 = set6 u8 V (.int .i64 k9) (.int .i64 n9) (.string s9) (.slice ba9 bn9 bc9) (.slice fa9 fn9 fc9) (.slice la9 ln9 lc9) := ⟨_, rfl⟩
          rw [← hW9]
          have hg9 : u8.grownBy W9 (some V) := by rw [hW9]; exact set6_grown
          have hV9 : W9.heap[V]? = some (.cells #[.int .i64 k9, .int .i64 n9, .string s9, .slice ba9 bn9 bc9, .slice fa9 fn9 fc9, .slice la9 ln9 lc9] 27 (0, 0)) := by rw [hW9]; exact set6_heap hV8H.out
          have q29 : W9.cell? ⟨b2, o2 + j, none⟩ = some (.int .i8 y) := (World.cell?_of_block (a := ⟨b2, o2 + j, none⟩) (hg9.block b2 (World.block_lt_of_cell? u8 _ q28) (by
            have := World.block_lt_of_cell? w _ q2o.out
            intro e; injection e with e; simp at this; omega))).trans q28
          have hg9H := Lib.hid hg9
          have hV9H := Lib.hid hV9
          clear hg9 hV9 hW9
          refine hK.out _ _ ?_ (fun hHeld => ?_)
          · exact q29
          clear hK K
          refine wpAnyH_done (by kernel_rfl) ?_ _
          clear p0 p1 p2 p3 p4 p5 fr0 fr1 fr2 fr3 fr4 fr5 q28 q29 q27 hHeld hwy
          go_wp2_with fail
          go_roundw
          case rel =>
            have hs79 : Step [V] id id w7 W9 := (hs8H.out.mono (by simp)).tail (.grown hg9H.out (fun k hk => by cases hk; simp))
            have hz7 : w7.heap.size ≤ u8.heap.size := hs8H.out.size
            have hz9 : u8.heap.size ≤ W9.heap.size := hg9H.out.size
            have hstall : Step [] id id w W9 := hst7H.out.tailNew hs79 (fun r hr => .inr (by rw [List.mem_singleton] at hr; omega))
            refine ⟨j + 1, by go_num, by omega, putO (nmO c) y o, ad', c', D.put (.string (nmO c)) (nI y), [.int .i64 k9, .int .i64 n9, .string s9, .slice ba9 bn9 bc9, .slice fa9 fn9 fc9, .slice la9 ln9 lc9], by rw [hplH.out], ?_⟩
            refine ⟨by have := putO_len (nm := nmO c) (n := y) (o := o); have := honH.out; omega, hokH.out.put ⟨c, rfl⟩ ⟨hy0, hy1⟩, hrmH.out.put hokH.out ⟨c, rfl⟩ ⟨hy0, hy1⟩, OwnM.step hmap7H.out hs79 (by simp), ?_, ?_, hV9H.out, ?_, hstall⟩
            · rw [hplH.out]; exact ownsRow_step hown7H.out hs79 (fun k hk hm => (hnew7H.out k hk).1 (by simpa using hm))
            · rw [hplH.out]; exact hnew7H.out
            · rw [hplH.out]
              have hlt : ∀ k, (Value.slice ad' (on + 1) c').ownBlock = some k → k < w7.heap.size := fun k hk => (World.ownsRow.lt hown7H.out k hk).2
              have hd : VIs (fun k => ((k ≠ V ∧ k ≠ V + 1 ∧ (Value.slice ad' (on + 1) c').ownBlock ≠ some k) ∧ k < w7.heap.size) ∨ w7.heap.size ≤ k) u8 (docO (putO (nmO c) y o)) _ := hd8H.out
              have hV1 := hmap7H.out.lt
              refine hd.keep (fun k hk => ?_) (fun k hP hk => hg9H.out.block k hk (by
                intro e; injection e with e
                rcases hP with h | h
                · exact h.1.1 e
                · omega))
              rcases hk with h | h
              · exact h.1
              · exact ⟨by omega, by omega, fun e => by have := hlt k e; omega⟩
          case measure => simp [intOf]; omega
    · have hjl1 : ¬ (j : Int) < (n1 : Int) := by omega
      obtain ⟨bv, fa, fc, la, lc, hcs, hbx, -, -, -, hfx, -⟩ := hdoc.cells
      obtain ⟨ba, bc, rfl⟩ := hbx.shape
      obtain ⟨s0, hs0⟩ : ∃ k, k = strOf (docO o).s := ⟨_, rfl⟩
      obtain ⟨bn, hbn⟩ : ∃ k, k = (docO o).b.length := ⟨_, rfl⟩
      obtain ⟨ln, hln⟩ : ∃ k, k = (docO o).l.length := ⟨_, rfl⟩
      obtain ⟨k0, hk0⟩ : ∃ k, k = (docO o).kind := ⟨_, rfl⟩
      obtain ⟨n0, hn0⟩ : ∃ k, k = (docO o).num := ⟨_, rfl⟩
      have hfl : (docO o).f.length = on := by show (fO o).length = on; rw [fO_len, hon]
      rw [← hk0, ← hn0, ← hs0, ← hbn, ← hln, hfl] at hcs
      subst hcs
      have hon60 : on ≤ 60 := by omega
      obtain ⟨v0, v1, v2, v3, v4, v5⟩ := cells_of6 hVr
      have hVl : V < wr.heap.size := lt_of_block hVr
      have hne : ((on : Int) != (on : Int)) = false := by simp
      have hVrH := Lib.hid hVr
      have hdocH := Lib.hid hdoc
      have hstH := Lib.hid hst
      have hownH := Lib.hid hown
      have hnewH := Lib.hid hnew
      have hmapH := Lib.hid hmap
      have hrmH := Lib.hid hrm
      have hokH := Lib.hid hok
      have honH := Lib.hid hon
      have hfxH := Lib.hid hfx
      clear hVr hdoc hst hown hnew hmap hrm hok hon hfx hs0 hbn hln hk0 hn0 hfl hbx
      go_wp2_with fail
      obtain ⟨wo, rfl⟩ : ∃ wo : World, wo = wr := ⟨_, rfl⟩
      clear v0 v1 v2 v3 v4 v5
      go_loopw [14] (fun i wq => ∃ q : Nat, i = .int .i64 q ∧ q ≤ on ∧ Step [] id id wo wq) (fun i _ => on - (intOf i).toNat)
      case atStart => exact ⟨0, rfl, Nat.zero_le _, Step.refl _ _ _⟩
      case round =>
        obtain ⟨q, rfl, hq, hstq⟩ := hrel
        have hVr := hstq.at hVrH.out (by simp)
        obtain ⟨v0, v1, v2, v3, v4, v5⟩ := cells_of6 hVr
        have hVlr : V < wr.heap.size := lt_of_block hVr
        have hdocr := hdocH.out.keep (P2 := fun _ => True) (w' := wr) (fun _ _ => trivial) (fun k hP hk => (hstq.keep k hk (by simp)).2)
        have hmapr := hmapH.out.step hstq (by simp)
        by_cases hql : q < on
        · have hql1 : (q : Int) < (on : Int) := by omega
          have hq0 : (0 : Int) ≤ (q : Int) := by omega
          have hqo : q < o.length := by rw [← honH.out]; exact hql
          obtain ⟨g, hva⟩ : ∃ g, oa = some ⟨g, 0, none⟩ := by
            rcases hownH.out.2 with ⟨e, -⟩ | ⟨g, cap, cur, e, -⟩
            · injection e with _ e2 _; omega
            · injection e with e1 _ _; exact ⟨g, e1⟩
          subst hva
          obtain ⟨N, hN⟩ : ∃ N, N = strOf o[q].1 := ⟨_, rfl⟩
          obtain ⟨nn, hnn⟩ : ∃ nn, nn = o[q].2 := ⟨_, rfl⟩
          have hcq : wr.cell? ⟨g, q, none⟩ = some (.string N) := by
            have hownq := ownsRow_step hownH.out hstq (fun k _ => by simp)
            have h8 := World.ownsRow.cells hownq (g := g) rfl q (.string N) (by simp [strO, hqo, hN])
            rw [addr_add, Nat.zero_add] at h8
            exact h8
          have hgl : g < wr.heap.size := World.block_lt_of_cell? wr _ hcq
          have hqf : q < (fO o).length := by rw [fO_len]; exact hqo
          have hfq : (fO o)[q] = (o[q].1, i32V o[q].2) := by simp [fO]
          obtain ⟨fb, fo, ds, hae, -, -, hrng, hxj⟩ := (FIs.keep (P2 := fun _ => True) (w' := wr) (fun _ _ => trivial) (fun k hP hk => (hstq.keep k hk (by simp)).2) (fO o) fa 0 hfxH.out).get hqf
          subst hae
          rw [hfq] at hxj hrng
          obtain ⟨s1, ba2, bn2, bc2, fa2, fn2, fc2, la2, ln2, lc2, hds, -⟩ := hxj.six
          have hkk : (i32V o[q].2).kind = 3 := rfl
          have hnu : (i32V o[q].2).num = nn := by rw [hnn]; rfl
          rw [hds, Nat.zero_add] at hrng
          have f0 := hrng 0 _ rfl
          have f2 : wr.cell? ⟨fb, fo + q * 7 + 1 + 1, none⟩ = some (.int .i64 nn) := by rw [← hnu]; exact hrng 2 _ rfl
          rw [Nat.add_zero] at f0
          have f0' : wr.cell? ⟨fb, fo + q * 7, none⟩ = some (.string N) := by rw [hN]; exact f0
          have hfb : fb < wr.heap.size := World.block_lt_of_cell? wr _ f2
          obtain ⟨c, hcn⟩ := hokH.out.letter o[q] (List.getElem_mem hqo)
          have hnl : o[q].1.length ≤ 1000 := by rw [hcn]; simp [nmO]
          have hlk := map_lk hmapr hrmH.out hokH.out hqo hN hnl
          rw [← hnn] at hlk
          have hwrap : IntKind.i64.wrap ((q : Int) + 1) = (q : Int) + 1 := IntWalk.i64_in _ (by omega)
          have hNN : (N.toList != N.toList) = false := by simp
          have hnnn : (nn != nn) = false := by simp
          have hget := Lib.hid (fun (W : World) (hW : Step [] id id wr W) => bs_get (P := fun _ => True) hN (hdocr.keep (P2 := fun _ => True) (w' := W) (fun _ _ => trivial) (fun k hP hk => (hW.keep k hk (by simp)).2)))
          have hgv := Lib.hid (show getV (docO o) o[q].1 = i32V nn by rw [getV_O hokH.out hqo, hnn])
          have hlkH := Lib.hid (fun (W : World) (hW : Step [] id id wr W) => by
            have h := map_lk (hmapr.step hW (by simp)) hrmH.out hokH.out hqo hN hnl
            rw [← hnn] at h
            exact h)
          have hstqH := Lib.hid hstq
          have hVrrH := Lib.hid hVr
          clear hN hnn hds hrng hxj f0 hkk hnu hcn hfq hstq hVr hdocr hmapr
          go_wp2_with fail
          refine wp_region_held_drew (S := fun w' => (w'.cell? ⟨V, 0, none⟩ = some (.int .i64 k0) ∧ w'.cell? ⟨V, 1, none⟩ = some (.int .i64 n0) ∧ w'.cell? ⟨V, 2, none⟩ = some (.string s0) ∧ w'.cell? ⟨V, 3, none⟩ = some (.slice ba bn bc) ∧ w'.cell? ⟨V, 4, none⟩ = some (.slice (some ⟨fb, fo, none⟩) on fc) ∧ w'.cell? ⟨V, 5, none⟩ = some (.slice la ln lc)) ∧ w'.cell? ⟨g, q, none⟩ = some (.string N) ∧ w'.cell? ⟨fb, fo + q * 7, none⟩ = some (.string N) ∧ w'.cell? ⟨fb, fo + q * 7 + 1 + 1, none⟩ = some (.int .i64 nn) ∧ (Instr.lookup 52 (.map (some (V + 1))) (.string N) false).run Tryd.prog w' = .ok (.int .i64 nn) w') (by kernel_rfl) ⟨⟨v0, v1, v2, v3, v4, v5⟩, hcq, f0', f2, hlkH.out wr.drew Step.drew⟩ (fun hHeld => ?_)
          refine wpAnyH_take (i := 0) (v := ?_) rfl (by kernel_rfl) (by kernel_rfl) (by kernel_rfl) (fun _ _ _ h => h) (Or.inl ⟨by kernel_rfl, ?_⟩) hHeld ?_
          rotate_left
          · intro w' hSw; (try dsimp only at hSw); go_simp
            all_goals (with_reducible rfl)
          simp only [Act.put, List.getElem_toArray, List.getElem_cons_zero, List.getElem_cons_succ, List.setIfInBounds_toArray, List.set_cons_zero, List.set_cons_succ]
          refine wpAnyH_take (i := 1) (v := ?_) rfl (by kernel_rfl) (by kernel_rfl) (by kernel_rfl) (fun _ _ _ h => h) (Or.inl ⟨by kernel_rfl, ?_⟩) hHeld ?_
          rotate_left
          · intro w' hSw; (try dsimp only at hSw); go_simp
            all_goals (with_reducible rfl)
          simp only [Act.put, List.getElem_toArray, List.getElem_cons_zero, List.getElem_cons_succ, List.setIfInBounds_toArray, List.set_cons_zero, List.set_cons_succ]
          refine wpAnyH_take (i := 2) (v := ?_) rfl (by kernel_rfl) (by kernel_rfl) (by kernel_rfl) (fun _ _ _ h => h) (Or.inl ⟨by kernel_rfl, ?_⟩) hHeld ?_
          rotate_left
          · intro w' hSw; (try dsimp only at hSw); go_simp
            all_goals (with_reducible rfl)
          simp only [Act.put, List.getElem_toArray, List.getElem_cons_zero, List.getElem_cons_succ, List.setIfInBounds_toArray, List.set_cons_zero, List.set_cons_succ]
          refine wpAnyH_take (i := 3) (v := ?_) rfl (by kernel_rfl) (by kernel_rfl) (by kernel_rfl) (fun _ _ _ h => h) (Or.inl ⟨by kernel_rfl, ?_⟩) hHeld ?_
          rotate_left
          · intro w' hSw; (try dsimp only at hSw); go_simp
            all_goals (with_reducible rfl)
          simp only [Act.put, List.getElem_toArray, List.getElem_cons_zero, List.getElem_cons_succ, List.setIfInBounds_toArray, List.set_cons_zero, List.set_cons_succ]
          refine wpAnyH_take (i := 4) (v := ?_) rfl (by kernel_rfl) (by kernel_rfl) (by kernel_rfl) (fun _ _ _ h => h) (Or.inl ⟨by kernel_rfl, ?_⟩) hHeld ?_
          rotate_left
          · intro w' hSw; (try dsimp only at hSw); go_simp
            all_goals (with_reducible rfl)
          simp only [Act.put, List.getElem_toArray, List.getElem_cons_zero, List.getElem_cons_succ, List.setIfInBounds_toArray, List.set_cons_zero, List.set_cons_succ]
          refine wpAnyH_take (i := 5) (v := ?_) rfl (by kernel_rfl) (by kernel_rfl) (by kernel_rfl) (fun _ _ _ h => h) (Or.inl ⟨by kernel_rfl, ?_⟩) hHeld ?_
          rotate_left
          · intro w' hSw; (try dsimp only at hSw); go_simp
            all_goals (with_reducible rfl)
          simp only [Act.put, List.getElem_toArray, List.getElem_cons_zero, List.getElem_cons_succ, List.setIfInBounds_toArray, List.set_cons_zero, List.set_cons_succ]
          refine wpAnyH_take (i := 6) (v := ?_) rfl (by kernel_rfl) (by kernel_rfl) (by kernel_rfl) (fun _ _ _ h => h) (Or.inl ⟨by kernel_rfl, ?_⟩) hHeld ?_
          rotate_left
          · intro w' hSw; (try dsimp only at hSw); go_simp
            all_goals (with_reducible rfl)
          simp only [Act.put, List.getElem_toArray, List.getElem_cons_zero, List.getElem_cons_succ, List.setIfInBounds_toArray, List.set_cons_zero, List.set_cons_succ]
          refine wpAnyH_take (i := 7) (v := ?_) rfl (by kernel_rfl) (by kernel_rfl) (by kernel_rfl) (fun _ _ _ h => h) (Or.inl ⟨by kernel_rfl, ?_⟩) hHeld ?_
          rotate_left
          · intro w' hSw; (try dsimp only at hSw); go_simp
            all_goals (with_reducible rfl)
          simp only [Act.put, List.getElem_toArray, List.getElem_cons_zero, List.getElem_cons_succ, List.setIfInBounds_toArray, List.set_cons_zero, List.set_cons_succ]
          refine wpAnyH_take (i := 8) (v := ?_) rfl (by kernel_rfl) (by kernel_rfl) (by kernel_rfl) (fun _ _ _ h => h) (Or.inl ⟨by kernel_rfl, ?_⟩) hHeld ?_
          rotate_left
          · intro w' hSw; (try dsimp only at hSw); go_simp
            all_goals (with_reducible rfl)
          simp only [Act.put, List.getElem_toArray, List.getElem_cons_zero, List.getElem_cons_succ, List.setIfInBounds_toArray, List.set_cons_zero, List.set_cons_succ]
          refine wpAnyH_take (i := 9) (v := ?_) rfl (by kernel_rfl) (by kernel_rfl) (by kernel_rfl) (fun _ _ _ h => h) (Or.inl ⟨by kernel_rfl, ?_⟩) hHeld ?_
          rotate_left
          · intro w' hSw; (try dsimp only at hSw); go_simp
            all_goals (with_reducible rfl)
          simp only [Act.put, List.getElem_toArray, List.getElem_cons_zero, List.getElem_cons_succ, List.setIfInBounds_toArray, List.set_cons_zero, List.set_cons_succ]
          refine wpAnyH_take (i := 10) (v := ?_) rfl (by kernel_rfl) (by kernel_rfl) (by kernel_rfl) (fun _ _ _ h => h) (Or.inl ⟨by kernel_rfl, ?_⟩) hHeld ?_
          rotate_left
          · intro w' hSw; (try dsimp only at hSw); go_simp
            all_goals (with_reducible rfl)
          simp only [Act.put, List.getElem_toArray, List.getElem_cons_zero, List.getElem_cons_succ, List.setIfInBounds_toArray, List.set_cons_zero, List.set_cons_succ]
          refine wpAnyH_take (i := 11) (v := ?_) rfl (by kernel_rfl) (by kernel_rfl) (by kernel_rfl) (fun _ _ _ h => h) (Or.inl ⟨by kernel_rfl, ?_⟩) hHeld ?_
          rotate_left
          · intro w' hSw; (try dsimp only at hSw); go_simp
            all_goals (with_reducible rfl)
          simp only [Act.put, List.getElem_toArray, List.getElem_cons_zero, List.getElem_cons_succ, List.setIfInBounds_toArray, List.set_cons_zero, List.set_cons_succ]
          refine wpAnyH_take (i := 12) (v := ?_) rfl (by kernel_rfl) (by kernel_rfl) (by kernel_rfl) (fun _ _ _ h => h) (Or.inl ⟨by kernel_rfl, ?_⟩) hHeld ?_
          rotate_left
          · intro w' hSw; (try dsimp only at hSw); go_simp
            all_goals (with_reducible rfl)
          simp only [Act.put, List.getElem_toArray, List.getElem_cons_zero, List.getElem_cons_succ, List.setIfInBounds_toArray, List.set_cons_zero, List.set_cons_succ]
          refine wpAnyH_take (i := 13) (v := ?_) rfl (by kernel_rfl) (by kernel_rfl) (by kernel_rfl) (fun _ _ _ h => h) (Or.inl ⟨by kernel_rfl, ?_⟩) hHeld ?_
          rotate_left
          · intro w' hSw; (try dsimp only at hSw); go_simp
            all_goals (with_reducible rfl)
          simp only [Act.put, List.getElem_toArray, List.getElem_cons_zero, List.getElem_cons_succ, List.setIfInBounds_toArray, List.set_cons_zero, List.set_cons_succ]
          refine wpAnyH_take (i := 14) (v := ?_) rfl (by kernel_rfl) (by kernel_rfl) (by kernel_rfl) (fun _ _ _ h => h) (Or.inl ⟨by kernel_rfl, ?_⟩) hHeld ?_
          rotate_left
          · intro w' hSw; (try dsimp only at hSw); go_simp
            all_goals (with_reducible rfl)
          simp only [Act.put, List.getElem_toArray, List.getElem_cons_zero, List.getElem_cons_succ, List.setIfInBounds_toArray, List.set_cons_zero, List.set_cons_succ]
          refine wpAnyH_take (i := 15) (v := ?_) rfl (by kernel_rfl) (by kernel_rfl) (by kernel_rfl) (fun _ _ _ h => h) (Or.inl ⟨by kernel_rfl, ?_⟩) hHeld ?_
          rotate_left
          · intro w' hSw; (try dsimp only at hSw); go_simp
            all_goals (with_reducible rfl)
          simp only [Act.put, List.getElem_toArray, List.getElem_cons_zero, List.getElem_cons_succ, List.setIfInBounds_toArray, List.set_cons_zero, List.set_cons_succ]
          refine wpAnyH_take (i := 16) (v := ?_) rfl (by kernel_rfl) (by kernel_rfl) (by kernel_rfl) (fun _ _ _ h => h) (Or.inl ⟨by kernel_rfl, ?_⟩) hHeld ?_
          rotate_left
          · intro w' hSw; (try dsimp only at hSw); go_simp
            all_goals (with_reducible rfl)
          simp only [Act.put, List.getElem_toArray, List.getElem_cons_zero, List.getElem_cons_succ, List.setIfInBounds_toArray, List.set_cons_zero, List.set_cons_succ]
          refine wpAnyH_take (i := 17) (v := ?_) rfl (by kernel_rfl) (by kernel_rfl) (by kernel_rfl) (fun _ _ _ h => h) (Or.inl ⟨by kernel_rfl, ?_⟩) hHeld ?_
          rotate_left
          · intro w' hSw; (try dsimp only at hSw); go_simp
            all_goals (with_reducible rfl)
          simp only [Act.put, List.getElem_toArray, List.getElem_cons_zero, List.getElem_cons_succ, List.setIfInBounds_toArray, List.set_cons_zero, List.set_cons_succ]
          refine wpAnyH_take (i := 18) (v := ?_) rfl (by kernel_rfl) (by kernel_rfl) (by kernel_rfl) (fun _ _ _ h => h) (Or.inl ⟨by kernel_rfl, ?_⟩) hHeld ?_
          rotate_left
          · intro w' hSw; (try dsimp only at hSw); go_simp
            all_goals (with_reducible rfl)
          simp only [Act.put, List.getElem_toArray, List.getElem_cons_zero, List.getElem_cons_succ, List.setIfInBounds_toArray, List.set_cons_zero, List.set_cons_succ]
          refine wpAnyH_take (i := 19) (v := ?_) rfl (by kernel_rfl) (by kernel_rfl) (by kernel_rfl) (fun _ _ _ h => h) (Or.inl ⟨by kernel_rfl, ?_⟩) hHeld ?_
          rotate_left
          · intro w' hSw; (try dsimp only at hSw); go_simp
            all_goals (with_reducible rfl)
          simp only [Act.put, List.getElem_toArray, List.getElem_cons_zero, List.getElem_cons_succ, List.setIfInBounds_toArray, List.set_cons_zero, List.set_cons_succ]
          refine wpAnyH_take (i := 20) (v := ?_) rfl (by kernel_rfl) (by kernel_rfl) (by kernel_rfl) (fun _ _ _ h => h) (Or.inl ⟨by kernel_rfl, ?_⟩) hHeld ?_
          rotate_left
          · intro w' hSw; (try dsimp only at hSw); go_simp
            all_goals (with_reducible rfl)
          simp only [Act.put, List.getElem_toArray, List.getElem_cons_zero, List.getElem_cons_succ, List.setIfInBounds_toArray, List.set_cons_zero, List.set_cons_succ]
          refine wpAnyH_take (i := 21) (v := ?_) rfl (by kernel_rfl) (by kernel_rfl) (by kernel_rfl) (fun _ _ _ h => h) (Or.inl ⟨by kernel_rfl, ?_⟩) hHeld ?_
          rotate_left
          · intro w' hSw; (try dsimp only at hSw); go_simp
            all_goals (with_reducible rfl)
          simp only [Act.put, List.getElem_toArray, List.getElem_cons_zero, List.getElem_cons_succ, List.setIfInBounds_toArray, List.set_cons_zero, List.set_cons_succ]
          refine wpAnyH_take (i := 22) (v := ?_) rfl (by kernel_rfl) (by kernel_rfl) (by kernel_rfl) (fun _ _ _ h => h) (Or.inl ⟨by kernel_rfl, ?_⟩) hHeld ?_
          rotate_left
          · intro w' hSw; (try dsimp only at hSw); go_simp
            all_goals (with_reducible rfl)
          simp only [Act.put, List.getElem_toArray, List.getElem_cons_zero, List.getElem_cons_succ, List.setIfInBounds_toArray, List.set_cons_zero, List.set_cons_succ]
          refine wpAnyH_take (i := 23) (v := ?_) rfl (by kernel_rfl) (by kernel_rfl) (by kernel_rfl) (fun _ _ _ h => h) (Or.inl ⟨by kernel_rfl, ?_⟩) hHeld ?_
          rotate_left
          · intro w' hSw; (try dsimp only at hSw); go_simp
            all_goals (with_reducible rfl)
          simp only [Act.put, List.getElem_toArray, List.getElem_cons_zero, List.getElem_cons_succ, List.setIfInBounds_toArray, List.set_cons_zero, List.set_cons_succ]
          refine wpAnyH_take (i := 24) (v := ?_) rfl (by kernel_rfl) (by kernel_rfl) (by kernel_rfl) (fun _ _ _ h => h) (Or.inl ⟨by kernel_rfl, ?_⟩) hHeld ?_
          rotate_left
          · intro w' hSw; (try dsimp only at hSw); go_simp
            all_goals (with_reducible rfl)
          simp only [Act.put, List.getElem_toArray, List.getElem_cons_zero, List.getElem_cons_succ, List.setIfInBounds_toArray, List.set_cons_zero, List.set_cons_succ]
          refine wpAnyH_take (i := 25) (v := ?_) rfl (by kernel_rfl) (by kernel_rfl) (by kernel_rfl) (fun _ _ _ h => h) (Or.inl ⟨by kernel_rfl, ?_⟩) hHeld ?_
          rotate_left
          · intro w' hSw; (try dsimp only at hSw); go_simp
            all_goals (with_reducible rfl)
          simp only [Act.put, List.getElem_toArray, List.getElem_cons_zero, List.getElem_cons_succ, List.setIfInBounds_toArray, List.set_cons_zero, List.set_cons_succ]
          refine wpAnyH_take (i := 26) (v := ?_) rfl (by kernel_rfl) (by kernel_rfl) (by kernel_rfl) (fun _ _ _ h => h) (Or.inl ⟨by kernel_rfl, ?_⟩) hHeld ?_
          rotate_left
          · intro w' hSw; (try dsimp only at hSw); go_simp
            all_goals (with_reducible rfl)
          simp only [Act.put, List.getElem_toArray, List.getElem_cons_zero, List.getElem_cons_succ, List.setIfInBounds_toArray, List.set_cons_zero, List.set_cons_succ]
          refine wpAnyH_take (i := 27) (v := ?_) rfl (by kernel_rfl) (by kernel_rfl) (by kernel_rfl) (fun _ _ _ h => h) (Or.inl ⟨by kernel_rfl, ?_⟩) hHeld ?_
          rotate_left
          · intro w' hSw; (try dsimp only at hSw); go_simp
            all_goals (with_reducible rfl)
          simp only [Act.put, List.getElem_toArray, List.getElem_cons_zero, List.getElem_cons_succ, List.setIfInBounds_toArray, List.set_cons_zero, List.set_cons_succ]
          refine wpAnyH_take (i := 28) (v := ?_) rfl (by kernel_rfl) (by kernel_rfl) (by kernel_rfl) (fun _ _ _ h => h) (Or.inl ⟨by kernel_rfl, ?_⟩) hHeld ?_
          rotate_left
          · intro w' hSw; (try dsimp only at hSw); go_simp
            all_goals (with_reducible rfl)
          simp only [Act.put, List.getElem_toArray, List.getElem_cons_zero, List.getElem_cons_succ, List.setIfInBounds_toArray, List.set_cons_zero, List.set_cons_succ]
          refine wpAnyH_take (i := 29) (v := ?_) rfl (by kernel_rfl) (by kernel_rfl) (by kernel_rfl) (fun _ _ _ h => h) (Or.inl ⟨by kernel_rfl, ?_⟩) hHeld ?_
          rotate_left
          · intro w' hSw; (try dsimp only at hSw); go_simp
            all_goals (with_reducible rfl)
          simp only [Act.put, List.getElem_toArray, List.getElem_cons_zero, List.getElem_cons_succ, List.setIfInBounds_toArray, List.set_cons_zero, List.set_cons_succ]
          refine wpAnyH_take (i := 30) (v := ?_) rfl (by kernel_rfl) (by kernel_rfl) (by kernel_rfl) (fun _ _ _ h => h) (Or.inl ⟨by kernel_rfl, ?_⟩) hHeld ?_
          rotate_left
          · intro w' hSw; (try dsimp only at hSw); go_simp
            all_goals (with_reducible rfl)
          simp only [Act.put, List.getElem_toArray, List.getElem_cons_zero, List.getElem_cons_succ, List.setIfInBounds_toArray, List.set_cons_zero, List.set_cons_succ]
          refine wpAnyH_take (i := 31) (v := ?_) rfl (by kernel_rfl) (by kernel_rfl) (by kernel_rfl) (fun _ _ _ h => h) (Or.inl ⟨by kernel_rfl, ?_⟩) hHeld ?_
          rotate_left
          · intro w' hSw; (try dsimp only at hSw); go_simp
            all_goals (with_reducible rfl)
          simp only [Act.put, List.getElem_toArray, List.getElem_cons_zero, List.getElem_cons_succ, List.setIfInBounds_toArray, List.set_cons_zero, List.set_cons_succ]
          refine wpAnyH_take (i := 32) (v := ?_) rfl (by kernel_rfl) (by kernel_rfl) (by kernel_rfl) (fun _ _ _ h => h) (Or.inl ⟨by kernel_rfl, ?_⟩) hHeld ?_
          rotate_left
          · intro w' hSw; (try dsimp only at hSw); go_simp
            all_goals (with_reducible rfl)
          simp only [Act.put, List.getElem_toArray, List.getElem_cons_zero, List.getElem_cons_succ, List.setIfInBounds_toArray, List.set_cons_zero, List.set_cons_succ]
          refine wpAnyH_take (i := 35) (v := ?_) rfl (by kernel_rfl) (by kernel_rfl) (by kernel_rfl) (fun _ _ _ h => h) (Or.inl ⟨by kernel_rfl, ?_⟩) hHeld ?_
          rotate_left
          · intro w' hSw; (try dsimp only at hSw); go_simp
            all_goals (with_reducible rfl)
          simp only [Act.put, List.getElem_toArray, List.getElem_cons_zero, List.getElem_cons_succ, List.setIfInBounds_toArray, List.set_cons_zero, List.set_cons_succ]
          refine wpAnyH_take (i := 36) (v := ?_) rfl (by kernel_rfl) (by kernel_rfl) (by kernel_rfl) (fun _ _ _ h => h) (Or.inl ⟨by kernel_rfl, ?_⟩) hHeld ?_
          rotate_left
          · intro w' hSw; (try dsimp only at hSw); go_simp
            all_goals (with_reducible rfl)
          simp only [Act.put, List.getElem_toArray, List.getElem_cons_zero, List.getElem_cons_succ, List.setIfInBounds_toArray, List.set_cons_zero, List.set_cons_succ]
          refine wpAnyH_take (i := 37) (v := ?_) rfl (by kernel_rfl) (by kernel_rfl) (by kernel_rfl) (fun _ _ _ h => h) (Or.inl ⟨by kernel_rfl, ?_⟩) hHeld ?_
          rotate_left
          · intro w' hSw; (try dsimp only at hSw); go_simp
            all_goals (with_reducible rfl)
          simp only [Act.put, List.getElem_toArray, List.getElem_cons_zero, List.getElem_cons_succ, List.setIfInBounds_toArray, List.set_cons_zero, List.set_cons_succ]
          refine wpAnyH_take (i := 38) (v := ?_) rfl (by kernel_rfl) (by kernel_rfl) (by kernel_rfl) (fun _ _ _ h => h) (Or.inl ⟨by kernel_rfl, ?_⟩) hHeld ?_
          rotate_left
          · intro w' hSw; (try dsimp only at hSw); go_simp
            all_goals (with_reducible rfl)
          simp only [Act.put, List.getElem_toArray, List.getElem_cons_zero, List.getElem_cons_succ, List.setIfInBounds_toArray, List.set_cons_zero, List.set_cons_succ]
          refine wpAnyH_take (i := 39) (v := ?_) rfl (by kernel_rfl) (by kernel_rfl) (by kernel_rfl) (fun _ _ _ h => h) (Or.inl ⟨by kernel_rfl, ?_⟩) hHeld ?_
          rotate_left
          · intro w' hSw; (try dsimp only at hSw); go_simp
            all_goals (with_reducible rfl)
          simp only [Act.put, List.getElem_toArray, List.getElem_cons_zero, List.getElem_cons_succ, List.setIfInBounds_toArray, List.set_cons_zero, List.set_cons_succ]
          refine wpAnyH_take (i := 40) (v := ?_) rfl (by kernel_rfl) (by kernel_rfl) (by kernel_rfl) (fun _ _ _ h => h) (Or.inl ⟨by kernel_rfl, ?_⟩) hHeld ?_
          rotate_left
          · intro w' hSw; (try dsimp only at hSw); go_simp
            all_goals (with_reducible rfl)
          simp only [Act.put, List.getElem_toArray, List.getElem_cons_zero, List.getElem_cons_succ, List.setIfInBounds_toArray, List.set_cons_zero, List.set_cons_succ]
          refine wpAnyH_ready (rs := [33]) (by kernel_rfl) (by simp) ?_
          refine AllReadyH.cons (o := _) rfl (fun K hK => ?_) AllReadyH.nil
          go_simp
          refine (hget.out wr.drew Step.drew).mono ?_
          rintro e u ⟨es, rfl, hes, hsu⟩
          rw [hgv.out] at hes
          obtain ⟨s9, ba9, bn9, bc9, fa9, fn9, fc9, la9, ln9, lc9, he9, -⟩ := hes.six
          have hkk : (i32V nn).kind = 3 := rfl
          have hnu : (i32V nn).num = nn := rfl
          rw [hkk, hnu] at he9
          subst he9
          have hfld : ∀ w' : World, (Instr.field 27 (.agg #[.int .i64 3, .int .i64 nn, .string s9, .slice ba9 bn9 bc9, .slice fa9 fn9 fc9, .slice la9 ln9 lc9]) 1).run Tryd.prog w' = .ok (.int .i64 nn) w' := fun _ => by kernel_rfl
          have hsur : Step [] id id wr u := Step.drew.tail hsu
          obtain ⟨x0, x1, x2, x3, x4, x5⟩ := cells_of6 (hsur.at hVrrH.out (by simp))
          have hk3 : ∀ (p : Addr) v, wr.cell? p = some v → u.cell? p = some v := fun p v hv => (World.cell?_of_block (a := p) ((hsur.keep p.block (World.block_lt_of_cell? wr p hv) (by simp)).2)).trans hv
          have y1 := hk3 _ _ hcq
          have y2 := hk3 _ _ f0'
          have y3 := hk3 _ _ f2
          have y4 := hlkH.out u hsur
          have hsurH := Lib.hid hsur
          clear hes hsu hsur hk3 hkk hnu
          go_wp2_with fail
          refine hK.out _ _ ?_ (fun hHeld => ?_)
          · exact ⟨⟨x0, x1, x2, x3, x4, x5⟩, y1, y2, y3, y4⟩
          clear hK K
          refine wpAnyH_take (i := 34) (v := ?_) rfl (by kernel_rfl) (by kernel_rfl) (by kernel_rfl) (fun _ _ _ h => h) (Or.inl ⟨by kernel_rfl, ?_⟩) hHeld ?_
          rotate_left
          · intro w' hSw; (try dsimp only at hSw); go_simp
            all_goals (with_reducible rfl)
          simp only [Act.put, List.getElem_toArray, List.getElem_cons_zero, List.getElem_cons_succ, List.setIfInBounds_toArray, List.set_cons_zero, List.set_cons_succ]
          refine wpAnyH_take (i := 41) (v := ?_) rfl (by kernel_rfl) (by kernel_rfl) (by kernel_rfl) (fun _ _ _ h => h) (Or.inl ⟨by kernel_rfl, ?_⟩) hHeld ?_
          rotate_left
          · intro w' hSw; (try dsimp only at hSw); go_simp
            all_goals (with_reducible rfl)
          simp only [Act.put, List.getElem_toArray, List.getElem_cons_zero, List.getElem_cons_succ, List.setIfInBounds_toArray, List.set_cons_zero, List.set_cons_succ]
          refine wpAnyH_take (i := 42) (v := ?_) rfl (by kernel_rfl) (by kernel_rfl) (by kernel_rfl) (fun _ _ _ h => h) (Or.inl ⟨by kernel_rfl, ?_⟩) hHeld ?_
          rotate_left
          · intro w' hSw; (try dsimp only at hSw); go_simp
            all_goals (with_reducible rfl)
          simp only [Act.put, List.getElem_toArray, List.getElem_cons_zero, List.getElem_cons_succ, List.setIfInBounds_toArray, List.set_cons_zero, List.set_cons_succ]
          refine wpAnyH_done (by kernel_rfl) ?_ _
          clear x0 x1 x2 x3 x4 x5 y1 y2 y3 y4 v0 v1 v2 v3 v4 v5 hcq f0' f2 hlk hHeld
          go_wp2_with fail
          go_roundw
          case rel => exact ⟨q + 1, by go_num, by omega, hstqH.out.tail hsurH.out⟩
          case measure => simp [intOf]; omega
        · have hql1 : ¬ (q : Int) < (on : Int) := by omega
          have hzz := Lib.hid (zz_none hokH.out)
          have hmay := Lib.hid (bs_may (P := fun k => k < wr.heap.size) (VIs.low hdocr) (htH.out.step (hstH.out.tail hstq)))
          have hokd := Lib.hid (okDoc_O hokH.out (by rw [← honH.out]; exact hon60))
          have hget := Lib.hid (fun (W : World) (hW : Step [] id id wr W) => bs_get (P := fun _ => True) (nm := [122, 122]) (S := ⟨#[122, 122]⟩) rfl (hdocr.keep (P2 := fun _ => True) (w' := W) (fun _ _ => trivial) (fun k hP hk => (hW.keep k hk (by simp)).2)))
          have hstqH := Lib.hid hstq
          have hVrrH := Lib.hid hVr
          clear hstq hVr hdocr hmapr
          go_wp2_with fail
          refine hmay.out.mono ?_
          rintro e u ⟨rfl, hsu⟩
          rw [hokd.out]
          obtain ⟨x0, x1, x2, x3, x4, x5⟩ := cells_of6 (hsu.at hVrrH.out (by simp))
          have hVlu : V < u.heap.size := World.block_lt_of_cell? u _ x0
          have hsuH := Lib.hid hsu
          clear hsu v0 v1 v2 v3 v4 v5
          go_wp2_with fail
          refine (hget.out u hsuH.out).mono ?_
          rintro e u2 ⟨es, rfl, hes, hsu2⟩
          rw [hzz.out] at hes
          obtain ⟨s9, ba9, bn9, bc9, fa9, fn9, fc9, la9, ln9, lc9, he9, -⟩ := hes.six
          have hkk : (Val.bare 0).kind = 0 := rfl
          rw [hkk] at he9
          subst he9
          obtain ⟨N9, hN9⟩ : ∃ N, N = (Val.bare 0).num := ⟨_, rfl⟩
          rw [← hN9] at hes ⊢
          have hfld : ∀ w' : World, (Instr.field 27 (.agg #[.int .i64 0, .int .i64 N9, .string s9, .slice ba9 bn9 bc9, .slice fa9 fn9 fc9, .slice la9 ln9 lc9]) 0).run Tryd.prog w' = .ok (.int .i64 0) w' := fun _ => by kernel_rfl
          clear hN9
          have hsu2H := Lib.hid hsu2
          clear hes hsu2 hkk
          go_wp2_with fail
          go_ret
          exact ⟨rfl, ((hstH.out.tail hstqH.out).tail hsuH.out).tail hsu2H.out⟩
end Go.Proofs.YtbkmnhogfegmcaaDoor
