/- slices.Grow of nothing; slices.Concat of two rows of bytes; slices.Clone of ints; the four bytes of a length. -/
import Derived.Test.YtlppoimdfclbaaaSealC
import Derived.Test.YtlppoimdfclbaaaNums
set_option linter.unusedVariables false
set_option linter.unusedSimpArgs false
namespace Go.Proofs.Ytlppoimdfclbaaa
open Go.RowKit

/-- Bytes, or none at whatever place: an argument's empty row. -/
def BytesA (w : World) (v : Value) (l : List UInt8) : Prop := Bytes w v l ∨ ∃ a cap, v = .slice (some a) 0 cap ∧ l = []
theorem BytesA.step {T : List Nat} {g g1 : Nat → Nat} {w w1 : World} {v : Value} {l : List UInt8} (h : BytesA w v l) (hs : Step T g g1 w w1) (ha : l ≠ [] → Apart T g v) : BytesA w1 v l := by
  rcases h with h | ⟨a, cap, rfl, rfl⟩
  · by_cases hl : l = []
    · subst hl
      rcases h with ⟨rfl, _⟩ | ⟨b, o, c, rfl, _, hb, _⟩
      · exact .inl (.inl ⟨rfl, rfl⟩)
      · exact .inr ⟨_, c, rfl, rfl⟩
    · exact .inl (h.step hs (ha hl))
  · exact .inr ⟨a, cap, rfl, rfl⟩
theorem BytesA.src {w : World} {v : Value} {l : List UInt8} (h : BytesA w v l) : Src w 1 v l.length (byteVals l) := by
  rcases h with h | ⟨a, cap, rfl, rfl⟩
  · exact h.src
  · exact ⟨rfl, .inr ⟨a, cap, rfl, fun j u hj => by simp [byteVals] at hj⟩⟩
theorem BytesA.lt {w : World} {v : Value} {l : List UInt8} (h : BytesA w v l) (hl : l ≠ []) {k : Nat} (hk : v.ownBlock = some k) : k < w.heap.size := by
  rcases h with (⟨rfl, rfl⟩ | ⟨b, o, c, rfl, _, hb, _⟩) | ⟨a, cap, rfl, rfl⟩
  · cases hk
  · cases hk; exact hb
  · exact absurd rfl hl

theorem run_append_zeros (n : Nat) (h0 : 0 < n) (hn : n ≤ 1000000000) (ty : TypeId) (w : World) :
    ∃ cap cur, (Builtin.append_ #[35, 3] ty #[.slice none 0 0, .int .i64 n]).run Try.prog w = .ok (.slice (some ⟨w.heap.size, 0, none⟩) n cap) (w.drew.alloc (.cells cur 5)) ∧ n ≤ cap ∧ cap ≤ maxLen ∧ cur.size = cap := by
  obtain ⟨i0, hi, hz0, hz1, hz2⟩ := info_parts info_u8
  have hne : n ≠ 0 := by omega
  have h63' : ¬ (9223372036854775807 < (n : Int)) := by omega
  have h48' : ¬ (281474976710656 < Builtin.nextslicecap n 0) := by rw [nextslicecap_zero h0]; omega
  have hw : IntKind.i64.wrap (n : Int) = n := by rw [IntKind.wrap_i64]; omega
  have hneg : ¬ ((n : Int) < 0) := by omega
  have hbig : ¬ (281474976710656 < (n : Int)) := by omega
  refine ⟨grownCap w n 0 5, Builtin.zeroCells #[.int .u8 0] n ++ Builtin.zeroCells #[.int .u8 0] (grownCap w n 0 5 - n), ?_, grownCap_ge w n 0 _, grownCap_le_maxLen w n 0 _ (by unfold maxLen; omega), ?_⟩
  · simp [Builtin.append_, run_underlying Try.underlying35, run_underlying Try.underlying3, sizeOf, typeInfo, zeroValue, hi, hz0, hz1, hz2, asInt, asIntOf, hw, hneg, hbig, hne, h63', h48', Question.forced, run_firstCells_none, newRow, grownCap, Value.cells]
  · simp [Builtin.zeroCells]
    have := grownCap_ge w n 0 5
    omega
theorem wpList_zeros {w : World} {ops : Array Oper} {rest : List Oper} {o : Oper} {a : Act} {Q : Exit → Act → World → Prop} (hgd : o.guard = none) (s x : Operand)
    (ho : o.op = .call { callee := .builtin .append, args := #[s, x], argTypes := #[35, 3] }) (n : Nat) (h0 : 0 < n) (hn : n ≤ 1000000000) (h1 : a.eval s = .slice none 0 0) (h2 : a.eval x = .int .i64 n)
    (h : ∀ cap W, W.ownsRow 0 5 1 (.slice (some ⟨w.heap.size, 0, none⟩) 0 cap) 0 [] → n ≤ cap → w.grownBy W none → W.heap.size = w.heap.size + 1 → wpList Try.prog ops Q rest (a.put o.dst (.slice (some ⟨w.heap.size, 0, none⟩) n cap)) W) :
    wpList Try.prog ops Q (o :: rest) a w := by
  refine wpList_plain hgd fun K' hK' => ?_
  obtain ⟨cap, cur, hr, h3, h4, h5⟩ := run_append_zeros n h0 hn o.type w
  unfold Oper.wp execOp
  simp only [ho, resolve, invoke, builtin, Sem.run_bind, Sem.run_pure, Result.andThen_ok, List.map_toArray, List.map_cons, List.map_nil, h1, h2, hr]
  exact hK' _ _ (h cap _ (World.ownsRow_made w.drew cur cap (Nat.zero_le _) h4 (by omega)) h3 ((grown_drew w none).trans (World.grownBy_alloc _ _ _)) (by simp))

set_option maxRecDepth 100000 in
set_option maxHeartbeats 400000 in
theorem slices_grow (n : Nat) (h0 : 0 < n) (hn : n ≤ 1000000000) (w : World) :
    Calls Try.prog 51 #[.slice none 0 0, .int .i64 n] w fun e w' => ∃ cap, e = .returned (.slice (some ⟨w.heap.size, 0, none⟩) 0 cap) ∧ w'.ownsRow 0 5 1 (.slice (some ⟨w.heap.size, 0, none⟩) 0 cap) 0 [] ∧ w.grownBy w' none ∧ w'.heap.size = w.heap.size + 1 := by
  go_enter Try.func51, Try.ntmps51
  go_wp2_with (at_builtin; refine wpList_zeros rfl _ _ rfl n h0 hn rfl rfl ?_; intro cap W hown hcap hg hsz)
  go_ret
  exact ⟨cap, rfl, hown, hg, hsz⟩

set_option maxRecDepth 100000 in
set_option maxHeartbeats 2000000 in
theorem slices_concat (w : World) (B : Nat) (a1 a2 : Option Addr) (c1 c2 : Nat) (l1 l2 : List UInt8) (k1 : w.cell? ⟨B, 0, none⟩ = some (.slice a1 l1.length c1)) (k2 : w.cell? ⟨B, 1, none⟩ = some (.slice a2 l2.length c2))
    (b1 : Bytes w (.slice a1 l1.length c1) l1) (b2 : BytesA w (.slice a2 l2.length c2) l2) (h0 : 0 < l1.length) (hn : l1.length + l2.length ≤ 1000000000) :
    Calls Try.prog 37 #[.slice (some ⟨B, 0, none⟩) 2 2] w fun e w' => ∃ v, e = .returned v ∧ Row w' v (l1 ++ l2) ∧ w.grownBy w' none ∧ ∀ k, v.ownBlock = some k → w.heap.size ≤ k := by
  have hB := World.block_lt_of_cell? w _ k1
  have b1H := Lib.hid b1; clear b1
  have b2H := Lib.hid b2; clear b2
  go_enter Try.func37, Try.ntmps37
  go_wp2_with fail
  refine wp_loop_rounds 3 ?_
  rw [rounds_succ]
  go_wp2_with fail
  rw [rounds_succ]
  go_wp2_with fail
  rw [rounds_succ]
  go_wp2_with fail
  rw [show ((l1.length : Int) + (l2.length : Int)) = ((l1.length + l2.length : Nat) : Int) by omega]
  refine (slices_grow (l1.length + l2.length) (by omega) hn w).mono ?_
  rintro e w2 ⟨cap, rfl, hown, hg2, hsz2⟩
  have k1' : w2.cell? ⟨B, 0, none⟩ = some (.slice a1 l1.length c1) := (World.cell?_of_block (hg2.block B hB (by simp))).trans k1
  have k2' : w2.cell? ⟨B, 1, none⟩ = some (.slice a2 l2.length c2) := (World.cell?_of_block (hg2.block B hB (by simp))).trans k2
  have hS2 : Step [] id id w w2 := .grown hg2 (fun _ h => by cases h)
  have s1H := Lib.hid (b1H.out.step hS2 (fun _ _ h => by cases h)).src
  have hownH := Lib.hid hown
  have hg2H := Lib.hid hg2
  have hsz2H := Lib.hid hsz2
  have hB2 : B < w2.heap.size := by omega
  have hBne : B ≠ w.heap.size := by omega
  clear k1 k2 hown hg2 hS2 hsz2
  obtain ⟨i0, hi, hz0, hz1, hz2⟩ := info_parts info_u8
  have hiH := Lib.hid hi
  clear hi hz0 hz1 hz2
  go_wp2_with fail
  refine wp_loop_rounds 3 ?_
  rw [rounds_succ]
  have hz0 : True := trivial
  go_wp2_with (at_builtin; obtain ⟨i0, hi, hz0, hz1, hz2⟩ := info_parts info_u8; refine wpList_app rfl _ _ 35 rfl 5 i0 (.int .u8 0) 1 1 Try.underlying35 hi hz0 hz1 hz2 rfl (by decide) (.slice (some ⟨w.heap.size, 0, none⟩) 0 cap) 0 [] (by rfl) hownH.out (.slice a1 l1.length c1) l1.length (byteVals l1) (by rfl) s1H.out (byteVals_one _) (by omega) (by omega) ?_; clear hi hz0 hz1 hz2; intro ad3 c3 w3 hown3 hgrow3 hnil3 hat3)
  simp only [Nat.zero_add, List.nil_append] at hown3 hat3
  have hg3 : w.grownBy w3 none := grown_fresh hg2H.out hgrow3 (fun k hk => by cases hk; exact Nat.le_refl _)
  have k3 : w3.cell? ⟨B, 1, none⟩ = some (.slice a2 l2.length c2) := (World.cell?_of_block (hgrow3.block B hB2 (by simpa [Value.ownBlock] using hBne))).trans k2'
  have s2H := Lib.hid (b2H.out.step (T := []) (g := id) (g1 := id) (.grown hg3 (fun _ h => by cases h)) (fun _ _ _ h => by cases h)).src
  have hown3H := Lib.hid hown3
  have hg3H := Lib.hid hg3
  have hat3H := Lib.hid hat3
  have hsz3 : w2.heap.size ≤ w3.heap.size := hgrow3.size
  have hsz23 : w.heap.size ≤ w2.heap.size := hg2H.out.size
  clear hown3 hg3 hat3 hnil3 hgrow3 k1' k2'
  rw [rounds_succ]
  go_wp2_with (at_builtin; obtain ⟨i0, hi, hz0, hz1, hz2⟩ := info_parts info_u8; refine wpList_app rfl _ _ 35 rfl 5 i0 (.int .u8 0) 1 1 Try.underlying35 hi hz0 hz1 hz2 rfl (by decide) (.slice ad3 l1.length c3) l1.length (byteVals l1) (by rfl) hown3H.out (.slice a2 l2.length c2) l2.length (byteVals l2) (by rfl) s2H.out (byteVals_one _) (by omega) (by omega) ?_; clear hi hz0 hz1 hz2; intro ad4 c4 w4 hown4 hgrow4 hnil4 hat4)
  have hfr : ∀ k, (Value.slice ad3 l1.length c3).ownBlock = some k → w.heap.size ≤ k := fun k hk => by
    rcases hat3H.out with h | h
    · rw [h] at hk; cases hk; exact Nat.le_refl _
    · rw [h] at hk; cases hk; omega
  have hg4 : w.grownBy w4 none := grown_fresh hg3H.out hgrow4 hfr
  have hg4H := Lib.hid hg4
  have hown4H := Lib.hid hown4
  have hat4H := Lib.hid hat4
  have hfrH := Lib.hid hfr
  clear hg4 hown4 hat4 hnil4 hgrow4 hfr k3
  rw [rounds_succ]
  go_wp2_with fail
  go_ret
  refine ⟨_, rfl, ?_, hg4H.out, fun k hk => ?_⟩
  · unfold Row
    rw [List.length_append, byteVals_append]
    exact hown4H.out
  · rcases hat4H.out with h | h
    · exact hfrH.out k (by rw [← h]; exact hk)
    · have : some k = some w3.heap.size := by rw [← h]; exact hk.symm
      cases this; omega

set_option maxRecDepth 100000 in
set_option maxHeartbeats 400000 in
theorem ints_clone (l : List Int) (v : Value) (w : World) (hv : IRow w v l) (hl : l.length ≤ 1000000) :
    Calls Try.prog 45 #[v] w fun e w' => ∃ v', e = .returned v' ∧ IRow w' v' l ∧ w.grownBy w' none ∧ ∀ k, v'.ownBlock = some k → w.heap.size ≤ k := by
  rcases hv.2 with ⟨rfl, hn⟩ | ⟨g, cap, cur, rfl, _, hg, _⟩
  · have hl0 : l = [] := List.eq_nil_of_length_eq_zero hn
    subst hl0
    have hnil := fun w : World => Lib.run_eql_slice_nil w 47 3 none 0 0 0 0 Try.underlying47
    clear hv
    go_enter Try.func45, Try.ntmps45
    go_wp2
    go_ret
    exact ⟨_, rfl, World.ownsRow_nil _ _ _ _, grown_refl _ _, fun _ h => by cases h⟩
  · have hsrc : Src w 1 (.slice (some ⟨g, 0, none⟩) l.length cap) l.length (intVals l) := ⟨by simp, .inr ⟨_, _, rfl, World.ownsRow.cells hv (g := g) rfl⟩⟩
    have hvH := Lib.hid hv
    have hsrcA : ∀ W : World, w.grownBy W none → Src W 1 (.slice (some ⟨g, 0, none⟩) l.length cap) l.length (intVals l) := fun W hW => by
      refine ⟨by simp, .inr ⟨_, _, rfl, fun j u hj => ?_⟩⟩
      have hc := World.ownsRow.cells hv (g := g) rfl j u hj
      rw [addr_add] at hc ⊢
      exact (World.cell?_of_block (hW.block g (lt_of_block hg) (by simp))).trans hc
    have hsrcH := Lib.hid hsrcA
    clear hv hsrc hsrcA hg
    have hbs : ∀ w : World, (Instr.buildSlice 47 0 #[]).run Try.prog w = .ok (.slice (some ⟨w.heap.size, 0, none⟩) 0 0) (w.alloc (.cells #[] 3)) := fun _ => by kernel_rfl
    have hnil := fun w : World => Lib.run_eql_slice_nil w 47 3 (some ⟨g, 0, none⟩) l.length cap 0 0 Try.underlying47
    go_enter Try.func45, Try.ntmps45
    go_wp2_with (at_builtin; obtain ⟨i0, hi, hz0, hz1, hz2⟩ := info_parts info_int; refine wpList_app rfl _ _ 47 rfl 3 i0 (.int .i64 0) 1 8 Try.underlying47 hi hz0 hz1 hz2 rfl (by decide) (.slice (some ⟨w.heap.size, 0, none⟩) 0 0) 0 [] (by rfl) (by exact World.ownsRow_made w #[] 0 (Nat.zero_le _) (Nat.zero_le _) rfl) _ l.length (intVals l) (by rfl) (by exact hsrcH.out _ (World.grownBy_alloc w _ none)) (fun u hu => by simp only [intVals, List.mem_map] at hu; obtain ⟨_, _, rfl⟩ := hu; rfl) (by omega) (by omega) ?_; clear hi hz0 hz1 hz2; intro ad' c' w1 hown' hgrow hnil' hat)
    go_ret
    rw [Nat.zero_add] at hat
    refine ⟨.slice ad' l.length c', rfl, by simpa [IRow] using hown', grown_fresh (World.grownBy_alloc w _ none) hgrow (fun k hk => by cases hk; exact Nat.le_refl _), fun k hk => ?_⟩
    rcases hat with hat | hat
    · rw [hat] at hk; cases hk; exact Nat.le_refl _
    · rw [hat] at hk; cases hk; simp

/-- The four bytes of a length. -/
theorem tape_length (n : Nat) (hn : n < 4294967296) (w : World) :
    Calls Try.prog 38 #[.int .i64 n] w fun e w' => e = .returned (.slice (some ⟨w.heap.size, 0, none⟩) 4 4) ∧ w' = w.alloc (.cells (byteVals (leBytes 4 n)).toArray 5) := by
  go_enter Try.func38, Try.ntmps38
  go_wp2
  go_ret
  refine ⟨rfl, ?_⟩
  have h : byteVals (leBytes 4 n) = [.int .u8 ((n : Int) % 256), .int .u8 ((n : Int) / 256 % 256), .int .u8 ((n : Int) / 65536 % 256), .int .u8 ((n : Int) / 16777216)] := by
    simp only [byteVals, leBytes, List.map_cons, List.map_nil, UInt8.toNat_ofNat']
    have e1 : ((n % 2 ^ 8 : Nat) : Int) = (n : Int) % 256 := by omega
    have e2 : ((n / 256 % 2 ^ 8 : Nat) : Int) = (n : Int) / 256 % 256 := by omega
    have e3 : ((n / 256 / 256 % 2 ^ 8 : Nat) : Int) = (n : Int) / 65536 % 256 := by omega
    have e4 : ((n / 256 / 256 / 256 % 2 ^ 8 : Nat) : Int) = (n : Int) / 16777216 := by omega
    rw [e1, e2, e3, e4]
  rw [h]
end Go.Proofs.Ytlppoimdfclbaaa
