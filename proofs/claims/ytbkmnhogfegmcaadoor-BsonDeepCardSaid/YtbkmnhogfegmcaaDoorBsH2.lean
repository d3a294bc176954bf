/- The law BsonDeep. -/
import Derived.Test.YtbkmnhogfegmcaaDoorBsC1
import Derived.Test.YtbkmnhogfegmcaaDoorBsK5
import Derived.Test.YtbkmnhogfegmcaaDoorBsH1
import Derived.Laws.BitsAllLaws
set_option linter.unusedVariables false
set_option linter.unusedSimpArgs false
namespace Go.Proofs.YtbkmnhogfegmcaaDoor
open Go.RowKit

/-- Is the link a list: not the last, and its bit is set. -/
def deepT (d m : Nat) (i : Nat) : Bool := decide (i + 1 < d) && decide ((m / 2 ^ (i % 32)) % 2 = 1)
theorem cell_of_value {w : World} {V : Nat} {k n : Int} {s : ByteArray} {b f l : Value} (h : w.heap[V]? = some (.cells #[.int .i64 k, .int .i64 n, .string s, b, f, l] 27 (0, 0))) :
    w.cell? ⟨V, 0, none⟩ = some (.int .i64 k) ∧ w.cell? ⟨V, 1, none⟩ = some (.int .i64 n) ∧ w.cell? ⟨V, 2, none⟩ = some (.string s) ∧ w.cell? ⟨V, 3, none⟩ = some b ∧ w.cell? ⟨V, 4, none⟩ = some f ∧ w.cell? ⟨V, 5, none⟩ = some l :=
  ⟨cell_blk h (i := 0) rfl, cell_blk h (i := 1) rfl, cell_blk h (i := 2) rfl, cell_blk h (i := 3) rfl, cell_blk h (i := 4) rfl, cell_blk h (i := 5) rfl⟩

section
variable {w : World} {V : Nat} {x : Val} {v0 v1 v2 v3 v4 v5 : Value}
theorem set6_step : Step [V] id id w (set6 w V v0 v1 v2 v3 v4 v5) := .grown set6_grown (fun k hk => by cases hk; simp)
theorem set6_size : (set6 w V v0 v1 v2 v3 v4 v5).heap.size = w.heap.size := by unfold set6; simp
theorem link_list (hV : w.heap[V]? = some (.cells #[v0, v1, v2, v3, v4, v5] 27 (0, 0))) (hx : VIs (fun k => k < w.heap.size ∧ k ≠ V) w x [v0, v1, v2, v3, v4, v5]) {W : World} {B : Nat} (hB : B = w.heap.size)
    (hW : W = (set6 w V (.int .i64 7) (.int .i64 0) (.string ⟨#[]⟩) (.slice none 0 0) (.slice none 0 0) (.slice (some ⟨B, 0, none⟩) 1 1)).alloc (.cells #[v0, v1, v2, v3, v4, v5] 27)) :
    W.heap[V]? = some (.cells #[.int .i64 7, .int .i64 0, .string ⟨#[]⟩, .slice none 0 0, .slice none 0 0, .slice (some ⟨B, 0, none⟩) 1 1] 27 (0, 0)) ∧
    VIs (fun k => k < W.heap.size ∧ k ≠ V) W (.list [x]) [.int .i64 7, .int .i64 0, .string ⟨#[]⟩, .slice none 0 0, .slice none 0 0, .slice (some ⟨B, 0, none⟩) 1 1] ∧ Step [V] id id w W := by
  subst hB
  have hlt := lt_of_block hV
  obtain ⟨S, hS⟩ : ∃ S, S = set6 w V (.int .i64 7) (.int .i64 0) (.string ⟨#[]⟩) (.slice none 0 0) (.slice none 0 0) (.slice (some ⟨w.heap.size, 0, none⟩) 1 1) := ⟨_, rfl⟩
  have hz : S.heap.size = w.heap.size := by rw [hS]; exact set6_size
  have hSV : S.heap[V]? = some (.cells #[.int .i64 7, .int .i64 0, .string ⟨#[]⟩, .slice none 0 0, .slice none 0 0, .slice (some ⟨w.heap.size, 0, none⟩) 1 1] 27 (0, 0)) := by rw [hS]; exact set6_heap hV
  have hSs : Step [V] id id w S := by rw [hS]; exact set6_step
  rw [← hS] at hW
  clear hS
  have hnew := heap_alloc_new S (.cells #[v0, v1, v2, v3, v4, v5] 27)
  rw [hz, ← hW] at hnew
  have hst : Step [V] id id w W := by rw [hW]; exact hSs.tail (Step.alloc _)
  have hsz : W.heap.size = w.heap.size + 1 := by rw [hW, World.size_alloc, hz]
  refine ⟨by rw [hW]; exact alloc_old hSV, ?_, hst⟩
  rw [Val.list, VIs]
  refine ⟨_, none, 0, some ⟨w.heap.size, 0, none⟩, 1, rfl, .inl ⟨none, 0, rfl, rfl, fun _ => rfl⟩, by simp, by decide, by simp, by rw [FIs]; trivial, LIs.of fun {j} hj => ?_⟩
  obtain rfl : j = 0 := by simpa using hj
  refine ⟨w.heap.size, 0, _, rfl, ⟨by omega, by omega⟩, fun i v hi => ?_, hx.keep (fun k hk => ⟨by omega, hk.2⟩) (fun k hk hl => (hst.keep k hl (by simp; exact hk.2)).2)⟩
  exact cell_blk hnew (by simpa using hi)
theorem link_doc (hV : w.heap[V]? = some (.cells #[v0, v1, v2, v3, v4, v5] 27 (0, 0))) (hx : VIs (fun k => k < w.heap.size ∧ k ≠ V) w x [v0, v1, v2, v3, v4, v5]) {W : World} {B : Nat} (hB : B = w.heap.size)
    (hW : W = (set6 w V (.int .i64 6) (.int .i64 0) (.string ⟨#[]⟩) (.slice none 0 0) (.slice (some ⟨B, 0, none⟩) 1 1) (.slice none 0 0)).alloc (.cells #[.string ⟨#[97]⟩, v0, v1, v2, v3, v4, v5] 44)) :
    W.heap[V]? = some (.cells #[.int .i64 6, .int .i64 0, .string ⟨#[]⟩, .slice none 0 0, .slice (some ⟨B, 0, none⟩) 1 1, .slice none 0 0] 27 (0, 0)) ∧
    VIs (fun k => k < W.heap.size ∧ k ≠ V) W (.doc [([97], x)]) [.int .i64 6, .int .i64 0, .string ⟨#[]⟩, .slice none 0 0, .slice (some ⟨B, 0, none⟩) 1 1, .slice none 0 0] ∧ Step [V] id id w W := by
  subst hB
  have hlt := lt_of_block hV
  obtain ⟨S, hS⟩ : ∃ S, S = set6 w V (.int .i64 6) (.int .i64 0) (.string ⟨#[]⟩) (.slice none 0 0) (.slice (some ⟨w.heap.size, 0, none⟩) 1 1) (.slice none 0 0) := ⟨_, rfl⟩
  have hz : S.heap.size = w.heap.size := by rw [hS]; exact set6_size
  have hSV : S.heap[V]? = some (.cells #[.int .i64 6, .int .i64 0, .string ⟨#[]⟩, .slice none 0 0, .slice (some ⟨w.heap.size, 0, none⟩) 1 1, .slice none 0 0] 27 (0, 0)) := by rw [hS]; exact set6_heap hV
  have hSs : Step [V] id id w S := by rw [hS]; exact set6_step
  rw [← hS] at hW
  clear hS
  have hnew := heap_alloc_new S (.cells #[.string ⟨#[97]⟩, v0, v1, v2, v3, v4, v5] 44)
  rw [hz, ← hW] at hnew
  have hst : Step [V] id id w W := by rw [hW]; exact hSs.tail (Step.alloc _)
  have hsz : W.heap.size = w.heap.size + 1 := by rw [hW, World.size_alloc, hz]
  refine ⟨by rw [hW]; exact alloc_old hSV, ?_, hst⟩
  rw [Val.doc, VIs]
  refine ⟨_, some ⟨w.heap.size, 0, none⟩, 1, none, 0, rfl, .inl ⟨none, 0, rfl, rfl, fun _ => rfl⟩, by simp, by decide, by simp, FIs.of fun {j} hj => ?_, by rw [LIs]; trivial⟩
  obtain rfl : j = 0 := by simpa using hj
  refine ⟨w.heap.size, 0, _, rfl, ⟨by omega, by omega⟩, by simp, fun i v hi => ?_, hx.keep (fun k hk => ⟨by omega, hk.2⟩) (fun k hk hl => (hst.keep k hl (by simp; exact hk.2)).2)⟩
  exact cell_blk hnew (by simpa [strOf] using hi)
end
theorem deep_bit (m j : Nat) (hm : m < 4294967296) : bits BinOp.and IntKind.u32 ((m : Int) / 2 ^ (j % 32)) 1 = ((m / 2 ^ (j % 32) % 2 : Nat) : Int) := by
  have e : ((m : Int) / 2 ^ (j % 32)) = ((m / 2 ^ (j % 32) : Nat) : Int) := by push_cast; rfl
  have h := u32_and_nat (m / 2 ^ (j % 32)) 1 (Nat.lt_of_le_of_lt (Nat.div_le_self _ _) hm) (by omega)
  rw [Nat.and_one_is_mod] at h
  rw [e]; exact h

theorem row_lit (w : World) {B : Nat} (hB : B = w.heap.size) (l : Bs) (n : Nat) (hn : l.length = n) (hm : n ≤ maxLen) (cs : Array Value) (hc : cs.toList = byteVals l) : Row (w.alloc (.cells cs 5)) (.slice (some ⟨B, 0, none⟩) n n) l := by
  subst hB hn
  have hsz : cs.size = l.length := by rw [← Array.length_toList, hc]; simp
  exact ⟨by simp, .inr ⟨w.heap.size, l.length, cs, rfl, Nat.zero_le _, heap_alloc_new w _, Nat.le_refl _, hm, by simpa using hsz, by rw [hc, Nat.mul_one]; exact List.take_of_length_le (by simp)⟩⟩
set_option maxRecDepth 100000 in
set_option maxHeartbeats 8000000 in
theorem law_deep (w : World) (n m : Nat) (hn : n < 256) (hm : m < 4294967296) (ht : Tw w) : Calls Tryd.prog 7 #[.int .u8 n, .int .u32 m] w fun e w' => e = .returned (.bool true) ∧ Step [] id id w w' := by
  have htH := Lib.hid ht
  clear ht
  obtain ⟨d, hd⟩ : ∃ d, d = 1 + n % 36 := ⟨_, rfl⟩
  have hd1 : 1 ≤ d := by omega
  have hd2 : d ≤ 36 := by omega
  have hwd : IntKind.i64.wrap (1 + (n : Int) % 36) = (d : Int) := by rw [IntWalk.i64_in _ (by omega), hd]; push_cast; rfl
  have hwd2 : (1 + (n : Int) % 36) = (d : Int) := by omega
  obtain ⟨t, htt⟩ : ∃ t, t = deepT d m := ⟨_, rfl⟩
  have httH := Lib.hid htt
  clear hd htt
  go_enter Tryd.func7, Tryd.ntmps7
  go_wp2_with (go_at_call 10; refine (bs_awake w htH.out).mono ?_; rintro e w1 ⟨rfl, hs1⟩; have hs1H := Lib.hid hs1; clear hs1)
  obtain ⟨V, hVe⟩ : ∃ V, V = w1.heap.size := ⟨_, rfl⟩
  obtain ⟨W1, hW1⟩ : ∃ W1, W1 = w1.alloc (.cells #[.int .i64 3, .int .i64 7, .string ⟨#[]⟩, .slice none 0 0, .slice none 0 0, .slice none 0 0] 27) := ⟨_, rfl⟩
  have hV1 : W1.heap[V]? = some (.cells #[.int .i64 3, .int .i64 7, .string ⟨#[]⟩, .slice none 0 0, .slice none 0 0, .slice none 0 0] 27 (0, 0)) := by rw [hW1, hVe]; exact heap_alloc_new w1 _
  have hVH := Lib.hid hVe
  have hsW : Step [] id id w1 W1 := by rw [hW1]; exact Step.alloc _
  have hsWH := Lib.hid hsW
  rw [← hW1, ← hVe]
  have hV1H := Lib.hid hV1
  clear hsW hV1 hVe hW1
  go_loopw [7] (fun i wr => ∃ j : Nat, i = .int .i64 j ∧ j ≤ d ∧ ∃ cs, wr.heap[V]? = some (.cells cs.toArray 27 (0, 0)) ∧ VIs (fun k => k < wr.heap.size ∧ k ≠ V) wr (chain t j) cs ∧ Step [V] id id W1 wr) (fun i _ => d - (intOf i).toNat)
  case atStart => exact ⟨0, rfl, Nat.zero_le _, _, hV1H.out, by rw [chain, VIs]; exact ⟨_, none, 0, none, 0, rfl, .inl ⟨none, 0, rfl, rfl, fun _ => rfl⟩, by simp, by decide, by simp, by rw [FIs]; trivial, by rw [LIs]; trivial⟩, Step.refl _ _ _⟩
  case round =>
    obtain ⟨j, rfl, hj, cs, hVc, hx, hst⟩ := hrel
    obtain ⟨s0, ba, bn, bc, fa, fn, fc, la, ln, lc, hcs, -⟩ := hx.six
    obtain ⟨n0, hn0⟩ : ∃ k, k = (chain t j).num := ⟨_, rfl⟩
    obtain ⟨k0, hk0⟩ : ∃ k, k = (chain t j).kind := ⟨_, rfl⟩
    rw [← hk0, ← hn0] at hcs
    subst hcs
    obtain ⟨v0, v1, v2, v3, v4, v5⟩ := cell_of_value hVc
    have hVl := lt_of_block hVc
    have hxH := Lib.hid hx
    have hVcH := Lib.hid hVc
    clear hx hn0 hk0 hVc
    by_cases hjd : j < d
    · have hjd1 : (j : Int) < (d : Int) := by omega
      have hstH := Lib.hid hst
      clear hst
      by_cases hl : j + 1 < d
      · have hl1 : (j : Int) < (d : Int) - 1 := by omega
        by_cases hb : (m / 2 ^ (j % 32)) % 2 = 1
        · have hbit : (bits BinOp.and IntKind.u32 ((m : Int) / 2 ^ (j % 32)) 1 == 1) = true := by rw [deep_bit m j hm, hb]; rfl
          have htj := Lib.hid (show t j = true by rw [httH.out, deepT, decide_eq_true hl, decide_eq_true hb]; rfl)
          have f0 := free_blk hVcH.out 0
          have f1 := free_blk hVcH.out 1
          have f2 := free_blk hVcH.out 2
          have f3 := free_blk hVcH.out 3
          have f4 := free_blk hVcH.out 4
          have f5 := free_blk hVcH.out 5
          have hwj : IntKind.i64.wrap ((j : Int) + 1) = (j : Int) + 1 := IntWalk.i64_in _ (by omega)
          go_wp2_with fail
          clear f0 f1 f2 f3 f4 f5 v0 v1 v2 v3 v4 v5
          go_roundw
          case rel =>
            obtain ⟨l1, l2, l3⟩ := link_list hVcH.out hxH.out (B := wr.heap.size) rfl rfl
            refine ⟨j + 1, by go_num, by omega, _, l1, ?_, hstH.out.tail l3⟩
            rw [chain_list htj.out]
            exact l2
          case measure => simp [intOf]; omega
        · have hbit : (bits BinOp.and IntKind.u32 ((m : Int) / 2 ^ (j % 32)) 1 == 1) = false := by rw [deep_bit m j hm, beq_eq_false_iff_ne]; omega
          have htj := Lib.hid (show t j = false by rw [httH.out, deepT, decide_eq_false hb, Bool.and_false])
          have f0 := free_blk hVcH.out 0
          have f1 := free_blk hVcH.out 1
          have f2 := free_blk hVcH.out 2
          have f3 := free_blk hVcH.out 3
          have f4 := free_blk hVcH.out 4
          have f5 := free_blk hVcH.out 5
          have hwj : IntKind.i64.wrap ((j : Int) + 1) = (j : Int) + 1 := IntWalk.i64_in _ (by omega)
          go_wp2_with fail
          clear f0 f1 f2 f3 f4 f5 v0 v1 v2 v3 v4 v5
          go_roundw
          case rel =>
            obtain ⟨l1, l2, l3⟩ := link_doc hVcH.out hxH.out (B := wr.heap.size) rfl rfl
            refine ⟨j + 1, by go_num, by omega, _, l1, ?_, hstH.out.tail l3⟩
            rw [chain_doc htj.out]
            exact l2
          case measure => simp [intOf]; omega
      · have hl1 : ¬ (j : Int) < (d : Int) - 1 := by omega
        have htj := Lib.hid (show t j = false by rw [httH.out, deepT, decide_eq_false hl, Bool.false_and])
        have f0 := free_blk hVcH.out 0
        have f1 := free_blk hVcH.out 1
        have f2 := free_blk hVcH.out 2
        have f3 := free_blk hVcH.out 3
        have f4 := free_blk hVcH.out 4
        have f5 := free_blk hVcH.out 5
        have hwj : IntKind.i64.wrap ((j : Int) + 1) = (j : Int) + 1 := IntWalk.i64_in _ (by omega)
        go_wp2_with fail
        clear f0 f1 f2 f3 f4 f5 v0 v1 v2 v3 v4 v5
        go_roundw
        case rel =>
          obtain ⟨l1, l2, l3⟩ := link_doc hVcH.out hxH.out (B := wr.heap.size) rfl rfl
          refine ⟨j + 1, by go_num, by omega, _, l1, ?_, hstH.out.tail l3⟩
          rw [chain_doc htj.out]
          exact l2
        case measure => simp [intOf]; omega
    · have hjd1 : ¬ (j : Int) < (d : Int) := by omega
      obtain rfl : j = d := by omega
      have hw1 : w.heap.size ≤ V := by rw [hVH.out]; exact hs1H.out.size
      have hs2 : Step [] id id w wr := (hs1H.out.tail hsWH.out).tailNew hst (fun r hr => .inr (by rw [List.mem_singleton] at hr; rw [hr]; exact hw1))
      have hs2H := Lib.hid hs2
      have hx2 := Lib.hid (hxH.out.keep (P2 := fun k => k < wr.heap.size) (fun k hk => hk.1) (fun _ _ _ => rfl))
      have htl : t (j - 1) = false := by rw [httH.out, deepT, decide_eq_false (by omega), Bool.false_and]
      have hok := chain_okDoc htl (by omega)
      rw [show j - 1 + 1 = j by omega] at hok
      clear hst hs2 htl
      by_cases h32 : j ≤ 32
      · have h32i : (j : Int) ≤ 32 := by omega
        rw [decide_eq_true h32] at hok
        have hokH := Lib.hid hok
        clear hok
        go_wp2_with (go_at_call 14; refine (bs_encode hx2.out (htH.out.step hs2H.out)).mono ?_; rintro e w4 h; obtain ⟨v, rfl, hrow, hs4, hnew⟩ := h.ok hokH.out; obtain ⟨va, vc, rfl⟩ := hrow.shape; have hs4H := Lib.hid hs4; have hrowH := Lib.hid hrow; clear hs4 hrow hnew h v0 v1 v2 v3 v4 v5)
        have hlen : (wrapDoc (encFs (chain t j).f)).length ≤ 65536 := by
          have h := hokH.out
          unfold okDoc at h
          simp only [Bool.and_eq_true, decide_eq_true_eq] at h
          exact h.2
        have henc : encode (chain t j) = some (wrapDoc (encFs (chain t j).f)) := by unfold encode; rw [hokH.out]; rfl
        have hdec := decode_encode henc
        refine (bs_decode hrowH.out.bin (by omega) ((htH.out.step hs2H.out).step hs4H.out)).mono ?_
        rintro e w5 h
        rw [hdec] at h
        obtain ⟨hs5, cs5, rfl, hx5⟩ := h
        change VIs _ _ (chain t j) _ at hx5
        rw [show errOf (Res.ok (chain t j) (wrapDoc (encFs (chain t j).f)).length) = 0 from rfl]
        have hw25 := Lib.hid (hs4H.out.tail hs5)
        have hsame : ∀ W, Step [] id id w5 W → Calls Tryd.prog 13 #[.agg #[.int .i64 k0, .int .i64 n0, .string s0, .slice ba bn bc, .slice fa fn fc, .slice la ln lc], .agg cs5.toArray] W (SameB (chain t j) (chain t j) W) := fun W hW =>
          ref_same (P := fun _ => True) (hx2.out.keep (fun _ _ => trivial) (fun k hk hl => (((hw25.out).tail hW).keep k hl (by simp)).2)) (hx5.keep (fun _ _ => trivial) (fun k hk hl => (hW.keep k hl (by simp)).2))
        have hmay : ∀ W, Step [] id id w5 W → Calls Tryd.prog 18 #[.agg #[.int .i64 k0, .int .i64 n0, .string s0, .slice ba bn bc, .slice fa fn fc, .slice la ln lc]] W fun e w' => e = .returned (.bool (okDoc (chain t j))) ∧ Step [] id id W w' := fun W hW =>
          bs_may (P := fun k => k < W.heap.size) (hx2.out.onto (hw25.out.tail hW)) (((htH.out.step hs2H.out).step hw25.out).step hW)
        obtain ⟨s5, ba5, bn5, bc5, fa5, fn5, fc5, la5, ln5, lc5, hcs5, -⟩ := hx5.six
        obtain ⟨n5, hn5⟩ : ∃ k, k = (chain t j).num := ⟨_, rfl⟩
        obtain ⟨k5, hk5⟩ : ∃ k, k = (chain t j).kind := ⟨_, rfl⟩
        rw [← hk5, ← hn5] at hcs5
        subst hcs5
        have hsameH := Lib.hid hsame
        have hmayH := Lib.hid hmay
        have hVr := Step.at (hw25.out) hVcH.out (by simp); obtain ⟨v0, v1, v2, v3, v4, v5⟩ := cell_of_value hVr; have hVl := lt_of_block hVr; clear hVr
        clear hx5 hn5 hk5 hsame hmay hdec henc hlen hs5
        go_wp2_with (first
          | (go_at_call 13; refine (hsameH.out _ (Step.alloc _)).mono ?_; rintro e w7 ⟨r7, rfl, hr7, hs7⟩; obtain rfl : r7 = true := hr7.2 rfl; have hs57 := Lib.hid ((Step.alloc _).tail hs7); clear hr7 hs7 v0 v1 v2 v3 v4 v5 hVl; have hVr := Step.at (hw25.out.tail hs57.out) hVcH.out (by simp); obtain ⟨v0, v1, v2, v3, v4, v5⟩ := cell_of_value hVr; have hVl := lt_of_block hVr; clear hVr)
          | (go_at_call 18; refine (hmayH.out _ hs57.out).mono ?_; rw [hokH.out]; rintro e w8 ⟨rfl, hs8⟩; have hs8H := Lib.hid hs8; clear hs8))
        go_ret
        exact ⟨rfl, hs2H.out.tail (hw25.out.tail (hs57.out.tail hs8H.out))⟩
      · have h32i : ¬ (j : Int) ≤ 32 := by omega
        rw [decide_eq_false h32] at hok
        have hokH := Lib.hid hok
        clear hok
        go_wp2_with (go_at_call 14; refine (bs_encode hx2.out (htH.out.step hs2H.out)).mono ?_; rintro e w4 h; obtain ⟨rfl, hs4⟩ := h.ill hokH.out; have hs4H := Lib.hid hs4; clear hs4 h v0 v1 v2 v3 v4 v5)
        obtain ⟨W4, hW4⟩ : ∃ W4, W4 = w4.alloc (.cells #[.int .u8 7, .int .u8 0, .int .u8 0, .int .u8 0] 5) := ⟨_, rfl⟩
        have hraw : BIn (fun k => k < W4.heap.size) W4 (.slice (some ⟨w4.heap.size, 0, none⟩) 4 4) (encV (chain t 0)) := by
          have h := (row_lit w4 rfl [7, 0, 0, 0] 4 rfl (by decide) #[.int .u8 7, .int .u8 0, .int .u8 0, .int .u8 0] (by rfl)).bin
          rw [← hW4] at h
          rw [show encV (chain t 0) = [7, 0, 0, 0] by simp [chain, encV]; decide]
          exact h
        have hrawH := Lib.hid hraw
        have hs4W := Lib.hid (show Step [] id id w4 W4 by rw [hW4]; exact Step.alloc _)
        clear hraw hVl
        rw [← hW4]
        clear hW4
        go_loopw [12, 13, 14] (fun rv cv iv wq => ∃ q : Nat, iv = .int .i64 q ∧ q ≤ j ∧ cv = .int .u8 ((chainCode t q).toNat : Int) ∧ BIn (fun k => k < wq.heap.size) wq rv (encV (chain t q)) ∧ Step [] id id W4 wq) (fun _ _ i _ => j - (intOf i).toNat)
        case atStart => exact ⟨0, rfl, Nat.zero_le _, rfl, hrawH.out, Step.refl _ _ _⟩
        case round =>
          obtain ⟨q, rfl, hq, rfl, hrw, hsq⟩ := hrel
          have hrl := chain_len t q
          obtain ⟨ra, rc, rfl⟩ := hrw.shape
          have hrb := hrw
          rw [hrl] at hrw ⊢
          have hrlH := Lib.hid hrl
          have hrwH := Lib.hid hrw
          have hrbH := Lib.hid hrb
          have hsqH := Lib.hid hsq
          clear hrw hrb hsq hrl
          by_cases hqj : q < j
          · have hqj1 : (q : Int) < (j : Int) := by omega
            have hlit := Lib.hid (show (#[.int .u8 ((7 + (4 + 8 * (q : Int)) + 1) % 256), .int .u8 ((7 + (4 + 8 * (q : Int)) + 1) / 256), .int .u8 0, .int .u8 0, .int .u8 ((chainCode t q).toNat : Int)] : Array Value).toList = byteVals [UInt8.ofNat (12 + 8 * q), UInt8.ofNat ((12 + 8 * q) / 256), 0, 0, chainCode t q] by
              simp [byteVals]; omega)
            have hwq : IntKind.i64.wrap ((q : Int) + 1) = (q : Int) + 1 := IntWalk.i64_in _ (by omega)
            by_cases hl : q + 1 < j
            · have hl1 : (q : Int) < (j : Int) - 1 := by omega
              by_cases hb : (m / 2 ^ (q % 32)) % 2 = 1
              · have hbit : (bits BinOp.and IntKind.u32 ((m : Int) / 2 ^ (q % 32)) 1 == 1) = true := by rw [deep_bit m q hm, hb]; rfl
                have htj := Lib.hid (show t q = true by rw [httH.out, deepT, decide_eq_true hl, decide_eq_true hb]; rfl)
                have hnm := Lib.hid (show chainName t q = [48] by rw [chainName, htj.out]; rfl)
                go_wp2_with (first
                  | (at_builtin; (refine wpList_put_byte rfl _ _ rfl (by rfl) hr7H.out 0 (by rfl) (by rfl) (by rfl) (by exact hr7l.out) ?_; intro ad8 N8 c8 w8 hr8 hg8; have hg8 := hg7H.out.trans hg8; have hg8H := Lib.hid hg8; have hr8H := Lib.hid hr8; clear hg8 hr8))
                  | (at_builtin; (refine wpList_put_src rfl _ _ rfl (by rfl) hr6H.out (encV (chain t q)) (by rfl) (by exact hsrc6.out) (by exact hr6l.out) ?_; intro ad7 N7 c7 w7 hr7 hg7; have hg7 := hg6H.out.trans hg7; have hr7l := Lib.hid (show ((([UInt8.ofNat (12 + 8 * q), UInt8.ofNat ((12 + 8 * q) / 256), 0, 0, chainCode t q] ++ [48]) ++ [0]) ++ encV (chain t q)).length + 1 ≤ 1000000000 by simp [hrlH.out]; omega); have hg7H := Lib.hid hg7; have hr7H := Lib.hid hr7; clear hg7 hr7))
                  | (at_builtin; (refine wpList_put_byte rfl _ _ rfl (by rfl) hr5H.out 0 (by rfl) (by rfl) (by rfl) (by simp) ?_; intro ad6 N6 c6 w6 hr6 hg6; have hg6 := hg5H.out.trans hg6; have hsrc6 := Lib.hid ((hrwH.out.onto (hg6.fresh (fun k h => by cases h; exact Nat.le_refl _))).src); have hr6l := Lib.hid (show (([UInt8.ofNat (12 + 8 * q), UInt8.ofNat ((12 + 8 * q) / 256), 0, 0, chainCode t q] ++ [48]) ++ [0]).length + (encV (chain t q)).length ≤ 1000000000 by simp [hrlH.out]; omega); have hg6H := Lib.hid hg6; have hr6H := Lib.hid hr6; clear hg6 hr6))
                  | (at_builtin; (refine wpList_put_str (l := [UInt8.ofNat (12 + 8 * q), UInt8.ofNat ((12 + 8 * q) / 256), 0, 0, chainCode t q]) (v := .slice (some ⟨wr.heap.size, 0, none⟩) 5 5) rfl _ _ rfl (by rfl) (by exact row_lit _ rfl _ 5 rfl (by unfold maxLen; omega) _ hlit.out) [48] (by rfl) (by simp) ?_; intro ad5 N5 c5 w5 hr5 hg5; have hg5 := Grew.left (World.grownBy_alloc wr _ none) hg5; have hg5H := Lib.hid hg5; have hr5H := Lib.hid hr5; clear hg5 hr5)))
                go_roundw
                case rel =>
                  refine ⟨q + 1, by go_num, by omega, by rw [chainCode, htj.out]; rfl, ?_, hsqH.out.tail (hg8H.out.fresh (fun k h => by cases h; exact Nat.le_refl _))⟩
                  have e := chain_raw t q (by omega)
                  rw [hnm.out] at e
                  rw [e]
                  exact hr8H.out.bin
                case measure => simp [intOf]; omega
              · have hbit : (bits BinOp.and IntKind.u32 ((m : Int) / 2 ^ (q % 32)) 1 == 1) = false := by rw [deep_bit m q hm, beq_eq_false_iff_ne]; omega
                have htj := Lib.hid (show t q = false by rw [httH.out, deepT, decide_eq_false hb, Bool.and_false])
                have hnm := Lib.hid (show chainName t q = [97] by rw [chainName, htj.out]; rfl)
                go_wp2_with (first
                  | (at_builtin; (refine wpList_put_byte rfl _ _ rfl (by rfl) hr7H.out 0 (by rfl) (by rfl) (by rfl) (by exact hr7l.out) ?_; intro ad8 N8 c8 w8 hr8 hg8; have hg8 := hg7H.out.trans hg8; have hg8H := Lib.hid hg8; have hr8H := Lib.hid hr8; clear hg8 hr8))
                  | (at_builtin; (refine wpList_put_src rfl _ _ rfl (by rfl) hr6H.out (encV (chain t q)) (by rfl) (by exact hsrc6.out) (by exact hr6l.out) ?_; intro ad7 N7 c7 w7 hr7 hg7; have hg7 := hg6H.out.trans hg7; have hr7l := Lib.hid (show ((([UInt8.ofNat (12 + 8 * q), UInt8.ofNat ((12 + 8 * q) / 256), 0, 0, chainCode t q] ++ [97]) ++ [0]) ++ encV (chain t q)).length + 1 ≤ 1000000000 by simp [hrlH.out]; omega); have hg7H := Lib.hid hg7; have hr7H := Lib.hid hr7; clear hg7 hr7))
                  | (at_builtin; (refine wpList_put_byte rfl _ _ rfl (by rfl) hr5H.out 0 (by rfl) (by rfl) (by rfl) (by simp) ?_; intro ad6 N6 c6 w6 hr6 hg6; have hg6 := hg5H.out.trans hg6; have hsrc6 := Lib.hid ((hrwH.out.onto (hg6.fresh (fun k h => by cases h; exact Nat.le_refl _))).src); have hr6l := Lib.hid (show (([UInt8.ofNat (12 + 8 * q), UInt8.ofNat ((12 + 8 * q) / 256), 0, 0, chainCode t q] ++ [97]) ++ [0]).length + (encV (chain t q)).length ≤ 1000000000 by simp [hrlH.out]; omega); have hg6H := Lib.hid hg6; have hr6H := Lib.hid hr6; clear hg6 hr6))
                  | (at_builtin; (refine wpList_put_str (l := [UInt8.ofNat (12 + 8 * q), UInt8.ofNat ((12 + 8 * q) / 256), 0, 0, chainCode t q]) (v := .slice (some ⟨wr.heap.size, 0, none⟩) 5 5) rfl _ _ rfl (by rfl) (by exact row_lit _ rfl _ 5 rfl (by unfold maxLen; omega) _ hlit.out) [97] (by rfl) (by simp) ?_; intro ad5 N5 c5 w5 hr5 hg5; have hg5 := Grew.left (World.grownBy_alloc wr _ none) hg5; have hg5H := Lib.hid hg5; have hr5H := Lib.hid hr5; clear hg5 hr5)))
                go_roundw
                case rel =>
                  refine ⟨q + 1, by go_num, by omega, by rw [chainCode, htj.out]; rfl, ?_, hsqH.out.tail (hg8H.out.fresh (fun k h => by cases h; exact Nat.le_refl _))⟩
                  have e := chain_raw t q (by omega)
                  rw [hnm.out] at e
                  rw [e]
                  exact hr8H.out.bin
                case measure => simp [intOf]; omega
            · have hl1 : ¬ (q : Int) < (j : Int) - 1 := by omega
              have htj := Lib.hid (show t q = false by rw [httH.out, deepT, decide_eq_false hl, Bool.false_and])
              have hnm := Lib.hid (show chainName t q = [97] by rw [chainName, htj.out]; rfl)
              go_wp2_with (first
                | (at_builtin; (refine wpList_put_byte rfl _ _ rfl (by rfl) hr7H.out 0 (by rfl) (by rfl) (by rfl) (by exact hr7l.out) ?_; intro ad8 N8 c8 w8 hr8 hg8; have hg8 := hg7H.out.trans hg8; have hg8H := Lib.hid hg8; have hr8H := Lib.hid hr8; clear hg8 hr8))
                | (at_builtin; (refine wpList_put_src rfl _ _ rfl (by rfl) hr6H.out (encV (chain t q)) (by rfl) (by exact hsrc6.out) (by exact hr6l.out) ?_; intro ad7 N7 c7 w7 hr7 hg7; have hg7 := hg6H.out.trans hg7; have hr7l := Lib.hid (show ((([UInt8.ofNat (12 + 8 * q), UInt8.ofNat ((12 + 8 * q) / 256), 0, 0, chainCode t q] ++ [97]) ++ [0]) ++ encV (chain t q)).length + 1 ≤ 1000000000 by simp [hrlH.out]; omega); have hg7H := Lib.hid hg7; have hr7H := Lib.hid hr7; clear hg7 hr7))
                | (at_builtin; (refine wpList_put_byte rfl _ _ rfl (by rfl) hr5H.out 0 (by rfl) (by rfl) (by rfl) (by simp) ?_; intro ad6 N6 c6 w6 hr6 hg6; have hg6 := hg5H.out.trans hg6; have hsrc6 := Lib.hid ((hrwH.out.onto (hg6.fresh (fun k h => by cases h; exact Nat.le_refl _))).src); have hr6l := Lib.hid (show (([UInt8.ofNat (12 + 8 * q), UInt8.ofNat ((12 + 8 * q) / 256), 0, 0, chainCode t q] ++ [97]) ++ [0]).length + (encV (chain t q)).length ≤ 1000000000 by simp [hrlH.out]; omega); have hg6H := Lib.hid hg6; have hr6H := Lib.hid hr6; clear hg6 hr6))
                | (at_builtin; (refine wpList_put_str (l := [UInt8.ofNat (12 + 8 * q), UInt8.ofNat ((12 + 8 * q) / 256), 0, 0, chainCode t q]) (v := .slice (some ⟨wr.heap.size, 0, none⟩) 5 5) rfl _ _ rfl (by rfl) (by exact row_lit _ rfl _ 5 rfl (by unfold maxLen; omega) _ hlit.out) [97] (by rfl) (by simp) ?_; intro ad5 N5 c5 w5 hr5 hg5; have hg5 := Grew.left (World.grownBy_alloc wr _ none) hg5; have hg5H := Lib.hid hg5; have hr5H := Lib.hid hr5; clear hg5 hr5)))
              go_roundw
              case rel =>
                refine ⟨q + 1, by go_num, by omega, by rw [chainCode, htj.out]; rfl, ?_, hsqH.out.tail (hg8H.out.fresh (fun k h => by cases h; exact Nat.le_refl _))⟩
                have e := chain_raw t q (by omega)
                rw [hnm.out] at e
                rw [e]
                exact hr8H.out.bin
              case measure => simp [intOf]; omega
          · have hqj1 : ¬ (q : Int) < (j : Int) := by omega
            obtain rfl : q = j := by omega
            have hdec := chain_decode (t := t) (i := q - 1) (by omega) (by omega)
            rw [show q - 1 + 1 = q by omega] at hdec
            have hdecH := Lib.hid hdec
            have hs2q := Lib.hid (hs4H.out.tail (hs4W.out.tail hsqH.out))
            clear hdec
            go_wp2_with fail
            have hcall := bs_decode hrbH.out (by rw [hrlH.out]; omega) ((htH.out.step hs2H.out).step hs2q.out)
            rw [hdecH.out, hrlH.out] at hcall
            refine hcall.mono ?_
            rintro e w9 h
            obtain ⟨k9, n9, s9, ba9, bn9, bc9, fa9, fn9, fc9, la9, ln9, lc9, rfl, hs9⟩ := h.shape
            rw [show errOf (Res.bad 7 : Res Val) = 7 from rfl]
            have hs29 := Lib.hid (hs2q.out.tail hs9)
            have hmay : ∀ W, Step [] id id w9 W → Calls Tryd.prog 18 #[.agg #[.int .i64 k0, .int .i64 n0, .string s0, .slice ba bn bc, .slice fa fn fc, .slice la ln lc]] W fun e w' => e = .returned (.bool (okDoc (chain t q))) ∧ Step [] id id W w' := fun W hW =>
              bs_may (P := fun k => k < W.heap.size) (hx2.out.onto (hs29.out.tail hW)) (((htH.out.step hs2H.out).step hs29.out).step hW)
            have hsize : ∀ W, Step [] id id w9 W → Calls Tryd.prog 15 #[.agg #[.int .i64 k0, .int .i64 n0, .string s0, .slice ba bn bc, .slice fa fn fc, .slice la ln lc]] W fun e w' => e = .returned (.int .i64 (sizeOf_ (chain t q))) ∧ Step [] id id W w' := fun W hW =>
              bs_size (P := fun k => k < W.heap.size) (hx2.out.onto (hs29.out.tail hW)) (((htH.out.step hs2H.out).step hs29.out).step hW)
            have hmayH := Lib.hid hmay
            have hsizeH := Lib.hid hsize
            have hsz0 := Lib.hid (show sizeOf_ (chain t q) = 0 by unfold sizeOf_; rw [hokH.out]; rfl)
            have hVr := Step.at (hs29.out) hVcH.out (by simp); obtain ⟨v0, v1, v2, v3, v4, v5⟩ := cell_of_value hVr; have hVl := lt_of_block hVr; clear hVr
            clear h hcall hmay hsize hs9
            go_wp2_with (first
              | (go_at_call 18; refine (hmayH.out _ (Step.alloc _)).mono ?_; rw [hokH.out]; rintro e w10 ⟨rfl, hs10⟩; have hs10H := Lib.hid ((Step.alloc _).tail hs10); clear hs10 v0 v1 v2 v3 v4 v5 hVl; have hVr := Step.at (hs29.out.tail hs10H.out) hVcH.out (by simp); obtain ⟨v0, v1, v2, v3, v4, v5⟩ := cell_of_value hVr; have hVl := lt_of_block hVr; clear hVr)
              | (go_at_call 15; refine (hsizeH.out _ hs10H.out).mono ?_; rw [hsz0.out]; rintro e w11 ⟨rfl, hs11⟩; have hs11H := Lib.hid hs11; clear hs11))
            go_ret
            exact ⟨rfl, hs2H.out.tail (hs29.out.tail (hs10H.out.tail hs11H.out))⟩
end Go.Proofs.YtbkmnhogfegmcaaDoor
