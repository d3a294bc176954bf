/- The law BsonKnown, walked. -/
import Derived.Test.YtbkmnhogfegmcaaDoorBsK1
import Derived.Test.YtbkmnhogfegmcaaDoorBsK2
import Derived.Lib.SlBytesConst
set_option linter.unusedVariables false
set_option linter.unusedSimpArgs false
namespace Go.Proofs.YtbkmnhogfegmcaaDoor
open Go.RowKit

theorem wpList_make_bytes {w : World} {ops : Array Oper} {rest : List Oper} {o : Oper} {a : Act} {Q : Exit → Act → World → Prop}
    (hg : o.guard = none) (l c : Operand) (hop : o.op = Op.makeSlice 22 l c) (n : Nat) (hl : a.eval l = .int .i64 n) (hc : a.eval c = .int .i64 n) (hn : n ≤ 1000000000)
    (hK : Blk (w.alloc (.cells (byteVals (List.replicate n 0)).toArray 5)) w.heap.size (List.replicate n 0) → wpList Tryd.prog ops Q rest (a.put o.dst (.slice (some ⟨w.heap.size, 0, none⟩) n n)) (w.alloc (.cells (byteVals (List.replicate n 0)).toArray 5))) :
    wpList Tryd.prog ops Q (o :: rest) a w := by
  obtain ⟨i0, hi, hz0, hz1, hz2⟩ := info_split info_u8
  refine wpList_plain hg fun K hK' => ?_
  have hrun := run_make (P := Tryd.prog) w 22 5 i0 (.int .u8 0) Tryd.underlying22 hi hz0 .i64 .i64 n n (by omega) (Int.le_refl _) (by rw [hz2]; omega) (by omega)
  rw [hz1, Nat.mul_one, Int.toNat_natCast] at hrun
  have hm : madeCells (Value.int .u8 0).cells n = (byteVals (List.replicate n 0)).toArray := by
    apply Array.ext'
    rw [show (Value.int .u8 0).cells = #[.int .u8 0] from rfl, toList_madeCells_one]
    simp [byteVals]
  rw [hm] at hrun
  unfold Oper.wp
  simp [execOp, hop, hl, hc, hrun, Result.andThen]
  exact hK' _ _ (hK (heap_alloc_new w _))

/-- []byte of a text: a new row, which reads as its bytes. -/
theorem bs_bytes2 (l : Bs) (w : World) : ∃ cap W4, (convert 9 22 (.string (strOf l))).run Tryd.prog w = .ok (.slice (some ⟨w.heap.size, 0, none⟩) l.length cap) W4 ∧ Step [] id id w W4 ∧ BIn (fun k => w.heap.size ≤ k ∧ k < W4.heap.size) W4 (.slice (some ⟨w.heap.size, 0, none⟩) l.length cap) l ∧ l.length ≤ cap := by
  have h := Lib.run_convert_string_bytes (P := Tryd.prog) w 9 22 5 (strOf l) Tryd.underlying9 Tryd.underlying22 Tryd.underlying5
  rw [strOf_size] at h
  have hsz := Lib.bytesWorld_size w 5 (strOf l)
  have hcap := grownCap_ge w l.length 0 5
  refine ⟨_, _, h, ⟨rfl, rfl, rfl, by omega, fun k hk _ => ⟨rfl, Lib.bytesWorld_at_old w _ _ k hk⟩, fun hw => hw.grow (by omega)⟩, .inr ⟨w.heap.size, 0, _, rfl, hcap, ⟨Nat.le_refl _, by omega⟩, fun i hi => ?_⟩, hcap⟩
  have := Lib.bytesWorld_cell w 5 (strOf l) i (by rw [strOf_size]; exact hi)
  rw [Nat.zero_add, this]
  simp [strOf, List.getD_eq_getElem?_getD, hi]
theorem bad_get {j : Nat} (h : j < 10) : ∃ (hb : j < badB.length) (he : j < badE.length), errOf (decode (badB[j]'hb)) = badE[j]'he ∧ valOf (decode (badB[j]'hb)) = .bare 0 := by
  have h1 : j < badB.length := h
  have h2 : j < badE.length := h
  refine ⟨h1, h2, ?_⟩
  have h3 := congrArg (fun l => l[j]?) bad_dec
  simp only [List.getElem?_map, List.getElem?_eq_getElem h1, List.getElem?_eq_getElem h2, Option.map_some, Option.some.injEq] at h3
  rw [h3]
  exact ⟨rfl, rfl⟩

/-- A constant's bytes. -/
theorem const_bin {P : Nat → Prop} {w : World} {k : Nat} {l : Bs} (h : w.heap[k]? = some (.cells (byteVals l).toArray 5 (l.length, l.length + 1))) (hP : P k) : BIn P w (.slice (some ⟨k, 0, none⟩) l.length l.length) l := by
  refine .inr ⟨k, 0, _, rfl, Nat.le_refl _, hP, fun i hi => ?_⟩
  have := byteVals_get hi
  simp [World.cell?, h, this]

theorem BIn.lowB {P : Nat → Prop} {w : World} {v : Value} {l : Bs} (h : BIn P w v l) : BIn (fun k => k < w.heap.size) w v l := h.below.keep (fun k hk => hk.2) (fun _ _ _ => rfl)
theorem long_dec {w : World} {k : Nat} (N : Nat) (hN : N = 65537) (h : Blk w k (List.replicate N 0)) (ht : Tw w) :
    Calls Tryd.prog 11 #[.slice (some ⟨k, 0, none⟩) N N] w fun e w' => Step [] id id w w' ∧ ∃ s0 ba bn bc fa fn fc la ln lc, e = .returned (.tuple #[.agg #[.int .i64 0, .int .i64 0, .string s0, .slice ba bn bc, .slice fa fn fc, .slice la ln lc], .int .i64 3]) := by
  have hrow := h.row (by rw [List.length_replicate, hN]; unfold maxLen; omega)
  have hlen : (List.replicate N (0 : UInt8)).length = N := List.length_replicate ..
  generalize List.replicate N (0 : UInt8) = l at *
  have hdec := bs_decode (Row.bin hrow) (by rw [hlen, hN]; omega) ht
  have hd : decode l = .bad 3 := by unfold decode; rw [if_pos (by rw [hlen, hN]; omega)]
  rw [hd, hlen] at hdec
  refine hdec.mono ?_
  rintro e w' ⟨hs, cs, rfl, hx⟩
  obtain ⟨s0, ba, bn, bc, fa, fn, fc, la, ln, lc, rfl, -⟩ := hx.six
  exact ⟨hs, s0, ba, bn, bc, fa, fn, fc, la, ln, lc, rfl⟩

set_option maxRecDepth 100000 in
set_option maxHeartbeats 8000000 in
theorem law_known (w : World) (ht : Tw w) : Calls Tryd.prog 6 #[] w fun e w' => e = .returned (.bool true) ∧ Step [] id id w w' := by
  have htH := Lib.hid ht
  have hcb := fun (w : World) (C : Array Value) (n c : Nat) => Lib.run_convert_bytes_const w 22 5 C n c Tryd.underlying22 Tryd.underlying5
  clear ht
  go_enter Tryd.func6, Tryd.ntmps6
  go_wp2_with (go_at_call 10; refine (bs_awake w htH.out).mono ?_; rintro e w1 ⟨rfl, hs1⟩; have hs1H := Lib.hid hs1; clear hs1)
  obtain ⟨W2, hW2⟩ : ∃ W2, W2 = w1.alloc (.cells (byteVals helloB).toArray 5 (22, 23)) := ⟨_, rfl⟩
  have hb2 : W2.heap[w1.heap.size]? = some (.cells (byteVals helloB).toArray 5 (22, 23)) := by rw [hW2]; exact heap_alloc_new w1 _
  have hs12 : Step [] id id w1 W2 := by rw [hW2]; exact Step.alloc _
  have hin : BIn (fun k => k < W2.heap.size) W2 (.slice (some ⟨w1.heap.size, 0, none⟩) 22 22) helloB := const_bin hb2 (lt_of_block hb2)
  have hdec := bs_decode hin (by simp [helloB]) ((htH.out.step hs1H.out).step hs12)
  rw [hello_dec] at hdec
  rw [show w1.alloc (.cells #[.int .u8 22, .int .u8 0, .int .u8 0, .int .u8 0, .int .u8 2, .int .u8 104, .int .u8 101, .int .u8 108, .int .u8 108, .int .u8 111, .int .u8 0, .int .u8 6, .int .u8 0, .int .u8 0, .int .u8 0, .int .u8 119, .int .u8 111, .int .u8 114, .int .u8 108, .int .u8 100, .int .u8 0, .int .u8 0] 5 (22, 23)) = W2 by rw [hW2]; rfl]
  refine hdec.mono ?_
  rintro e w4 ⟨hs4, cs, rfl, hx4⟩
  clear hdec hin hb2 hW2
  obtain ⟨bv, fa, fc, la, lc, hcs, hb4, -, -, -, hf4, -⟩ := hx4.cells
  obtain ⟨ba, bc, rfl⟩ := hb4.shape
  obtain ⟨fb, fo, fcs, hfa, -, -, hrng, hfx⟩ := FIs.get hf4 (j := 0) (by simp [valOf, helloV, Val.doc, Val.f])
  obtain ⟨bv2, fa2, fc2, la2, lc2, hfcs, -⟩ := hfx.cells
  subst hfa
  simp only [Nat.zero_add, Nat.zero_mul, Nat.add_zero] at hrng
  have hq0 : w4.cell? ⟨fb, fo, none⟩ = some (.string ⟨#[104, 101, 108, 108, 111]⟩) := hrng 0 _ rfl
  have hq3 : w4.cell? ⟨fb, fo + 3, none⟩ = some (.string ⟨#[119, 111, 114, 108, 100]⟩) := hrng 3 _ (by rw [hfcs]; rfl)
  have hfblt := World.block_lt_of_cell? w4 _ hq0
  rw [show cs.toArray = #[.int .i64 6, .int .i64 0, .string ⟨#[]⟩, .slice ba 0 bc, .slice (some ⟨fb, fo, none⟩) 1 fc, .slice la 0 lc] by rw [hcs]; rfl]
  rw [show errOf (Res.ok helloV 22) = 0 from rfl]
  have hs04 := Lib.hid ((hs1H.out.tail hs12).tail hs4)
  clear hs4 hx4 hcs hb4 hf4 hrng hfx hfcs hs12
  go_wp2_with fail
  obtain ⟨W5, hW5⟩ : ∃ W5, W5 = w4.alloc (.cells #[.int .i64 6, .int .i64 0, .string ⟨#[]⟩, .slice ba 0 bc, .slice (some ⟨fb, fo, none⟩) 1 fc, .slice la 0 lc] 27) := ⟨_, rfl⟩
  obtain ⟨W6, hW6⟩ : ∃ W6, W6 = W5.alloc (.cells #[.string ⟨#[]⟩, .string ⟨#[5, 0, 0]⟩, .string ⟨#[5, 0, 0, 0, 1]⟩, .string ⟨#[6, 0, 0, 0, 0]⟩, .string ⟨#[4, 0, 0, 0]⟩, .string ⟨#[8, 0, 0, 0, 153, 97, 0, 0]⟩, .string ⟨#[16, 0, 0, 0, 1, 97, 0, 0, 0, 0, 0, 0, 0, 0, 0, 0]⟩, .string ⟨#[8, 0, 0, 0, 10, 255, 0, 0]⟩, .string ⟨#[11, 0, 0, 0, 10, 97, 0, 10, 97, 0, 0]⟩, .string ⟨#[9, 0, 0, 0, 8, 97, 0, 2, 0]⟩] 9) := ⟨_, rfl⟩
  obtain ⟨W7, hW7⟩ : ∃ W7, W7 = W6.alloc (.cells #[.int .i64 2, .int .i64 2, .int .i64 2, .int .i64 4, .int .i64 4, .int .i64 9, .int .i64 8, .int .i64 5, .int .i64 6, .int .i64 4] 28) := ⟨_, rfl⟩
  have z5 : W5.heap.size = w4.heap.size + 1 := by rw [hW5]; simp
  have z6 : W6.heap.size = w4.heap.size + 1 + 1 := by rw [hW6]; simp [z5]
  have hK3 : W7.heap[w4.heap.size + 1]? = some (.cells #[.string ⟨#[]⟩, .string ⟨#[5, 0, 0]⟩, .string ⟨#[5, 0, 0, 0, 1]⟩, .string ⟨#[6, 0, 0, 0, 0]⟩, .string ⟨#[4, 0, 0, 0]⟩, .string ⟨#[8, 0, 0, 0, 153, 97, 0, 0]⟩, .string ⟨#[16, 0, 0, 0, 1, 97, 0, 0, 0, 0, 0, 0, 0, 0, 0, 0]⟩, .string ⟨#[8, 0, 0, 0, 10, 255, 0, 0]⟩, .string ⟨#[11, 0, 0, 0, 10, 97, 0, 10, 97, 0, 0]⟩, .string ⟨#[9, 0, 0, 0, 8, 97, 0, 2, 0]⟩] 9 (0, 0)) := by rw [hW7]; refine alloc_old ?_; rw [hW6, ← z5]; exact heap_alloc_new W5 _
  have hK4 : W7.heap[w4.heap.size + 1 + 1]? = some (.cells #[.int .i64 2, .int .i64 2, .int .i64 2, .int .i64 4, .int .i64 4, .int .i64 9, .int .i64 8, .int .i64 5, .int .i64 6, .int .i64 4] 28 (0, 0)) := by rw [hW7, ← z6]; exact heap_alloc_new W6 _
  have hs47 : Step [] id id w4 W7 := by rw [hW7, hW6, hW5]; exact ((Step.alloc _).tail (Step.alloc _)).tail (Step.alloc _)
  rw [← hW5, ← hW6, ← hW7]
  have hs07 := Lib.hid (hs04.out.tail hs47)
  have hK3H := Lib.hid hK3
  have hK4H := Lib.hid hK4
  clear hW5 hW6 hW7 z5 z6 hK3 hK4 hs47 hq0 hq3
  go_loopw [5] (fun i wr => ∃ j : Nat, i = .int .i64 j ∧ j ≤ 10 ∧ Step [] id id W7 wr) (fun i _ => 10 - (intOf i).toNat)
  case atStart => exact ⟨0, rfl, by omega, Step.refl _ _ _⟩
  case round =>
    obtain ⟨j, rfl, hj, hst⟩ := hrel
    by_cases hjl : j < 10
    · have hjl1 : (j : Int) < 10 := by omega
      have hj0 : (0 : Int) ≤ (j : Int) := by omega
      obtain ⟨hb, he, hdj, hvj⟩ := bad_get hjl
      obtain ⟨sj, hsj⟩ : ∃ sj, sj = badB[j]'hb := ⟨_, rfl⟩
      obtain ⟨ej, hej⟩ : ∃ ej, ej = badE[j]'he := ⟨_, rfl⟩
      have hc3 : wr.cell? ⟨w4.heap.size + 1, j, none⟩ = some (.string (strOf sj)) := by
        refine cell_blk (hst.at hK3H.out (by simp)) ?_
        have h1 : (#[.string ⟨#[]⟩, .string ⟨#[5, 0, 0]⟩, .string ⟨#[5, 0, 0, 0, 1]⟩, .string ⟨#[6, 0, 0, 0, 0]⟩, .string ⟨#[4, 0, 0, 0]⟩, .string ⟨#[8, 0, 0, 0, 153, 97, 0, 0]⟩, .string ⟨#[16, 0, 0, 0, 1, 97, 0, 0, 0, 0, 0, 0, 0, 0, 0, 0]⟩, .string ⟨#[8, 0, 0, 0, 10, 255, 0, 0]⟩, .string ⟨#[11, 0, 0, 0, 10, 97, 0, 10, 97, 0, 0]⟩, .string ⟨#[9, 0, 0, 0, 8, 97, 0, 2, 0]⟩] : Array Value) = (badB.map fun l => Value.string (strOf l)).toArray := rfl
        rw [h1, List.getElem?_toArray, List.getElem?_map, List.getElem?_eq_getElem hb, hsj]; rfl
      have hc4 : wr.cell? ⟨w4.heap.size + 1 + 1, j, none⟩ = some (.int .i64 ej) := by
        refine cell_blk (hst.at hK4H.out (by simp)) ?_
        have h1 : (#[.int .i64 2, .int .i64 2, .int .i64 2, .int .i64 4, .int .i64 4, .int .i64 9, .int .i64 8, .int .i64 5, .int .i64 6, .int .i64 4] : Array Value) = (badE.map fun e => Value.int .i64 e).toArray := rfl
        rw [h1, List.getElem?_toArray, List.getElem?_map, List.getElem?_eq_getElem he, hej]; rfl
      have hsl : sj.length ≤ 100 := by
        have h1 : ∀ l ∈ badB, l.length ≤ 100 := by decide
        rw [hsj]; exact h1 _ (List.getElem_mem hb)
      have hK4lt : w4.heap.size + 1 + 1 < wr.heap.size := World.block_lt_of_cell? wr _ hc4
      rw [← hsj, ← hej] at hdj
      rw [← hsj] at hvj
      obtain ⟨cap, W8, hcv, hs8, hin8, hcap8⟩ := bs_bytes2 sj wr
      have hdec := bs_decode hin8.lowB (by omega) (((htH.out.step hs07.out).step hst).step hs8)
      have hdec2 : Calls Tryd.prog 11 #[.slice (some ⟨wr.heap.size, 0, none⟩) sj.length cap] W8 fun e w' => Step [] id id W8 w' ∧ ∃ cs : List Value, e = .returned (.tuple #[.agg cs.toArray, .int .i64 ej]) ∧ ∃ s0 ba bn bc fa fn fc la ln lc, cs = [.int .i64 0, .int .i64 0, .string s0, .slice ba bn bc, .slice fa fn fc, .slice la ln lc] := hdec.mono (fun e w' h => by
        obtain ⟨h1, cs, h2, h3⟩ := h
        rw [hdj] at h2
        rw [hvj] at h3
        obtain ⟨s0, ba, bn, bc, fa, fn, fc, la, ln, lc, h4, -⟩ := h3.six
        exact ⟨h1, cs, h2, s0, ba, bn, bc, fa, fn, fc, la, ln, lc, h4⟩)
      have hdecH := Lib.hid hdec2
      have hs8H := Lib.hid hs8
      have hstH := Lib.hid hst
      have hwrap : IntKind.i64.wrap ((j : Int) + 1) = (j : Int) + 1 := IntWalk.i64_in _ (by omega)
      clear hdec hdec2 hin8 hs8 hst hdj hvj hsj hej
      go_wp2_with (go_at_call 11; refine hdecH.out.mono ?_; rintro e w9 ⟨hs9, cs, rfl, s0, ba2, bn2, bc2, fa2, fn2, fc2, la2, ln2, lc2, rfl⟩; have hc49 : w9.cell? ⟨w4.heap.size + 1 + 1, j, none⟩ = some (.int .i64 ej) := (by rw [cell_of_blk_eq ((hs8H.out.tail hs9).keep _ hK4lt (by simp)).2]; exact hc4); have hlt9 : w4.heap.size + 1 + 1 < w9.heap.size := Nat.lt_of_lt_of_le hK4lt (hs8H.out.tail hs9).size; have hs9H := Lib.hid hs9; clear hs9)
      go_roundw
      case rel => exact ⟨j + 1, rfl, by omega, ((hstH.out.tail hs8H.out).tail hs9H.out).tail (Step.alloc _)⟩
      case measure => simp [intOf]; omega
    · have hjl1 : ¬ (j : Int) < 10 := by omega
      have hst2 := Lib.hid hst
      have htr := Lib.hid ((htH.out.step hs07.out).step hst)
      obtain ⟨N, hN⟩ : ∃ N : Nat, N = 65537 := ⟨_, rfl⟩
      have hNi : ((65537 : Int)) = (N : Int) := by rw [hN]; rfl
      have hNH := Lib.hid hN
      have hNiH := Lib.hid hNi
      clear hst hN hNi
      go_wp2_with (first | (at_make; refine wpList_make_bytes rfl _ _ rfl N (by show Value.int .i64 65537 = _; rw [hNiH.out]) (by show Value.int .i64 65537 = _; rw [hNiH.out]) (by rw [hNH.out]; omega) ?_; intro hblk; obtain ⟨W8, hW8⟩ : ∃ W8, W8 = wr.alloc (.cells (byteVals (List.replicate N 0)).toArray 5) := ⟨_, rfl⟩; rw [← hW8] at hblk ⊢; have hs8 := Lib.hid (show Step [] id id wr W8 by rw [hW8]; exact Step.alloc _); have hblkH := Lib.hid hblk; clear hblk hW8) | (go_at_call 11; refine (long_dec N hNH.out hblkH.out (htr.out.step hs8.out)).mono ?_; rintro e w9 ⟨hs9, s0, ba2, bn2, bc2, fa2, fn2, fc2, la2, ln2, lc2, rfl⟩; have hs9H := Lib.hid hs9; clear hs9))
      go_ret
      exact ⟨rfl, ((((hs07.out.tail hst2.out).tail hs8.out).tail hs9H.out).tail (Step.alloc _))⟩
end Go.Proofs.YtbkmnhogfegmcaaDoor
