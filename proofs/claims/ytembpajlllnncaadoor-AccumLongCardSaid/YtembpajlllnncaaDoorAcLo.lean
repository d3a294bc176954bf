/- The law AccumLong, walked. -/
import Derived.Test.YtembpajlllnncaaDoorAcLp
import Derived.OwnWalk
set_option linter.unusedVariables false
set_option linter.unusedSimpArgs false
namespace Go.Proofs.YtembpajlllnncaaDoor
open Go.RowKit

theorem wpList_make_bytes {w : World} {ops : Array Oper} {rest : List Oper} {o : Oper} {a : Act} {Q : Exit → Act → World → Prop}
    (hg : o.guard = none) (l c : Operand) (hop : o.op = Op.makeSlice 26 l c) (n : Nat) (hl : a.eval l = .int .i64 n) (hc : a.eval c = .int .i64 n) (hn : n ≤ 1000000000)
    (hK : Blk (w.alloc (.cells (byteVals (List.replicate n 0)).toArray 5)) w.heap.size (List.replicate n 0) → wpList Tryd.prog ops Q rest (a.put o.dst (.slice (some ⟨w.heap.size, 0, none⟩) n n)) (w.alloc (.cells (byteVals (List.replicate n 0)).toArray 5))) :
    wpList Tryd.prog ops Q (o :: rest) a w := by
  obtain ⟨i0, hi, hz0, hz1, hz2⟩ := info_split info_u8
  refine wpList_plain hg fun K hK' => ?_
  have hrun := run_make (P := Tryd.prog) w 26 5 i0 (.int .u8 0) Tryd.underlying26 hi hz0 .i64 .i64 n n (by omega) (Int.le_refl _) (by rw [hz2]; omega) (by omega)
  rw [hz1, Nat.mul_one, Int.toNat_natCast] at hrun
  have hm : madeCells (Value.int .u8 0).cells n = (byteVals (List.replicate n 0)).toArray := by
    apply Array.ext'
    rw [show (Value.int .u8 0).cells = #[.int .u8 0] from rfl, toList_madeCells_one]
    simp [byteVals]
  rw [hm] at hrun
  unfold Oper.wp
  simp [execOp, hop, hl, hc, hrun, Result.andThen]
  exact hK' _ _ (hK (heap_alloc_new w _))
/-- append([]byte{}, b...): bytes of their own. -/
theorem wpList_app_bytes {P : Nat → Prop} {w : World} {ops : Array Oper} {rest : List Oper} {o : Oper} {a : Act} {Q : Exit → Act → World → Prop} {E m : Nat} {v : Value} {bs : Bs} (hgd : o.guard = none) (s x : Operand)
    (ho : o.op = .call { callee := .builtin .append, args := #[s, x], argTypes := #[26, 26] }) (hE : Row w (.slice (some ⟨E, 0, none⟩) 0 0) []) (hs : a.eval s = .slice (some ⟨E, 0, none⟩) 0 0) (hx : a.eval x = v) (hb : BIn P w v bs) (hlen : bs.length = m) (hm : 0 < m ∧ m ≤ 1000000)
    (h : ∀ g c' w', BIn (fun k => k = g) w' (.slice (some ⟨g, 0, none⟩) m c') bs → w.grownBy w' (some E) → (g = E ∨ g = w.heap.size) → wpList Tryd.prog ops Q rest (a.put o.dst (.slice (some ⟨g, 0, none⟩) m c')) w') :
    wpList Tryd.prog ops Q (o :: rest) a w := by
  obtain ⟨i0, hi, hz0, hz1, hz2⟩ := info_split info_u8
  have hsrc := hb.src
  rw [hlen] at hsrc
  refine wpList_app hgd s x 26 ho 5 i0 _ 1 1 Tryd.underlying26 hi hz0 hz1 hz2 rfl (by decide) (.slice (some ⟨E, 0, none⟩) 0 0) 0 [] hs hE v m (byteVals bs) hx hsrc (byteVals_one _) (by omega) (by omega) ?_
  intro ad' c' w' hown hg hnil hat
  rw [Nat.zero_add, List.nil_append] at hown
  rw [Nat.zero_add] at hat ⊢
  obtain ⟨g, rfl, hc⟩ : ∃ g, ad' = some ⟨g, 0, none⟩ ∧ m ≤ c' := by
    rcases hown.2 with ⟨e, h0⟩ | ⟨g, cap, cur, e, hb, hgg, rest⟩
    · omega
    · injection e with e1 e2 e3
      subst e3
      exact ⟨g, e1, rest.1⟩
  refine h g c' w' (.inr ⟨g, 0, c', by rw [hlen], by rw [hlen]; exact hc, rfl, fun j hj => ?_⟩) hg ?_
  · have h8 := World.ownsRow.cells hown (g := g) rfl j (.int .u8 (bs[j].toNat : Int)) (byteVals_get hj)
    rw [addr_add] at h8
    exact h8
  · rcases hat with h1 | h1
    · left; injection h1
    · right; injection h1
theorem AccAt.drop {w0 w : World} {N : List Nat} {S : Nat} {K : Int} {st : ASt} (h : AccAt w0 w N S K st) : AccAt w0 w [] S K st := by
  obtain ⟨h1, h2, h3, row, hA⟩ := h
  exact ⟨h1, by simp, by simp, row, hA.weak (fun k hk _ => ⟨hk.1, by simp⟩)⟩
theorem AccAt.lt {w0 w : World} {N : List Nat} {S : Nat} {K : Int} {st : ASt} (h : AccAt w0 w N S K st) : S < w.heap.size := by
  obtain ⟨h1, h2, h3, row, hA⟩ := h
  exact hA.lt.1
/-- What a state has come to, in so many rounds. -/
def LongS (m i mc : Nat) (st : ASt) (l : List Val) : Prop :=
  st.v = listV l ∧ st.many ≤ mc ∧ 5 ≤ st.size ∧ st.size ≤ 65536 ∧ l.length ≤ mc ∧ weightLs l ≤ l.length * 70000 ∧ ∀ y ∈ l, ∃ q, q < i ∧ y = bytesV (bsOf m q)
section
variable {m i i2 mc mc2 : Nat} {st : ASt} {l : List Val}
theorem LongS.mono (h : LongS m i mc st l) (hi : i ≤ i2) (hm : mc ≤ mc2) : LongS m i2 mc2 st l := by
  obtain ⟨h1, h2, h3, h4, h5, h6, h7⟩ := h
  exact ⟨h1, by omega, h3, h4, by omega, h6, fun y hy => by obtain ⟨q, hq, e⟩ := h7 y hy; exact ⟨q, by omega, e⟩⟩
theorem LongS.more (h : LongS m i mc st l) : LongS m i (mc + 1) { st with many := st.many + 1 } l := by
  obtain ⟨h1, h2, h3, h4, h5, h6, h7⟩ := h
  exact ⟨h1, by simp; omega, h3, h4, by omega, h6, h7⟩
theorem LongS.push {q : Nat} (h : LongS m i mc st l) (hq : q < i) (hm : 2 ≤ m ∧ m ≤ 66535) (hf : st.size + 7 + (moreB m l.length : Int) ≤ 65536) :
    LongS m i (mc + 1) ⟨st.many + 1, listV (l ++ [bytesV (bsOf m q)]), st.size + (moreB m l.length : Int)⟩ (l ++ [bytesV (bsOf m q)]) := by
  obtain ⟨h1, h2, h3, h4, h5, h6, h7⟩ := h
  refine ⟨rfl, by simp; omega, by simp; omega, by simp; omega, by simp; omega, ?_, fun y hy => ?_⟩
  · rw [weightLs_append]
    simp only [weightLs, bytesV, weightV, weightFs, List.length_append, List.length_cons, List.length_nil, bsOf_len hm.1]
    omega
  · rcases List.mem_append.1 hy with hy | hy
    · exact h7 y hy
    · exact ⟨q, hq, by simpa using hy⟩
theorem LongS.weight (h : LongS m i mc st l) (hmc : mc ≤ 100) : weightV st.v ≤ 100000000 := by
  obtain ⟨h1, h2, h3, h4, h5, h6, h7⟩ := h
  rw [h1, listV, weightV]
  simp only [weightFs, List.length_nil]
  omega
/-- Bytes come to a list. -/
theorem LongS.add6 {b : Bs} (h : LongS m i mc st l) (hmc : mc < 100) :
    addA 6 st (bytesV b) = if st.size + 7 + (moreB b.length l.length : Int) ≤ 65536 then (0, ⟨st.many + 1, listV (l ++ [bytesV b]), st.size + (moreB b.length l.length : Int)⟩) else (3, st) := by
  obtain ⟨h1, h2, h3, h4, h5, h6, h7⟩ := h
  have hp := push_bytes (b := b) h1 (by omega) h3
  have hs : stepA 6 st (bytesV b) = pushA st (bytesV b) := by
    unfold stepA; rw [if_neg (by decide), if_neg (by decide), if_neg (by decide), if_neg (by decide), if_neg (by decide), if_pos rfl]
  unfold addA
  rw [hs, hp]
  by_cases hf : st.size + 7 + (moreB b.length l.length : Int) ≤ 65536
  · rw [if_pos hf, if_pos hf]; rfl
  · rw [if_neg hf, if_neg hf]; rfl
end
theorem set_bs {m i : Nat} (hm : 2 ≤ m) : ((List.replicate m (0 : UInt8)).set 0 (UInt8.ofNat i)).set 1 1 = bsOf m i := by
  obtain ⟨k, rfl⟩ : ∃ k, m = k + 2 := ⟨m - 2, by omega⟩
  simp [bsOf, List.replicate_succ]
/-- What holds between two rounds. -/
def LongI (w0 : World) (S : Nat) (K : Int) (m i : Nat) (st : ASt) (l : List Val) (w : World) : Prop :=
  AccAt w0 w [] S K st ∧ LongS m i (2 * i) st l ∧ Step [] id id w0 w
set_option maxRecDepth 100000 in
set_option maxHeartbeats 8000000 in
theorem law_long_push (w : World) (sz many : Nat) (hsz : sz < 65536) (hmany : many < 256) (ht : Tw w) : Calls Tryd.prog 3 #[.int .u16 sz, .int .u8 many, .bool false] w fun e w' => e = .returned (.bool true) ∧ Step [] id id w w' := by
  have htH := Lib.hid ht
  obtain ⟨m, hm⟩ : ∃ m, m = 1000 + sz := ⟨_, rfl⟩
  obtain ⟨R, hR⟩ : ∃ R, R = 2 + many % 20 := ⟨_, rfl⟩
  have hmr : 1000 ≤ m ∧ m ≤ 66535 := by omega
  have hRr : 2 ≤ R ∧ R ≤ 21 := by omega
  clear ht
  go_enter Tryd.func3, Tryd.ntmps3
  go_wp2_with (first | (go_at_call 6; refine (ac_awake w htH.out).mono ?_; rintro e w1 ⟨rfl, hs1⟩; have hs1H := Lib.hid hs1; clear hs1) | (go_at_call 7; refine (new_at (K := 6) (N := []) (by omega) htH.out hs1H.out (by simp)).mono ?_; rintro e w2 ⟨S, rfl, hSz, hA2, hs2⟩; have hA2H := Lib.hid hA2; have hs2H := Lib.hid (hs1H.out.tail hs2); clear hA2 hs2))
  go_loopw [9, 10, 11] (fun nv kv iv wr => ∃ (i : Nat) (st : ASt) (l : List Val), nv = .int .i64 l.length ∧ kv = .int .i64 (st.size + 7) ∧ iv = .int .i64 i ∧ i ≤ R ∧ LongI w S 6 m i st l wr) (fun _ _ iv _ => R - (intOf iv).toNat)
  case atStart =>
    exact ⟨0, startA 6, [], rfl, rfl, rfl, by omega, hA2H.out, ⟨rfl, by decide, by decide, by decide, by simp, by simp [weightLs], by simp⟩, hs2H.out⟩
  case round =>
    obtain ⟨i, st, l, rfl, rfl, rfl, hi, hI⟩ := hrel
    have hmm : (1000 : Int) + (sz : Int) = (m : Int) := by omega
    by_cases hiR : i < R
    · have hdec : (i : Int) < 2 + (many : Int) % 20 := by omega
      have hwi : IntKind.i64.wrap ((i : Int) + 1) = (i : Int) + 1 := IntWalk.i64_in _ (by omega)
      have hIH := Lib.hid hI
      have hRH := Lib.hid hR
      have hmH := Lib.hid hm
      clear hI hR hm
      by_cases h10 : l.length ≥ 10
      · have h10i : (10 : Int) ≤ (l.length : Int) := by omega
        go_wp2_with (at_make; refine wpList_make_bytes rfl _ _ rfl m (by first | rfl | (show Value.int .i64 (1000 + (sz : Int)) = _; rw [hmm])) (by first | rfl | (show Value.int .i64 (1000 + (sz : Int)) = _; rw [hmm])) (by omega) ?_; intro hblk; obtain ⟨W3, hW3⟩ : ∃ W3, W3 = wr.alloc (.cells (byteVals (List.replicate m 0)).toArray 5) := ⟨_, rfl⟩; rw [← hW3] at hblk ⊢; have hs3 := Lib.hid (show Step [] id id wr W3 by rw [hW3]; exact Step.alloc _); have hbl3 := Lib.hid hblk; have q0 := hblk.cell (i := 0) (by simp; omega); have q1 := hblk.cell (i := 1) (by simp; omega); have fz := fun k => hblk.free k; have hlt3 := hblk.lt; clear hW3 hblk)
        have hIr := hIH.out
        obtain ⟨hAr, hLr, hsr⟩ := hIr
        have hLrH := Lib.hid hLr
        have hst5 : 5 ≤ st.size ∧ st.size ≤ 65536 := ⟨hLr.2.2.1, hLr.2.2.2.1⟩
        have hln : l.length ≤ 2 * i := hLr.2.2.2.2.1
        obtain ⟨W5, hW5⟩ : ∃ W5, W5 = (W3.setCell ⟨wr.heap.size, 0, none⟩ (.int .u8 i)).setCell ⟨wr.heap.size, 1, none⟩ (.int .u8 1) := ⟨_, rfl⟩
        rw [← hW5]
        have hb5 : Blk W5 wr.heap.size (bsOf m i) := by
          have h1 := hbl3.out.set 0 (UInt8.ofNat i)
          have h2 := h1.set 1 1
          rw [set_bs (by omega), show (((UInt8.ofNat i).toNat : Nat) : Int) = i by simp; omega] at h2
          rw [hW5]; exact h2
        have hs35 : Step [wr.heap.size] id id W3 W5 := by rw [hW5]; exact (Step.set _ _ (by simp)).tail (Step.set _ _ (by simp))
        have hs5 := Lib.hid (hs3.out.tailNew hs35 (by simp))
        have hA5 := hAr.other hs5.out (Nat.le_refl _) hb5.lt
        have hbin : ∀ W, W.heap[wr.heap.size]? = some (.cells (byteVals (bsOf m i)).toArray 5 (0, 0)) → BIn (fun k => k = wr.heap.size) W (.slice (some ⟨wr.heap.size, 0, none⟩) m m) (bsOf m i) := fun W hB =>
          .inr ⟨wr.heap.size, 0, m, by rw [bsOf_len (by omega)], by rw [bsOf_len (by omega)]; exact Nat.le_refl _, rfl, fun j hj => by rw [Nat.zero_add]; exact Blk.cell hB hj⟩
        have hSB : S < wr.heap.size := hAr.lt
        obtain ⟨M, hM⟩ : ∃ M : Nat, M = moreB m l.length := ⟨_, rfl⟩
        have hbinH := Lib.hid hbin
        have hb5H := Lib.hid hb5
        have hsrH := Lib.hid hsr
        have hMm : M ≤ m + 9 := by rw [hM]; unfold moreB; split <;> omega
        have hwk : IntKind.i64.wrap (st.size + 7 + (M : Int)) = st.size + 7 + (M : Int) := IntWalk.i64_in _ (by omega)
        have hadd := add_at (K := 6) (Q := fun k => k = wr.heap.size) (x := bytesV (bsOf m i)) (by omega) htH.out (hsr.tail hs5.out) hA5 (by have := hLr.2.1; omega) (VIs.bytes (k := 8) (by omega) (hbin W5 hb5) (by rw [bsOf_len (by omega)]; omega)) (fun k hk => by omega) (by simp only [bytesV, weightV, weightFs, weightLs, bsOf_len (show 2 ≤ m by omega), List.length_nil]; omega) (fun h => by omega) (fun h => by omega)
        have h9 : (9 : Int) + (m : Int) = (M : Int) := by rw [hM]; unfold moreB; rw [if_pos h10]; push_cast; omega
        by_cases hfit : st.size + 7 + (M : Int) ≤ 65536
        · have h10j : (10 : Int) ≤ (l.length : Int) + 1 := by omega
          have hres := LongS.add6 (b := bsOf m i) hLr (by omega)
          rw [bsOf_len (by omega), ← hM] at hres
          have hMH := Lib.hid hM
          rw [if_pos hfit] at hres
          rw [hres] at hadd
          have hL7 := (hLr.mono (Nat.le_succ i) (Nat.le_refl _)).push (q := i) (by omega) (by omega) (by rw [← hM]; exact hfit)
          rw [← hM] at hL7
          have hL7 := Lib.hid hL7
          have hwn : IntKind.i64.wrap ((l.length : Int) + 1) = (l.length : Int) + 1 := IntWalk.i64_in _ (by omega)
          have haddH := Lib.hid hadd
          clear hadd hres hLr hAr hsr hA5 hb5 hs35 hbin hM hW5 q0 q1 fz hlt3 hs3 hbl3
          refine haddH.out.mono ?_
          rintro e w7 ⟨rfl, hA7, hs7⟩
          have hB7 := hs7.at hb5H.out (.inr (by simp))
          have hs7r := (hsrH.out.tail hs5.out)
          have hA7H := Lib.hid hA7.drop
          have hs7H := Lib.hid (hs7.all hs7r)
          have hB7H := Lib.hid hB7
          clear hA7 hs7 hB7 hs7r
          have hM2 : moreB m (l ++ [bytesV (bsOf m i)]).length = M := (by rw [hMH.out]; unfold moreB; rw [if_pos (by simp; omega), if_pos h10])
          have hres2 := LongS.add6 (b := bsOf m i) hL7.out (by omega)
          rw [bsOf_len (by omega), hM2] at hres2
          have hres2H := Lib.hid hres2
          have hM2H := Lib.hid hM2
          clear hres2 hM2
          have hwk2 : IntKind.i64.wrap (st.size + 7 + (M : Int) + (M : Int)) = st.size + 7 + (M : Int) + (M : Int) := IntWalk.i64_in _ (by omega)
          have hwn2 : IntKind.i64.wrap ((l.length : Int) + 1 + 1) = (l.length : Int) + 1 + 1 := IntWalk.i64_in _ (by omega)
          go_wp2_with (at_builtin; refine wpList_app_bytes rfl _ _ rfl (E := w7.heap.size) (m := m) (bs := bsOf m i) (row_made0 w7 rfl) rfl rfl (hbinH.out _ (alloc_old hB7H.out)) (bsOf_len (by omega)) (by omega) ?_; intro g2 c2 w9 hb9 hg9 hg29; have hs79 := Lib.hid (Step.tailNew (T2 := [w7.heap.size]) (Step.alloc (T := []) (g := id) (w := w7) (.cells #[] 5)) (.grown hg9 (fun k hk => by cases hk; simp)) (by simp)); have hz9 : w7.heap.size ≤ g2 := (by rcases hg29 with h | h; omega; simp at h; omega); have hb9H := Lib.hid hb9; clear hb9 hg9 hg29)
          have hlt7 := hA7H.out.lt
          have hadd2 := add_at (K := 6) (Q := fun k => k = g2) (x := bytesV (bsOf m i)) (by omega) htH.out (hs7H.out.tail hs79.out) (hA7H.out.step hs79.out) (Nat.le_trans hL7.out.2.1 (by omega)) (VIs.bytes (k := 8) (by omega) hb9H.out (by rw [bsOf_len (by omega)]; omega)) (fun k hk => by omega) (by simp only [bytesV, weightV, weightFs, weightLs, bsOf_len (show 2 ≤ m by omega), List.length_nil]; omega) (fun h => by omega) (fun h => by omega)
          by_cases hfit2 : st.size + 7 + (M : Int) + (M : Int) ≤ 65536
          · have hf2 : st.size + (M : Int) + 7 + (M : Int) ≤ 65536 := by omega
            have hr := hres2H.out
            rw [if_pos hf2] at hr
            rw [hr] at hadd2
            have hL10 := Lib.hid (hL7.out.push (q := i) (by omega) (by omega) (by rw [hM2H.out]; exact hf2))
            have hadd2H := Lib.hid hadd2
            clear hadd2 hr
            refine hadd2H.out.mono ?_
            rintro e w10 ⟨rfl, hA10, hs10⟩
            have hA10H := Lib.hid hA10.drop
            have hs10H := Lib.hid (hs10.all (hs7H.out.tail hs79.out))
            clear hA10 hs10
            go_wp2_with fail
            go_roundw
            case rel =>
              refine ⟨i + 1, _, l ++ [bytesV (bsOf m i)] ++ [bytesV (bsOf m i)], ?_, ?_, by go_num, by omega, hA10H.out, ?_, hs10H.out⟩
              rotate_left 2
              · have h := hL10.out.mono (i2 := i + 1) (mc2 := 2 * (i + 1)) (by omega) (by omega)
                rw [hM2H.out] at h
                exact h
              · first | (simp; done) | (simp; omega)
              · simp; omega
            case measure => simp [intOf]; omega
          · have hf2 : ¬ st.size + (M : Int) + 7 + (M : Int) ≤ 65536 := by omega
            have hr := hres2H.out
            rw [if_neg hf2] at hr
            rw [hr] at hadd2
            have hadd2H := Lib.hid hadd2
            clear hadd2 hr
            refine hadd2H.out.mono ?_
            rintro e w10 ⟨rfl, hA10, hs10⟩
            have hA10H := Lib.hid hA10.drop
            have hs10H := Lib.hid (hs10.all (hs7H.out.tail hs79.out))
            clear hA10 hs10
            go_wp2_with fail
            go_roundw
            case rel =>
              refine ⟨i + 1, _, l ++ [bytesV (bsOf m i)], ?_, ?_, by go_num, by omega, hA10H.out, hL7.out.mono (i2 := i + 1) (mc2 := 2 * (i + 1)) (by omega) (by omega), hs10H.out⟩
              · first | (simp; done) | (simp; omega)
              · simp; omega
            case measure => simp [intOf]; omega
        · have hres := LongS.add6 (b := bsOf m i) hLr (by omega)
          rw [bsOf_len (by omega), ← hM] at hres
          have hMH := Lib.hid hM
          rw [if_neg hfit] at hres
          rw [hres] at hadd
          have hres2H := Lib.hid hres
          have hL7 := Lib.hid (hLr.mono (Nat.le_succ i) (Nat.le_refl (2 * i)))
          have haddH := Lib.hid hadd
          clear hadd hres hLr hAr hsr hA5 hb5 hs35 hbin hM hW5 q0 q1 fz hlt3 hs3 hbl3
          refine haddH.out.mono ?_
          rintro e w7 ⟨rfl, hA7, hs7⟩
          have hB7 := hs7.at hb5H.out (.inr (by simp))
          have hs7r := (hsrH.out.tail hs5.out)
          have hA7H := Lib.hid hA7.drop
          have hs7H := Lib.hid (hs7.all hs7r)
          have hB7H := Lib.hid hB7
          clear hA7 hs7 hB7 hs7r
          go_wp2_with (at_builtin; refine wpList_app_bytes rfl _ _ rfl (E := w7.heap.size) (m := m) (bs := bsOf m i) (row_made0 w7 rfl) rfl rfl (hbinH.out _ (alloc_old hB7H.out)) (bsOf_len (by omega)) (by omega) ?_; intro g2 c2 w9 hb9 hg9 hg29; have hs79 := Lib.hid (Step.tailNew (T2 := [w7.heap.size]) (Step.alloc (T := []) (g := id) (w := w7) (.cells #[] 5)) (.grown hg9 (fun k hk => by cases hk; simp)) (by simp)); have hz9 : w7.heap.size ≤ g2 := (by rcases hg29 with h | h; omega; simp at h; omega); have hb9H := Lib.hid hb9; clear hb9 hg9 hg29)
          have hlt7 := hA7H.out.lt
          have hadd2 := add_at (K := 6) (Q := fun k => k = g2) (x := bytesV (bsOf m i)) (by omega) htH.out (hs7H.out.tail hs79.out) (hA7H.out.step hs79.out) (Nat.le_trans hL7.out.2.1 (by omega)) (VIs.bytes (k := 8) (by omega) hb9H.out (by rw [bsOf_len (by omega)]; omega)) (fun k hk => by omega) (by simp only [bytesV, weightV, weightFs, weightLs, bsOf_len (show 2 ≤ m by omega), List.length_nil]; omega) (fun h => by omega) (fun h => by omega)
          have hr := hres2H.out
          rw [hr] at hadd2
          have hadd2H := Lib.hid hadd2
          clear hadd2 hr
          refine hadd2H.out.mono ?_
          rintro e w10 ⟨rfl, hA10, hs10⟩
          have hA10H := Lib.hid hA10.drop
          have hs10H := Lib.hid (hs10.all (hs7H.out.tail hs79.out))
          clear hA10 hs10
          go_wp2_with fail
          go_roundw
          case rel => exact ⟨i + 1, _, l, rfl, rfl, by go_num, by omega, hA10H.out, hL7.out.mono (i2 := i + 1) (mc2 := 2 * (i + 1)) (by omega) (by omega), hs10H.out⟩
          case measure => simp [intOf]; omega
      · have h10i : ¬ (10 : Int) ≤ (l.length : Int) := by omega
        go_wp2_with (at_make; refine wpList_make_bytes rfl _ _ rfl m (by first | rfl | (show Value.int .i64 (1000 + (sz : Int)) = _; rw [hmm])) (by first | rfl | (show Value.int .i64 (1000 + (sz : Int)) = _; rw [hmm])) (by omega) ?_; intro hblk; obtain ⟨W3, hW3⟩ : ∃ W3, W3 = wr.alloc (.cells (byteVals (List.replicate m 0)).toArray 5) := ⟨_, rfl⟩; rw [← hW3] at hblk ⊢; have hs3 := Lib.hid (show Step [] id id wr W3 by rw [hW3]; exact Step.alloc _); have hbl3 := Lib.hid hblk; have q0 := hblk.cell (i := 0) (by simp; omega); have q1 := hblk.cell (i := 1) (by simp; omega); have fz := fun k => hblk.free k; have hlt3 := hblk.lt; clear hW3 hblk)
        have hIr := hIH.out
        obtain ⟨hAr, hLr, hsr⟩ := hIr
        have hLrH := Lib.hid hLr
        have hst5 : 5 ≤ st.size ∧ st.size ≤ 65536 := ⟨hLr.2.2.1, hLr.2.2.2.1⟩
        have hln : l.length ≤ 2 * i := hLr.2.2.2.2.1
        obtain ⟨W5, hW5⟩ : ∃ W5, W5 = (W3.setCell ⟨wr.heap.size, 0, none⟩ (.int .u8 i)).setCell ⟨wr.heap.size, 1, none⟩ (.int .u8 1) := ⟨_, rfl⟩
        rw [← hW5]
        have hb5 : Blk W5 wr.heap.size (bsOf m i) := by
          have h1 := hbl3.out.set 0 (UInt8.ofNat i)
          have h2 := h1.set 1 1
          rw [set_bs (by omega), show (((UInt8.ofNat i).toNat : Nat) : Int) = i by simp; omega] at h2
          rw [hW5]; exact h2
        have hs35 : Step [wr.heap.size] id id W3 W5 := by rw [hW5]; exact (Step.set _ _ (by simp)).tail (Step.set _ _ (by simp))
        have hs5 := Lib.hid (hs3.out.tailNew hs35 (by simp))
        have hA5 := hAr.other hs5.out (Nat.le_refl _) hb5.lt
        have hbin : ∀ W, W.heap[wr.heap.size]? = some (.cells (byteVals (bsOf m i)).toArray 5 (0, 0)) → BIn (fun k => k = wr.heap.size) W (.slice (some ⟨wr.heap.size, 0, none⟩) m m) (bsOf m i) := fun W hB =>
          .inr ⟨wr.heap.size, 0, m, by rw [bsOf_len (by omega)], by rw [bsOf_len (by omega)]; exact Nat.le_refl _, rfl, fun j hj => by rw [Nat.zero_add]; exact Blk.cell hB hj⟩
        have hSB : S < wr.heap.size := hAr.lt
        obtain ⟨M, hM⟩ : ∃ M : Nat, M = moreB m l.length := ⟨_, rfl⟩
        have hbinH := Lib.hid hbin
        have hb5H := Lib.hid hb5
        have hsrH := Lib.hid hsr
        have hMm : M ≤ m + 9 := by rw [hM]; unfold moreB; split <;> omega
        have hwk : IntKind.i64.wrap (st.size + 7 + (M : Int)) = st.size + 7 + (M : Int) := IntWalk.i64_in _ (by omega)
        have hadd := add_at (K := 6) (Q := fun k => k = wr.heap.size) (x := bytesV (bsOf m i)) (by omega) htH.out (hsr.tail hs5.out) hA5 (by have := hLr.2.1; omega) (VIs.bytes (k := 8) (by omega) (hbin W5 hb5) (by rw [bsOf_len (by omega)]; omega)) (fun k hk => by omega) (by simp only [bytesV, weightV, weightFs, weightLs, bsOf_len (show 2 ≤ m by omega), List.length_nil]; omega) (fun h => by omega) (fun h => by omega)
        have h8 : (8 : Int) + (m : Int) = (M : Int) := by rw [hM]; unfold moreB; rw [if_neg h10]; push_cast; omega
        by_cases hfit : st.size + 7 + (M : Int) ≤ 65536
        · by_cases h10k : l.length + 1 ≥ 10
          · have h10j : (10 : Int) ≤ (l.length : Int) + 1 := by omega
            obtain ⟨M2, hM2e⟩ : ∃ M2, M2 = M + 1 := ⟨_, rfl⟩
            have h9 : (9 : Int) + (m : Int) = (M2 : Int) := by omega
            have hM2r : M2 ≤ m + 9 := by omega
            have hM2eH := Lib.hid hM2e
            clear hM2e
            have hres := LongS.add6 (b := bsOf m i) hLr (by omega)
            rw [bsOf_len (by omega), ← hM] at hres
            have hMH := Lib.hid hM
            rw [if_pos hfit] at hres
            rw [hres] at hadd
            have hL7 := (hLr.mono (Nat.le_succ i) (Nat.le_refl _)).push (q := i) (by omega) (by omega) (by rw [← hM]; exact hfit)
            rw [← hM] at hL7
            have hL7 := Lib.hid hL7
            have hwn : IntKind.i64.wrap ((l.length : Int) + 1) = (l.length : Int) + 1 := IntWalk.i64_in _ (by omega)
            have haddH := Lib.hid hadd
            clear hadd hres hLr hAr hsr hA5 hb5 hs35 hbin hM hW5 q0 q1 fz hlt3 hs3 hbl3
            refine haddH.out.mono ?_
            rintro e w7 ⟨rfl, hA7, hs7⟩
            have hB7 := hs7.at hb5H.out (.inr (by simp))
            have hs7r := (hsrH.out.tail hs5.out)
            have hA7H := Lib.hid hA7.drop
            have hs7H := Lib.hid (hs7.all hs7r)
            have hB7H := Lib.hid hB7
            clear hA7 hs7 hB7 hs7r
            have hM2 : moreB m (l ++ [bytesV (bsOf m i)]).length = M2 := (by rw [hM2eH.out, hMH.out]; unfold moreB; rw [if_pos (by simp; omega), if_neg h10]; omega)
            have hres2 := LongS.add6 (b := bsOf m i) hL7.out (by omega)
            rw [bsOf_len (by omega), hM2] at hres2
            have hres2H := Lib.hid hres2
            have hM2H := Lib.hid hM2
            clear hres2 hM2
            have hwk2 : IntKind.i64.wrap (st.size + 7 + (M : Int) + (M2 : Int)) = st.size + 7 + (M : Int) + (M2 : Int) := IntWalk.i64_in _ (by omega)
            have hwn2 : IntKind.i64.wrap ((l.length : Int) + 1 + 1) = (l.length : Int) + 1 + 1 := IntWalk.i64_in _ (by omega)
            go_wp2_with (at_builtin; refine wpList_app_bytes rfl _ _ rfl (E := w7.heap.size) (m := m) (bs := bsOf m i) (row_made0 w7 rfl) rfl rfl (hbinH.out _ (alloc_old hB7H.out)) (bsOf_len (by omega)) (by omega) ?_; intro g2 c2 w9 hb9 hg9 hg29; have hs79 := Lib.hid (Step.tailNew (T2 := [w7.heap.size]) (Step.alloc (T := []) (g := id) (w := w7) (.cells #[] 5)) (.grown hg9 (fun k hk => by cases hk; simp)) (by simp)); have hz9 : w7.heap.size ≤ g2 := (by rcases hg29 with h | h; omega; simp at h; omega); have hb9H := Lib.hid hb9; clear hb9 hg9 hg29)
            have hlt7 := hA7H.out.lt
            have hadd2 := add_at (K := 6) (Q := fun k => k = g2) (x := bytesV (bsOf m i)) (by omega) htH.out (hs7H.out.tail hs79.out) (hA7H.out.step hs79.out) (Nat.le_trans hL7.out.2.1 (by omega)) (VIs.bytes (k := 8) (by omega) hb9H.out (by rw [bsOf_len (by omega)]; omega)) (fun k hk => by omega) (by simp only [bytesV, weightV, weightFs, weightLs, bsOf_len (show 2 ≤ m by omega), List.length_nil]; omega) (fun h => by omega) (fun h => by omega)
            by_cases hfit2 : st.size + 7 + (M : Int) + (M2 : Int) ≤ 65536
            · have hf2 : st.size + (M : Int) + 7 + (M2 : Int) ≤ 65536 := by omega
              have hr := hres2H.out
              rw [if_pos hf2] at hr
              rw [hr] at hadd2
              have hL10 := Lib.hid (hL7.out.push (q := i) (by omega) (by omega) (by rw [hM2H.out]; exact hf2))
              have hadd2H := Lib.hid hadd2
              clear hadd2 hr
              refine hadd2H.out.mono ?_
              rintro e w10 ⟨rfl, hA10, hs10⟩
              have hA10H := Lib.hid hA10.drop
              have hs10H := Lib.hid (hs10.all (hs7H.out.tail hs79.out))
              clear hA10 hs10
              go_wp2_with fail
              go_roundw
              case rel =>
                refine ⟨i + 1, _, l ++ [bytesV (bsOf m i)] ++ [bytesV (bsOf m i)], ?_, ?_, by go_num, by omega, hA10H.out, ?_, hs10H.out⟩
                rotate_left 2
                · have h := hL10.out.mono (i2 := i + 1) (mc2 := 2 * (i + 1)) (by omega) (by omega)
                  rw [hM2H.out] at h
                  exact h
                · first | (simp; done) | (simp; omega)
                · simp; omega
              case measure => simp [intOf]; omega
            · have hf2 : ¬ st.size + (M : Int) + 7 + (M2 : Int) ≤ 65536 := by omega
              have hr := hres2H.out
              rw [if_neg hf2] at hr
              rw [hr] at hadd2
              have hadd2H := Lib.hid hadd2
              clear hadd2 hr
              refine hadd2H.out.mono ?_
              rintro e w10 ⟨rfl, hA10, hs10⟩
              have hA10H := Lib.hid hA10.drop
              have hs10H := Lib.hid (hs10.all (hs7H.out.tail hs79.out))
              clear hA10 hs10
              go_wp2_with fail
              go_roundw
              case rel =>
                refine ⟨i + 1, _, l ++ [bytesV (bsOf m i)], ?_, ?_, by go_num, by omega, hA10H.out, hL7.out.mono (i2 := i + 1) (mc2 := 2 * (i + 1)) (by omega) (by omega), hs10H.out⟩
                · first | (simp; done) | (simp; omega)
                · simp; omega
              case measure => simp [intOf]; omega
          · have h10j : ¬ (10 : Int) ≤ (l.length : Int) + 1 := by omega
            have hres := LongS.add6 (b := bsOf m i) hLr (by omega)
            rw [bsOf_len (by omega), ← hM] at hres
            have hMH := Lib.hid hM
            rw [if_pos hfit] at hres
            rw [hres] at hadd
            have hL7 := (hLr.mono (Nat.le_succ i) (Nat.le_refl _)).push (q := i) (by omega) (by omega) (by rw [← hM]; exact hfit)
            rw [← hM] at hL7
            have hL7 := Lib.hid hL7
            have hwn : IntKind.i64.wrap ((l.length : Int) + 1) = (l.length : Int) + 1 := IntWalk.i64_in _ (by omega)
            have haddH := Lib.hid hadd
            clear hadd hres hLr hAr hsr hA5 hb5 hs35 hbin hM hW5 q0 q1 fz hlt3 hs3 hbl3
            refine haddH.out.mono ?_
            rintro e w7 ⟨rfl, hA7, hs7⟩
            have hB7 := hs7.at hb5H.out (.inr (by simp))
            have hs7r := (hsrH.out.tail hs5.out)
            have hA7H := Lib.hid hA7.drop
            have hs7H := Lib.hid (hs7.all hs7r)
            have hB7H := Lib.hid hB7
            clear hA7 hs7 hB7 hs7r
            have hM2 : moreB m (l ++ [bytesV (bsOf m i)]).length = M := (by rw [hMH.out]; unfold moreB; rw [if_neg (by simp; omega), if_neg h10])
            have hres2 := LongS.add6 (b := bsOf m i) hL7.out (by omega)
            rw [bsOf_len (by omega), hM2] at hres2
            have hres2H := Lib.hid hres2
            have hM2H := Lib.hid hM2
            clear hres2 hM2
            have hwk2 : IntKind.i64.wrap (st.size + 7 + (M : Int) + (M : Int)) = st.size + 7 + (M : Int) + (M : Int) := IntWalk.i64_in _ (by omega)
            have hwn2 : IntKind.i64.wrap ((l.length : Int) + 1 + 1) = (l.length : Int) + 1 + 1 := IntWalk.i64_in _ (by omega)
            go_wp2_with (at_builtin; refine wpList_app_bytes rfl _ _ rfl (E := w7.heap.size) (m := m) (bs := bsOf m i) (row_made0 w7 rfl) rfl rfl (hbinH.out _ (alloc_old hB7H.out)) (bsOf_len (by omega)) (by omega) ?_; intro g2 c2 w9 hb9 hg9 hg29; have hs79 := Lib.hid (Step.tailNew (T2 := [w7.heap.size]) (Step.alloc (T := []) (g := id) (w := w7) (.cells #[] 5)) (.grown hg9 (fun k hk => by cases hk; simp)) (by simp)); have hz9 : w7.heap.size ≤ g2 := (by rcases hg29 with h | h; omega; simp at h; omega); have hb9H := Lib.hid hb9; clear hb9 hg9 hg29)
            have hlt7 := hA7H.out.lt
            have hadd2 := add_at (K := 6) (Q := fun k => k = g2) (x := bytesV (bsOf m i)) (by omega) htH.out (hs7H.out.tail hs79.out) (hA7H.out.step hs79.out) (Nat.le_trans hL7.out.2.1 (by omega)) (VIs.bytes (k := 8) (by omega) hb9H.out (by rw [bsOf_len (by omega)]; omega)) (fun k hk => by omega) (by simp only [bytesV, weightV, weightFs, weightLs, bsOf_len (show 2 ≤ m by omega), List.length_nil]; omega) (fun h => by omega) (fun h => by omega)
            by_cases hfit2 : st.size + 7 + (M : Int) + (M : Int) ≤ 65536
            · have hf2 : st.size + (M : Int) + 7 + (M : Int) ≤ 65536 := by omega
              have hr := hres2H.out
              rw [if_pos hf2] at hr
              rw [hr] at hadd2
              have hL10 := Lib.hid (hL7.out.push (q := i) (by omega) (by omega) (by rw [hM2H.out]; exact hf2))
              have hadd2H := Lib.hid hadd2
              clear hadd2 hr
              refine hadd2H.out.mono ?_
              rintro e w10 ⟨rfl, hA10, hs10⟩
              have hA10H := Lib.hid hA10.drop
              have hs10H := Lib.hid (hs10.all (hs7H.out.tail hs79.out))
              clear hA10 hs10
              go_wp2_with fail
              go_roundw
              case rel =>
                refine ⟨i + 1, _, l ++ [bytesV (bsOf m i)] ++ [bytesV (bsOf m i)], ?_, ?_, by go_num, by omega, hA10H.out, ?_, hs10H.out⟩
                rotate_left 2
                · have h := hL10.out.mono (i2 := i + 1) (mc2 := 2 * (i + 1)) (by omega) (by omega)
                  rw [hM2H.out] at h
                  exact h
                · first | (simp; done) | (simp; omega)
                · simp; omega
              case measure => simp [intOf]; omega
            · have hf2 : ¬ st.size + (M : Int) + 7 + (M : Int) ≤ 65536 := by omega
              have hr := hres2H.out
              rw [if_neg hf2] at hr
              rw [hr] at hadd2
              have hadd2H := Lib.hid hadd2
              clear hadd2 hr
              refine hadd2H.out.mono ?_
              rintro e w10 ⟨rfl, hA10, hs10⟩
              have hA10H := Lib.hid hA10.drop
              have hs10H := Lib.hid (hs10.all (hs7H.out.tail hs79.out))
              clear hA10 hs10
              go_wp2_with fail
              go_roundw
              case rel =>
                refine ⟨i + 1, _, l ++ [bytesV (bsOf m i)], ?_, ?_, by go_num, by omega, hA10H.out, hL7.out.mono (i2 := i + 1) (mc2 := 2 * (i + 1)) (by omega) (by omega), hs10H.out⟩
                · first | (simp; done) | (simp; omega)
                · simp; omega
              case measure => simp [intOf]; omega
        · have hres := LongS.add6 (b := bsOf m i) hLr (by omega)
          rw [bsOf_len (by omega), ← hM] at hres
          have hMH := Lib.hid hM
          rw [if_neg hfit] at hres
          rw [hres] at hadd
          have hres2H := Lib.hid hres
          have hL7 := Lib.hid (hLr.mono (Nat.le_succ i) (Nat.le_refl (2 * i)))
          have haddH := Lib.hid hadd
          clear hadd hres hLr hAr hsr hA5 hb5 hs35 hbin hM hW5 q0 q1 fz hlt3 hs3 hbl3
          refine haddH.out.mono ?_
          rintro e w7 ⟨rfl, hA7, hs7⟩
          have hB7 := hs7.at hb5H.out (.inr (by simp))
          have hs7r := (hsrH.out.tail hs5.out)
          have hA7H := Lib.hid hA7.drop
          have hs7H := Lib.hid (hs7.all hs7r)
          have hB7H := Lib.hid hB7
          clear hA7 hs7 hB7 hs7r
          go_wp2_with (at_builtin; refine wpList_app_bytes rfl _ _ rfl (E := w7.heap.size) (m := m) (bs := bsOf m i) (row_made0 w7 rfl) rfl rfl (hbinH.out _ (alloc_old hB7H.out)) (bsOf_len (by omega)) (by omega) ?_; intro g2 c2 w9 hb9 hg9 hg29; have hs79 := Lib.hid (Step.tailNew (T2 := [w7.heap.size]) (Step.alloc (T := []) (g := id) (w := w7) (.cells #[] 5)) (.grown hg9 (fun k hk => by cases hk; simp)) (by simp)); have hz9 : w7.heap.size ≤ g2 := (by rcases hg29 with h | h; omega; simp at h; omega); have hb9H := Lib.hid hb9; clear hb9 hg9 hg29)
          have hlt7 := hA7H.out.lt
          have hadd2 := add_at (K := 6) (Q := fun k => k = g2) (x := bytesV (bsOf m i)) (by omega) htH.out (hs7H.out.tail hs79.out) (hA7H.out.step hs79.out) (Nat.le_trans hL7.out.2.1 (by omega)) (VIs.bytes (k := 8) (by omega) hb9H.out (by rw [bsOf_len (by omega)]; omega)) (fun k hk => by omega) (by simp only [bytesV, weightV, weightFs, weightLs, bsOf_len (show 2 ≤ m by omega), List.length_nil]; omega) (fun h => by omega) (fun h => by omega)
          have hr := hres2H.out
          rw [hr] at hadd2
          have hadd2H := Lib.hid hadd2
          clear hadd2 hr
          refine hadd2H.out.mono ?_
          rintro e w10 ⟨rfl, hA10, hs10⟩
          have hA10H := Lib.hid hA10.drop
          have hs10H := Lib.hid (hs10.all (hs7H.out.tail hs79.out))
          clear hA10 hs10
          go_wp2_with fail
          go_roundw
          case rel => exact ⟨i + 1, _, l, rfl, rfl, by go_num, by omega, hA10H.out, hL7.out.mono (i2 := i + 1) (mc2 := 2 * (i + 1)) (by omega) (by omega), hs10H.out⟩
          case measure => simp [intOf]; omega
    · obtain rfl : i = R := by omega
      obtain ⟨hAr, hLr, hsr⟩ := hI
      have hval : valueA 6 st = listV l := by
        unfold valueA
        rw [if_neg (by decide), hLr.1, if_neg (by simp [listV, Val.kind])]
      have hval2 := value_at (by omega) hAr (Nat.le_trans hLr.2.1 (by omega)) (hLr.weight (by omega))
      rw [hval] at hval2
      have hsize : sizeA 6 st = 16 + st.size := by unfold sizeA; rw [if_pos (by have := hLr.2.2.1; omega)]
      have hdec : ¬ (i : Int) < 2 + (many : Int) % 20 := by omega
      have hst5 : 5 ≤ st.size ∧ st.size ≤ 65536 := ⟨hLr.2.2.1, hLr.2.2.2.1⟩
      have hw1 : IntKind.i64.wrap (16 + (st.size + 7)) = 16 + (st.size + 7) := IntWalk.i64_in _ (by omega)
      have hw2 : IntKind.i64.wrap (16 + (st.size + 7) - 7) = 16 + st.size := (IntWalk.i64_in _ (by omega)).trans (by omega)
      have hvalH := Lib.hid hval2
      have hsizeH := Lib.hid hsize
      have hArH := Lib.hid hAr
      have hsrH := Lib.hid hsr
      clear hLr hAr hsr hval hval2 hsize hmm hm hR
      go_wp2_with fail
      refine hvalH.out.mono ?_
      rintro e w5 ⟨ds, rfl, hx, hs5⟩
      obtain ⟨bv, fa, fc, la, lc, hds, hb, -⟩ := hx.cells
      obtain ⟨ba, bc, rfl⟩ := hb.shape
      have hfld : ∀ w' : World, (Instr.field 32 (.agg ds.toArray) 5).run Tryd.prog w' = .ok (.slice la l.length lc) w' := fun _ => by rw [hds]; kernel_rfl
      have hs5H := Lib.hid (hsrH.out.tail hs5)
      have hA5H := Lib.hid (hArH.out.step hs5)
      clear hx hb hs5 hds
      go_wp2_with fail
      refine (size_at htH.out hs5H.out hA5H.out).mono ?_
      rintro e w6 ⟨rfl, hs6⟩
      rw [hsizeH.out]
      have hs6H := Lib.hid (hs5H.out.tail hs6)
      clear hs6
      go_wp2_with fail
      go_ret
      exact ⟨by simp, hs6H.out⟩
end Go.Proofs.YtembpajlllnncaaDoor
