/- Two values are alike: bson's Same. -/
import Derived.Test.YtbkmnhogfegmcaaDoorBsC1
set_option linter.unusedVariables false
set_option linter.unusedSimpArgs false
namespace Go.Proofs.YtbkmnhogfegmcaaDoor
open Go.RowKit

def EqB (p : Prop) (w : World) (e : Ending) (w' : World) : Prop := ∃ r : Bool, e = .returned (.bool r) ∧ (r = true ↔ p) ∧ Step [] id id w w'
set_option maxRecDepth 100000 in
set_option maxHeartbeats 8000000 in
theorem eqv_step (N : Nat) (ih : SameC 20 N) {P : Nat → Prop} {w : World} {x y : Val} {la1 la2 : Option Addr} {lc1 lc2 : Nat} (hls : ∀ j (h : j < x.l.length), SizeOf.sizeOf x.l[j] < N) (hb1 : x.l.length ≤ 140737488351232) (hb2 : y.l.length ≤ 140737488351232)
    (hl1 : LIs P w x.l la1 0) (hl2 : LIs P w y.l la2 0) : Calls Tryd.prog 42 #[.slice la1 x.l.length lc1, .slice la2 y.l.length lc2, .func (.func 20) #[] #[]] w (EqB (x.l = y.l) w) := by
  have hcf : ∀ (caps : Array Value) (w : World), (callFunc 20 caps).run Tryd.prog w = .ok (.enter 20 caps) w := fun _ _ => by kernel_rfl
  obtain ⟨ln1, hlnn1⟩ : ∃ k, k = x.l.length := ⟨_, rfl⟩
  obtain ⟨ln2, hlnn2⟩ : ∃ k, k = y.l.length := ⟨_, rfl⟩
  rw [← hlnn1] at hb1
  rw [← hlnn2] at hb2
  have hl1H := Lib.hid hl1
  have hl2H := Lib.hid hl2
  have hlsH := Lib.hid hls
  rw [← hlnn1, ← hlnn2]
  have hln1H := Lib.hid hlnn1
  have hln2H := Lib.hid hlnn2
  have hs2H := Lib.hid (Step.refl [] id w)
  clear hl1 hl2 hls hlnn1 hlnn2
  go_enter Tryd.func42, Tryd.ntmps42
  by_cases e6 : ln1 = ln2
  rotate_left
  · have hd : ((ln1 : Int) != (ln2 : Int)) = true := by rw [bne_iff_ne]; omega
    go_wp2_with fail
    go_ret
    exact ⟨false, rfl, by simp; intro h; exact e6 (by rw [hln1H.out, hln2H.out, h]), Step.refl _ _ _⟩
  subst e6
  go_wp2_with fail
  go_loopw [17] (fun i wr => ∃ (j : Nat), i = .int .i64 j ∧ j ≤ ln1 ∧ Step [] id id w wr ∧ x.l.take j = y.l.take j) (fun i _ => ln1 - (intOf i).toNat)
  case atStart => exact ⟨0, rfl, Nat.zero_le _, Step.refl _ _ _, rfl⟩
  case round =>
    obtain ⟨j, rfl, hj, hst, htk⟩ := hrel
    have htkH := Lib.hid htk
    clear htk
    by_cases hjl : j < ln1
    · have hjl1 : (j : Int) < (ln1 : Int) := by omega
      have hj0 : (0 : Int) ≤ (j : Int) := by omega
      have hlw1 := LIs.keep (P2 := P) (fun _ h => h) (fun k hP hk => (((hs2H.out.tail hst).keep k hk (by simp)).2)) x.l la1 0 hl1H.out
      obtain ⟨b1, o1, cs, hae, hPb, hrng, hxj1⟩ := hlw1.get (j := j) (by rw [← hln1H.out]; omega)
      subst hae
      obtain ⟨s1, bb1, bbn1, bbc1, ff1, ffn1, ffc1, ll1, lln1, llc1, hcs, -⟩ := hxj1.six
      obtain ⟨y1, hy1⟩ : ∃ z, z = (x.l[j]'(by rw [← hln1H.out]; omega)) := ⟨_, rfl⟩
      have hpair1 := Lib.hid hy1
      rw [← hy1] at hxj1 hcs
      obtain ⟨kk1, hkk⟩ : ∃ k, k = y1.kind := ⟨_, rfl⟩
      obtain ⟨nn1, hnn⟩ : ∃ k, k = y1.num := ⟨_, rfl⟩
      rw [← hkk, ← hnn] at hcs
      rw [hcs, Nat.zero_add] at hrng
      subst hcs
      have q10 := hrng 0 _ rfl
      have q11 := hrng 1 _ rfl
      have q12 := hrng 2 _ rfl
      have q13 := hrng 3 _ rfl
      have q14 := hrng 4 _ rfl
      have q15 := hrng 5 _ rfl
      rw [Nat.add_zero] at q10
      have hxj1H := Lib.hid hxj1
      clear hrng hxj1 hkk hnn hlw1 hPb
      have hlw2 := LIs.keep (P2 := P) (fun _ h => h) (fun k hP hk => (((hs2H.out.tail hst).keep k hk (by simp)).2)) y.l la2 0 hl2H.out
      obtain ⟨b2, o2, cs, hae, hPb, hrng, hxj2⟩ := hlw2.get (j := j) (by rw [← hln2H.out]; omega)
      subst hae
      obtain ⟨s2, bb2, bbn2, bbc2, ff2, ffn2, ffc2, ll2, lln2, llc2, hcs, -⟩ := hxj2.six
      obtain ⟨y2, hy2⟩ : ∃ z, z = (y.l[j]'(by rw [← hln2H.out]; omega)) := ⟨_, rfl⟩
      have hpair2 := Lib.hid hy2
      rw [← hy2] at hxj2 hcs
      obtain ⟨kk2, hkk⟩ : ∃ k, k = y2.kind := ⟨_, rfl⟩
      obtain ⟨nn2, hnn⟩ : ∃ k, k = y2.num := ⟨_, rfl⟩
      rw [← hkk, ← hnn] at hcs
      rw [hcs, Nat.zero_add] at hrng
      subst hcs
      have q20 := hrng 0 _ rfl
      have q21 := hrng 1 _ rfl
      have q22 := hrng 2 _ rfl
      have q23 := hrng 3 _ rfl
      have q24 := hrng 4 _ rfl
      have q25 := hrng 5 _ rfl
      rw [Nat.add_zero] at q20
      have hxj2H := Lib.hid hxj2
      clear hrng hxj2 hkk hnn hlw2 hPb
      have hsz := hlsH.out j (by rw [← hln1H.out]; omega)
      rw [← hpair1.out] at hsz
      have hstH := Lib.hid hst
      have hwrap : IntKind.i64.wrap ((j : Int) + 1) = (j : Int) + 1 := IntWalk.i64_in _ (by omega)
      have hb1l := World.block_lt_of_cell? wr _ q10
      have hb2l := World.block_lt_of_cell? wr _ q20
      have hcall := Lib.hid (show ∀ W, Step [] id id wr W → Calls Tryd.prog 20 _ W (SameB y1 y2 W) from fun W hW =>
        ih P y1 y2 _ _ W hsz (hxj1H.out.keep (fun _ h => h) (fun k hP hk => (hW.keep k hk (by simp)).2)) (hxj2H.out.keep (fun _ h => h) (fun k hP hk => (hW.keep k hk (by simp)).2)))
      clear hst hy1 hy2
      go_wp2_with fail
      refine (hcall.out _ ((Step.alloc _).tail (Step.alloc _))).mono ?_
      rintro e w3 ⟨r3, rfl, hr3, hs3⟩
      have hs3H := Lib.hid (((Step.alloc _).tail (Step.alloc _)).tail hs3)
      have hr3H := Lib.hid hr3
      clear hs3 hr3 q10 q11 q12 q13 q14 q15 q20 q21 q22 q23 q24 q25
      cases r3
      · go_wp2_with fail
        go_ret
        refine ⟨false, rfl, ?_, hstH.out.tail hs3H.out⟩
        simp only [Bool.false_eq_true, false_iff]
        intro h
        refine take_neq (by rw [← hln1H.out]; omega) (by rw [← hln2H.out]; omega) ?_ h
        rw [← hpair1.out, ← hpair2.out]
        intro e
        exact absurd (hr3H.out.2 e) (by simp)
      · go_wp2_with fail
        go_roundw
        case rel =>
          refine ⟨j + 1, by go_num, by omega, hstH.out.tail hs3H.out, ?_⟩
          rw [List.take_succ_eq_append_getElem (by rw [← hln1H.out]; omega), List.take_succ_eq_append_getElem (by rw [← hln2H.out]; omega), htkH.out, ← hpair1.out, ← hpair2.out, hr3H.out.1 (by simp)]
        case measure => simp [intOf]; omega
    · have hjl1 : ¬ (j : Int) < (ln1 : Int) := by omega
      have hll : x.l = y.l := by
        have := htkH.out
        rwa [List.take_of_length_le (by rw [← hln1H.out]; omega), List.take_of_length_le (by rw [← hln2H.out]; omega)] at this
      have hstH := Lib.hid hst
      have hllH := Lib.hid hll
      clear hst hll
      go_wp2_with fail
      go_ret
      exact ⟨true, rfl, by simp [hllH.out], hstH.out⟩

set_option maxRecDepth 100000 in
set_option maxHeartbeats 8000000 in
theorem same1 (nm1 nm2 : Bs) (y1 y2 : Val) (N1 N2 : ByteArray) (hN1 : N1 = strOf nm1) (hN2 : N2 = strOf nm2) (k1 n1 : Int) (s1 : ByteArray) (b1 f1 l1 : Value) (k2 n2 : Int) (s2 : ByteArray) (b2 f2 l2 : Value) (w : World)
    (hc : ∀ W, Step [] id id w W → Calls Tryd.prog 20 #[.agg #[.int .i64 k1, .int .i64 n1, .string s1, b1, f1, l1], .agg #[.int .i64 k2, .int .i64 n2, .string s2, b2, f2, l2]] W (SameB y1 y2 W)) :
    Calls Tryd.prog 39 #[.agg #[.string N1, .int .i64 k1, .int .i64 n1, .string s1, b1, f1, l1], .agg #[.string N2, .int .i64 k2, .int .i64 n2, .string s2, b2, f2, l2]] w (EqB ((nm1, y1) = (nm2, y2)) w) := by
  have hcH := Lib.hid hc
  have hN1H := Lib.hid hN1
  have hN2H := Lib.hid hN2
  clear hc hN1 hN2
  go_enter Tryd.func39, Tryd.ntmps39
  by_cases hnn : N1 = N2
  · subst hnn
    go_wp2_with (go_at_call 20; refine (hcH.out _ ((Step.alloc _).tail (Step.alloc _))).mono ?_; rintro e w3 ⟨r3, rfl, hr3, hs3⟩; have hs3H := Lib.hid (((Step.alloc _).tail (Step.alloc _)).tail hs3); have hr3H := Lib.hid hr3; clear hs3 hr3)
    go_ret
    refine ⟨r3, rfl, ?_, hs3H.out⟩
    rw [hr3H.out, Prod.mk.injEq, strOf_inj (hN1H.out.symm.trans hN2H.out)]
    simp
  · have hd : (N1.toList == N2.toList) = false := by rw [str_cmp]; exact decide_eq_false hnn
    go_wp2_with fail
    go_ret
    refine ⟨false, rfl, ?_, (Step.alloc _).tail (Step.alloc _)⟩
    simp only [Bool.false_eq_true, false_iff, Prod.mk.injEq]
    rintro ⟨e, -⟩
    exact hnn (by rw [hN1H.out, hN2H.out, e])

set_option maxRecDepth 100000 in
set_option maxHeartbeats 8000000 in
theorem eqf_step (N : Nat) (ih : SameC 20 N) {P : Nat → Prop} {w : World} {x y : Val} {fa1 fa2 : Option Addr} {fc1 fc2 : Nat} (hfs : ∀ j (h : j < x.f.length), SizeOf.sizeOf x.f[j].2 < N) (hb1 : x.f.length ≤ 140737488351232) (hb2 : y.f.length ≤ 140737488351232)
    (hf1 : FIs P w x.f fa1 0) (hf2 : FIs P w y.f fa2 0) : Calls Tryd.prog 41 #[.slice fa1 x.f.length fc1, .slice fa2 y.f.length fc2, .func (.func 39) #[] #[]] w (EqB (x.f = y.f) w) := by
  have hcf : ∀ (caps : Array Value) (w : World), (callFunc 39 caps).run Tryd.prog w = .ok (.enter 39 caps) w := fun _ _ => by kernel_rfl
  obtain ⟨fn1, hfnn1⟩ : ∃ k, k = x.f.length := ⟨_, rfl⟩
  obtain ⟨fn2, hfnn2⟩ : ∃ k, k = y.f.length := ⟨_, rfl⟩
  rw [← hfnn1] at hb1
  rw [← hfnn2] at hb2
  have hf1H := Lib.hid hf1
  have hf2H := Lib.hid hf2
  have hfsH := Lib.hid hfs
  rw [← hfnn1, ← hfnn2]
  have hfn1H := Lib.hid hfnn1
  have hfn2H := Lib.hid hfnn2
  have hs2H := Lib.hid (Step.refl [] id w)
  clear hf1 hf2 hfs hfnn1 hfnn2
  go_enter Tryd.func41, Tryd.ntmps41
  by_cases e6 : fn1 = fn2
  rotate_left
  · have hd : ((fn1 : Int) != (fn2 : Int)) = true := by rw [bne_iff_ne]; omega
    go_wp2_with fail
    go_ret
    exact ⟨false, rfl, by simp; intro h; exact e6 (by rw [hfn1H.out, hfn2H.out, h]), Step.refl _ _ _⟩
  subst e6
  go_wp2_with fail
  go_loopw [17] (fun i wr => ∃ (j : Nat), i = .int .i64 j ∧ j ≤ fn1 ∧ Step [] id id w wr ∧ x.f.take j = y.f.take j) (fun i _ => fn1 - (intOf i).toNat)
  case atStart => exact ⟨0, rfl, Nat.zero_le _, Step.refl _ _ _, rfl⟩
  case round =>
    obtain ⟨j, rfl, hj, hst, htk⟩ := hrel
    have htkH := Lib.hid htk
    clear htk
    by_cases hjl : j < fn1
    · have hjl1 : (j : Int) < (fn1 : Int) := by omega
      have hj0 : (0 : Int) ≤ (j : Int) := by omega
      have hfw1 := FIs.keep (P2 := P) (fun _ h => h) (fun k hP hk => (((hs2H.out.tail hst).keep k hk (by simp)).2)) x.f fa1 0 hf1H.out
      obtain ⟨b1, o1, cs, hae, hPb, hnl, hrng, hxj1⟩ := hfw1.get (j := j) (by rw [← hfn1H.out]; omega)
      subst hae
      obtain ⟨s1, bb1, bbn1, bbc1, ff1, ffn1, ffc1, ll1, lln1, llc1, hcs, -⟩ := hxj1.six
      obtain ⟨y1, hy1⟩ : ∃ z, z = (x.f[j]'(by rw [← hfn1H.out]; omega)).2 := ⟨_, rfl⟩
      obtain ⟨nm1, hnm1⟩ : ∃ z, z = (x.f[j]'(by rw [← hfn1H.out]; omega)).1 := ⟨_, rfl⟩
      have hpair1 := Lib.hid (show (x.f[j]'(by rw [← hfn1H.out]; omega)) = (nm1, y1) by rw [hy1, hnm1])
      rw [← hy1] at hxj1 hcs
      rw [← hnm1] at hrng
      obtain ⟨kk1, hkk⟩ : ∃ k, k = y1.kind := ⟨_, rfl⟩
      obtain ⟨nn1, hnn⟩ : ∃ k, k = y1.num := ⟨_, rfl⟩
      obtain ⟨N1, hN1⟩ : ∃ k, k = strOf nm1 := ⟨_, rfl⟩
      rw [← hkk, ← hnn] at hcs
      rw [hcs, Nat.zero_add, ← hN1] at hrng
      subst hcs
      have q10 := hrng 0 _ rfl
      have q11 := hrng 1 _ rfl
      have q12 := hrng 2 _ rfl
      have q13 := hrng 3 _ rfl
      have q14 := hrng 4 _ rfl
      have q15 := hrng 5 _ rfl
      have q16 := hrng 6 _ rfl
      rw [Nat.add_zero] at q10
      have hxj1H := Lib.hid hxj1
      have hN1H := Lib.hid hN1
      clear hrng hxj1 hkk hnn hfw1 hnl hPb hN1
      have hfw2 := FIs.keep (P2 := P) (fun _ h => h) (fun k hP hk => (((hs2H.out.tail hst).keep k hk (by simp)).2)) y.f fa2 0 hf2H.out
      obtain ⟨b2, o2, cs, hae, hPb, hnl, hrng, hxj2⟩ := hfw2.get (j := j) (by rw [← hfn2H.out]; omega)
      subst hae
      obtain ⟨s2, bb2, bbn2, bbc2, ff2, ffn2, ffc2, ll2, lln2, llc2, hcs, -⟩ := hxj2.six
      obtain ⟨y2, hy2⟩ : ∃ z, z = (y.f[j]'(by rw [← hfn2H.out]; omega)).2 := ⟨_, rfl⟩
      obtain ⟨nm2, hnm2⟩ : ∃ z, z = (y.f[j]'(by rw [← hfn2H.out]; omega)).1 := ⟨_, rfl⟩
      have hpair2 := Lib.hid (show (y.f[j]'(by rw [← hfn2H.out]; omega)) = (nm2, y2) by rw [hy2, hnm2])
      rw [← hy2] at hxj2 hcs
      rw [← hnm2] at hrng
      obtain ⟨kk2, hkk⟩ : ∃ k, k = y2.kind := ⟨_, rfl⟩
      obtain ⟨nn2, hnn⟩ : ∃ k, k = y2.num := ⟨_, rfl⟩
      obtain ⟨N2, hN2⟩ : ∃ k, k = strOf nm2 := ⟨_, rfl⟩
      rw [← hkk, ← hnn] at hcs
      rw [hcs, Nat.zero_add, ← hN2] at hrng
      subst hcs
      have q20 := hrng 0 _ rfl
      have q21 := hrng 1 _ rfl
      have q22 := hrng 2 _ rfl
      have q23 := hrng 3 _ rfl
      have q24 := hrng 4 _ rfl
      have q25 := hrng 5 _ rfl
      have q26 := hrng 6 _ rfl
      rw [Nat.add_zero] at q20
      have hxj2H := Lib.hid hxj2
      have hN2H := Lib.hid hN2
      clear hrng hxj2 hkk hnn hfw2 hnl hPb hN2
      have hsz := hfsH.out j (by rw [← hfn1H.out]; omega)
      rw [← hy1] at hsz
      have hstH := Lib.hid hst
      have hwrap : IntKind.i64.wrap ((j : Int) + 1) = (j : Int) + 1 := IntWalk.i64_in _ (by omega)
      have hb1l := World.block_lt_of_cell? wr _ q10
      have hb2l := World.block_lt_of_cell? wr _ q20
      have hcall := Lib.hid (fun W (hW : Step [] id id wr W) =>
        same1 nm1 nm2 y1 y2 N1 N2 hN1H.out hN2H.out kk1 nn1 s1 (.slice bb1 bbn1 bbc1) (.slice ff1 ffn1 ffc1) (.slice ll1 lln1 llc1) kk2 nn2 s2 (.slice bb2 bbn2 bbc2) (.slice ff2 ffn2 ffc2) (.slice ll2 lln2 llc2) W fun W2 hW2 =>
          ih P y1 y2 _ _ W2 hsz (hxj1H.out.keep (fun _ h => h) (fun k hP hk => ((hW.tail hW2).keep k hk (by simp)).2)) (hxj2H.out.keep (fun _ h => h) (fun k hP hk => ((hW.tail hW2).keep k hk (by simp)).2)))
      clear hst hy1 hy2 hnm1 hnm2
      go_wp2_with fail
      refine (hcall.out _ ((Step.alloc _).tail (Step.alloc _))).mono ?_
      rintro e w3 ⟨r3, rfl, hr3, hs3⟩
      have hs3H := Lib.hid (((Step.alloc _).tail (Step.alloc _)).tail hs3)
      have hr3H := Lib.hid hr3
      clear hs3 hr3 q10 q11 q12 q13 q14 q15 q16 q20 q21 q22 q23 q24 q25 q26
      cases r3
      · go_wp2_with fail
        go_ret
        refine ⟨false, rfl, ?_, hstH.out.tail hs3H.out⟩
        simp only [Bool.false_eq_true, false_iff]
        intro h
        refine take_neq (by rw [← hfn1H.out]; omega) (by rw [← hfn2H.out]; omega) ?_ h
        rw [hpair1.out, hpair2.out]
        intro e
        exact absurd (hr3H.out.2 e) (by simp)
      · go_wp2_with fail
        go_roundw
        case rel =>
          refine ⟨j + 1, by go_num, by omega, hstH.out.tail hs3H.out, ?_⟩
          rw [List.take_succ_eq_append_getElem (by rw [← hfn1H.out]; omega), List.take_succ_eq_append_getElem (by rw [← hfn2H.out]; omega), htkH.out, hpair1.out, hpair2.out, show (nm1, y1) = (nm2, y2) from hr3H.out.1 (by simp)]
        case measure => simp [intOf]; omega
    · have hjl1 : ¬ (j : Int) < (fn1 : Int) := by omega
      have hll : x.f = y.f := by
        have := htkH.out
        rwa [List.take_of_length_le (by rw [← hfn1H.out]; omega), List.take_of_length_le (by rw [← hfn2H.out]; omega)] at this
      have hstH := Lib.hid hst
      have hllH := Lib.hid hll
      clear hst hll
      go_wp2_with fail
      go_ret
      exact ⟨true, rfl, by simp [hllH.out], hstH.out⟩
end Go.Proofs.YtbkmnhogfegmcaaDoor
