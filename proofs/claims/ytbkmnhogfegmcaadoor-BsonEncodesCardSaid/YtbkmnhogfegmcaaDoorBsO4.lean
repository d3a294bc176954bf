/- Fields by their names: IndexFunc, at, Get. Get: a field's value. Cells set in a row, one behind the other; fields set and taken out, plain. slices.DeleteFunc over fields. -/
import Derived.Test.YtbkmnhogfegmcaaDoorBsC6
import Derived.Lib.SliceRun
set_option linter.unusedVariables false
set_option linter.unusedSimpArgs false
namespace Go.Proofs.YtbkmnhogfegmcaaDoor
open Go.RowKit

/-- The first field of a name. -/
def findN (nm : Bs) (f : List (Bs × Val)) : Option Nat := f.findIdx? (fun p => decide (p.1 = nm))
def idxI (nm : Bs) (f : List (Bs × Val)) : Int := match findN nm f with | some i => (i : Int) | none => -1
def getF (nm : Bs) (f : List (Bs × Val)) : Val := match f.find? (fun p => decide (p.1 = nm)) with | some p => p.2 | none => Val.bare 0
def getV (x : Val) (nm : Bs) : Val := if x.kind = 6 then getF nm x.f else Val.bare 0

theorem findN_at {nm : Bs} {f : List (Bs × Val)} {j : Nat} (hj : j < f.length) (h : f[j].1 = nm) (hb : ∀ t (ht : t < f.length), t < j → f[t].1 ≠ nm) : findN nm f = some j := by
  unfold findN
  rw [List.findIdx?_eq_some_iff_getElem]
  exact ⟨hj, by simpa using h, fun t ht => by simpa using hb t (by omega) ht⟩
theorem findN_none {nm : Bs} {f : List (Bs × Val)} (hb : ∀ t (ht : t < f.length), f[t].1 ≠ nm) : findN nm f = none := by
  unfold findN
  rw [List.findIdx?_eq_none_iff]
  intro p hp
  obtain ⟨t, ht, rfl⟩ := List.getElem_of_mem hp
  simpa using hb t ht
theorem findN_some {nm : Bs} {f : List (Bs × Val)} {j : Nat} (h : findN nm f = some j) : ∃ hj : j < f.length, f[j].1 = nm ∧ ∀ t (ht : t < f.length), t < j → f[t].1 ≠ nm := by
  unfold findN at h
  rw [List.findIdx?_eq_some_iff_getElem] at h
  obtain ⟨h1, h2, h3⟩ := h
  exact ⟨h1, by simpa using h2, fun t ht hlt => by simpa using h3 t hlt⟩
theorem findN_none_iff {nm : Bs} {f : List (Bs × Val)} : findN nm f = none ↔ ∀ p ∈ f, p.1 ≠ nm := by
  unfold findN
  rw [List.findIdx?_eq_none_iff]
  simp
theorem getF_at {nm : Bs} : ∀ {f : List (Bs × Val)} {j : Nat} (h : findN nm f = some j), ∃ hj : j < f.length, getF nm f = f[j].2 := by
  intro f j h
  obtain ⟨hj, h1, h2⟩ := findN_some h
  refine ⟨hj, ?_⟩
  unfold getF
  have : f.find? (fun p => decide (p.1 = nm)) = some f[j] := by
    rw [List.find?_eq_some_iff_getElem]
    exact ⟨by simpa using h1, j, hj, rfl, fun t ht => by simpa using h2 t (by omega) ht⟩
  rw [this]
theorem getF_none {nm : Bs} {f : List (Bs × Val)} (h : findN nm f = none) : getF nm f = Val.bare 0 := by
  have := findN_none_iff.1 h
  unfold getF
  have : f.find? (fun p => decide (p.1 = nm)) = none := by
    rw [List.find?_eq_none]
    intro p hp
    simpa using this p hp
  rw [this]

def IsB (b : Bool) (w : World) (e : Ending) (w' : World) : Prop := e = .returned (.bool b) ∧ Step [] id id w w'
def IsI (n : Int) (w : World) (e : Ending) (w' : World) : Prop := e = .returned (.int .i64 n) ∧ Step [] id id w w'
/-- What a field's test has to do. -/
def TestF (F : FuncId) : Prop := ∀ (N S : ByteArray) (V : Nat) (k n : Int) (s : ByteArray) (b f l : Value) (w : World), w.cell? ⟨V, 0, none⟩ = some (.string S) →
  Calls Tryd.prog F #[.agg #[.string N, .int .i64 k, .int .i64 n, .string s, b, f, l], .pointer (some ⟨V, 0, none⟩)] w (IsB (decide (N = S)) w)
set_option maxRecDepth 100000 in
theorem at1_test : TestF 73 := by
  intro N S V k n s b f l w hV
  have hVl := World.block_lt_of_cell? w _ hV
  have hVn : w.heap.size ≠ V := by simp at hVl; omega
  by_cases h : N = S
  · have hd : (N.toList == S.toList) = true := by rw [str_cmp]; exact decide_eq_true h
    go_enter Tryd.func73, Tryd.ntmps73
    go_wp2_with fail
    go_ret
    exact ⟨rfl, Step.alloc _⟩
  · have hd : (N.toList == S.toList) = false := by rw [str_cmp]; exact decide_eq_false h
    go_enter Tryd.func73, Tryd.ntmps73
    go_wp2_with fail
    go_ret
    exact ⟨rfl, Step.alloc _⟩
set_option maxRecDepth 100000 in
theorem wo1_test : TestF 71 := by
  intro N S V k n s b f l w hV
  have hVl := World.block_lt_of_cell? w _ hV
  have hVn : w.heap.size ≠ V := by simp at hVl; omega
  by_cases h : N = S
  · have hd : (N.toList == S.toList) = true := by rw [str_cmp]; exact decide_eq_true h
    go_enter Tryd.func71, Tryd.ntmps71
    go_wp2_with fail
    go_ret
    exact ⟨rfl, Step.alloc _⟩
  · have hd : (N.toList == S.toList) = false := by rw [str_cmp]; exact decide_eq_false h
    go_enter Tryd.func71, Tryd.ntmps71
    go_wp2_with fail
    go_ret
    exact ⟨rfl, Step.alloc _⟩

set_option maxRecDepth 100000 in
set_option maxHeartbeats 4000000 in
theorem index_f {F : FuncId} (hcf : ∀ (caps : Array Value) (w : World), (callFunc F caps).run Tryd.prog w = .ok (.enter F caps) w) (hF : TestF F) {P : Nat → Prop} {w : World} {f : List (Bs × Val)} {fa : Option Addr} {fn fc : Nat} {nm : Bs} {V : Nat}
    (hfn : fn = f.length) (hf : FIs P w f fa 0) (hl : fn ≤ 140737488351232) (hV : w.cell? ⟨V, 0, none⟩ = some (.string (strOf nm))) :
    Calls Tryd.prog 72 #[.slice fa fn fc, .func (.func F) #[] #[.pointer (some ⟨V, 0, none⟩)]] w (IsI (idxI nm f) w) := by
  obtain ⟨S, hS⟩ : ∃ S, S = strOf nm := ⟨_, rfl⟩
  rw [← hS] at hV
  have hfnH := Lib.hid hfn
  have hfH := Lib.hid hf
  have hVH := Lib.hid hV
  have hSH := Lib.hid hS
  have hFH := Lib.hid hF
  clear hfn hf hV hS hF
  go_enter Tryd.func72, Tryd.ntmps72
  go_wp2_with fail
  go_loopw [8] (fun i wr => ∃ (j : Nat), i = .int .i64 j ∧ j ≤ fn ∧ Step [] id id w wr ∧ ∀ t (ht : t < f.length), t < j → f[t].1 ≠ nm) (fun i _ => fn - (intOf i).toNat)
  case atStart => exact ⟨0, rfl, Nat.zero_le _, Step.refl _ _ _, fun t _ h => absurd h (Nat.not_lt_zero _)⟩
  case round =>
    obtain ⟨j, rfl, hj, hst, htk⟩ := hrel
    have htkH := Lib.hid htk
    clear htk
    by_cases hjl : j < fn
    · have hjl1 : (j : Int) < (fn : Int) := by omega
      have hj0 : (0 : Int) ≤ (j : Int) := by omega
      have hjf : j < f.length := by rw [← hfnH.out]; exact hjl
      obtain ⟨b1, o1, cs, hae, -, hnl, hrng, hx⟩ := (FIs.keep (P2 := P) (fun _ h => h) (fun k hP hk => (hst.keep k hk (by simp)).2) f fa 0 hfH.out).get hjf
      subst hae
      obtain ⟨s1, bb1, bbn1, bbc1, ff1, ffn1, ffc1, ll1, lln1, llc1, hcs, -⟩ := hx.six
      obtain ⟨kk1, hkk⟩ : ∃ k, k = f[j].2.kind := ⟨_, rfl⟩
      obtain ⟨nn1, hnn⟩ : ∃ k, k = f[j].2.num := ⟨_, rfl⟩
      obtain ⟨N1, hN1⟩ : ∃ k, k = strOf f[j].1 := ⟨_, rfl⟩
      rw [← hkk, ← hnn] at hcs
      rw [hcs, Nat.zero_add, ← hN1] at hrng
      subst hcs
      have q0 := hrng 0 _ rfl
      have q1 := hrng 1 _ rfl
      have q2 := hrng 2 _ rfl
      have q3 := hrng 3 _ rfl
      have q4 := hrng 4 _ rfl
      have q5 := hrng 5 _ rfl
      have q6 := hrng 6 _ rfl
      rw [Nat.add_zero] at q0
      have hb1l := World.block_lt_of_cell? wr _ q0
      have hwrap : IntKind.i64.wrap ((j : Int) + 1) = (j : Int) + 1 := IntWalk.i64_in _ (by omega)
      have hVr : wr.cell? ⟨V, 0, none⟩ = some (.string S) := (World.cell?_of_block (a := ⟨V, 0, none⟩) ((hst.keep V (World.block_lt_of_cell? w _ hVH.out) (by simp)).2)).trans hVH.out
      have hcall := Lib.hid (hFH.out N1 S V kk1 nn1 s1 (.slice bb1 bbn1 bbc1) (.slice ff1 ffn1 ffc1) (.slice ll1 lln1 llc1) wr hVr)
      have hNe := Lib.hid (show N1 = S ↔ f[j].1 = nm by rw [hN1, hSH.out]; exact strOf_eq)
      have hstH := Lib.hid hst
      clear hst hrng hx hkk hnn hnl hN1 hVr
      go_wp2_with fail
      refine hcall.out.mono ?_
      rintro e w3 ⟨rfl, hs3⟩
      have hs3H := Lib.hid hs3
      clear hs3 q0 q1 q2 q3 q4 q5 q6
      by_cases hd : N1 = S
      · rw [decide_eq_true hd]
        have hdH := Lib.hid hd
        clear hd
        go_wp2_with fail
        go_ret
        refine ⟨?_, hstH.out.tail hs3H.out⟩
        unfold idxI
        rw [findN_at hjf (hNe.out.1 hdH.out) htkH.out]
        rfl
      · rw [decide_eq_false hd]
        have hdH := Lib.hid hd
        clear hd
        go_wp2_with fail
        go_roundw
        case rel =>
          refine ⟨j + 1, by go_num, by omega, hstH.out.tail hs3H.out, fun t ht hlt => ?_⟩
          rcases Nat.lt_or_ge t j with h | h
          · exact htkH.out t ht h
          · obtain rfl : t = j := by omega
            exact fun e => hdH.out (hNe.out.2 e)
        case measure => simp [intOf]; omega
    · have hjl1 : ¬ (j : Int) < (fn : Int) := by omega
      have hstH := Lib.hid hst
      clear hst
      go_wp2_with fail
      go_ret
      refine ⟨?_, hstH.out⟩
      unfold idxI
      rw [findN_none (fun t ht => htkH.out t ht (by have := hfnH.out; omega))]
      rfl

/-- Where a field of a name stands. -/
def atI (x : Val) (nm : Bs) : Int := if x.kind = 6 then idxI nm x.f else -1
theorem callFunc_at1 (caps : Array Value) (w : World) : (callFunc 73 caps).run Tryd.prog w = .ok (.enter 73 caps) w := by kernel_rfl
theorem callFunc_wo1 (caps : Array Value) (w : World) : (callFunc 71 caps).run Tryd.prog w = .ok (.enter 71 caps) w := by kernel_rfl
set_option maxRecDepth 100000 in
set_option maxHeartbeats 4000000 in
theorem bs_at {P : Nat → Prop} {x : Val} {cs : List Value} {w : World} {nm : Bs} {S : ByteArray} (hS : S = strOf nm) (hx : VIs P w x cs) : Calls Tryd.prog 44 #[.agg cs.toArray, .string S] w (IsI (atI x nm) w) := by
  obtain ⟨bv, fa, fc, la, lc, hcs, hb, ⟨hfc, hlc, hfn, hln⟩, -, ⟨-, -, hf2, -⟩, hf, hl⟩ := hx.cells
  obtain ⟨ba, bc, rfl⟩ := hb.shape
  obtain ⟨n0, hn0⟩ : ∃ k, k = x.num := ⟨_, rfl⟩
  obtain ⟨k0, hk0⟩ : ∃ k, k = x.kind := ⟨_, rfl⟩
  obtain ⟨s0, hs0⟩ : ∃ k, k = strOf x.s := ⟨_, rfl⟩
  obtain ⟨bn, hbn⟩ : ∃ k, k = x.b.length := ⟨_, rfl⟩
  obtain ⟨ln, hlnn⟩ : ∃ k, k = x.l.length := ⟨_, rfl⟩
  obtain ⟨fn, hfnn⟩ : ∃ k, k = x.f.length := ⟨_, rfl⟩
  rw [← hk0, ← hn0, ← hs0, ← hbn, ← hlnn, ← hfnn] at hcs
  subst hcs
  have hcall := Lib.hid (fun (W : World) (hW : Step [] id id w W) (V : Nat) (hV : W.cell? ⟨V, 0, none⟩ = some (.string S)) =>
    index_f (fc := fc) callFunc_at1 at1_test (P := P) (nm := nm) hfnn (FIs.keep (P2 := P) (fun _ h => h) (fun k hP hk => (hW.keep k hk (by simp)).2) x.f fa 0 hf) (by omega) (by rw [← hS]; exact hV))
  have hk0H := Lib.hid hk0
  clear hx hf hl hb hn0 hk0 hs0 hbn hlnn hfnn hf2 hfc hlc hfn hln hS
  by_cases hk : k0 = 6
  · have hki : x.kind = 6 := by rw [← hk0H.out]; exact hk
    subst hk
    have hkiH := Lib.hid hki
    clear hki hk0H
    go_enter Tryd.func44, Tryd.ntmps44
    go_wp2_with fail
    refine (hcall.out _ ((Step.alloc _).tail (Step.alloc _)) _ (by go_simp)).mono ?_
    rintro e w3 ⟨rfl, hs3⟩
    have hs3H := Lib.hid hs3
    clear hs3
    go_wp2_with fail
    go_ret
    refine ⟨?_, ((Step.alloc _).tail (Step.alloc _)).tail hs3H.out⟩
    unfold atI
    rw [if_pos hkiH.out]
    rfl
  · have hd : (k0 != 6) = true := by rw [bne_iff_ne]; exact hk
    have hkiH := Lib.hid (show x.kind ≠ 6 by rw [← hk0H.out]; exact hk)
    clear hk hk0H
    go_enter Tryd.func44, Tryd.ntmps44
    go_wp2_with fail
    go_ret
    refine ⟨?_, (Step.alloc _).tail (Step.alloc _)⟩
    unfold atI
    rw [if_neg hkiH.out]
    rfl
end Go.Proofs.YtbkmnhogfegmcaaDoor
namespace Go.Proofs.YtbkmnhogfegmcaaDoor
open Go.RowKit

theorem results_at {fn : Func} {tmps : Array Value} {w : World} {S V : Nat} {v0 v1 v2 v3 v4 v5 : Value} {t : TypeId} (hfn : fn.results = #[.cell S 27]) (ht : tmps.getD S undef = .pointer (some ⟨V, 0, none⟩)) (hb : w.heap[V]? = some (.cells #[v0, v1, v2, v3, v4, v5] t (0, 0))) :
    (results fn tmps).run Tryd.prog w = .ok (.agg #[v0, v1, v2, v3, v4, v5]) w := by
  have p0 := cell_blk hb (i := 0) rfl
  have p1 := cell_blk hb (i := 1) rfl
  have p2 := cell_blk hb (i := 2) rfl
  have p3 := cell_blk hb (i := 3) rfl
  have p4 := cell_blk hb (i := 4) rfl
  have p5 := cell_blk hb (i := 5) rfl
  simp at p0 p1 p2 p3 p4 p5
  have ht' : tmps[S]?.getD undef = .pointer (some ⟨V, 0, none⟩) := by simpa using ht
  simp [results, hfn, ht', go_sem, p0, p1, p2, p3, p4, p5]

theorem cells_of6 {w : World} {V : Nat} {v0 v1 v2 v3 v4 v5 : Value} {t : TypeId} (h : w.heap[V]? = some (.cells #[v0, v1, v2, v3, v4, v5] t (0, 0))) :
    w.cell? ⟨V, 0, none⟩ = some v0 ∧ w.cell? ⟨V, 1, none⟩ = some v1 ∧ w.cell? ⟨V, 2, none⟩ = some v2 ∧ w.cell? ⟨V, 3, none⟩ = some v3 ∧ w.cell? ⟨V, 4, none⟩ = some v4 ∧ w.cell? ⟨V, 5, none⟩ = some v5 :=
  ⟨cell_blk h (i := 0) rfl, cell_blk h (i := 1) rfl, cell_blk h (i := 2) rfl, cell_blk h (i := 3) rfl, cell_blk h (i := 4) rfl, cell_blk h (i := 5) rfl⟩

/-- A value is answered: its blocks are P's. -/
def ValP (P : Nat → Prop) (y : Val) (w : World) (e : Ending) (w' : World) : Prop := ∃ ds : List Value, e = .returned (.agg ds.toArray) ∧ VIs P w' y ds ∧ Step [] id id w w'
theorem VIs.zero (P : Nat → Prop) (w : World) : VIs P w (Val.bare 0) [.int .i64 0, .int .i64 0, (.string ⟨#[]⟩), (.slice none 0 0), (.slice none 0 0), (.slice none 0 0)] :=
  VIs.mk ⟨(.slice none 0 0), none, 0, none, 0, rfl, .inl ⟨none, 0, rfl, rfl, fun _ => rfl⟩, ⟨Nat.le_refl _, Nat.le_refl _, fun _ => rfl, fun _ => rfl⟩, ⟨by decide, by decide, by decide, by decide⟩, ⟨by simp [Val.bare, Val.s], by simp [Val.bare, Val.b], by simp [Val.bare, Val.f], by simp [Val.bare, Val.l]⟩, by simp [Val.bare, Val.f, FIs], by simp [Val.bare, Val.l, LIs]⟩
theorem getV_neg {x : Val} {nm : Bs} (h : atI x nm < 0) : getV x nm = Val.bare 0 := by
  unfold getV
  unfold atI at h
  by_cases hk : x.kind = 6
  · rw [if_pos hk] at h ⊢
    unfold idxI at h
    cases hf : findN nm x.f with
    | none => exact getF_none hf
    | some i => rw [hf] at h; exact absurd h (by show ¬ (i : Int) < 0; omega)
  · rw [if_neg hk]
theorem getV_at {x : Val} {nm : Bs} {j : Nat} (h : (j : Int) = atI x nm) : ∃ hj : j < x.f.length, getV x nm = x.f[j].2 ∧ findN nm x.f = some j ∧ x.kind = 6 := by
  unfold atI at h
  unfold getV
  by_cases hk : x.kind = 6
  · rw [if_pos hk] at h ⊢
    unfold idxI at h
    cases hf : findN nm x.f with
    | none => rw [hf] at h; exact absurd h (by show ¬ (j : Int) = -1; omega)
    | some i =>
      rw [hf] at h
      obtain rfl : j = i := by have h2 : (j : Int) = (i : Int) := h; omega
      obtain ⟨h1, h2⟩ := getF_at hf
      exact ⟨h1, h2, rfl, hk⟩
  · rw [if_neg hk] at h; exact absurd h (by omega)
set_option maxRecDepth 100000 in
set_option maxHeartbeats 4000000 in
theorem bs_get {P : Nat → Prop} {x : Val} {cs : List Value} {w : World} {nm : Bs} {S : ByteArray} (hS : S = strOf nm) (hx : VIs P w x cs) : Calls Tryd.prog 22 #[.agg cs.toArray, .string S] w (ValP P (getV x nm) w) := by
  obtain ⟨bv, fa, fc, la, lc, hcs, hb, ⟨hfc, hlc, hfn, hln⟩, -, ⟨-, -, hf2, -⟩, hf, hl⟩ := hx.cells
  obtain ⟨ba, bc, rfl⟩ := hb.shape
  obtain ⟨n0, hn0⟩ : ∃ k, k = x.num := ⟨_, rfl⟩
  obtain ⟨k0, hk0⟩ : ∃ k, k = x.kind := ⟨_, rfl⟩
  obtain ⟨s0, hs0⟩ : ∃ k, k = strOf x.s := ⟨_, rfl⟩
  obtain ⟨bn, hbn⟩ : ∃ k, k = x.b.length := ⟨_, rfl⟩
  obtain ⟨ln, hlnn⟩ : ∃ k, k = x.l.length := ⟨_, rfl⟩
  obtain ⟨fn, hfnn⟩ : ∃ k, k = x.f.length := ⟨_, rfl⟩
  rw [← hk0, ← hn0, ← hs0, ← hbn, ← hlnn, ← hfnn] at hcs
  subst hcs
  have hcall := Lib.hid (fun (W : World) (hW : Step [] id id w W) => bs_at (P := P) hS (hx.keep (P2 := P) (w' := W) (fun _ h => h) (fun k hP hk => (hW.keep k hk (by simp)).2)))
  obtain ⟨W1, hW1⟩ : ∃ W1, W1 = w.alloc (.cells #[.int .i64 k0, .int .i64 n0, .string s0, .slice ba bn bc, .slice fa fn fc, .slice la ln lc] 27) := ⟨_, rfl⟩
  obtain ⟨W2, hW2⟩ : ∃ W2, W2 = W1.alloc (.cells #[.int .i64 0, .int .i64 0, (.string ⟨#[]⟩), (.slice none 0 0), (.slice none 0 0), (.slice none 0 0)] 27) := ⟨_, rfl⟩
  have z1 : W1.heap.size = w.heap.size + 1 := by rw [hW1]; simp
  have hst2 : Step [] id id w W2 := by rw [hW2, hW1]; exact (Step.alloc _).tail (Step.alloc _)
  have hV : W2.heap[w.heap.size]? = some (.cells #[.int .i64 k0, .int .i64 n0, .string s0, .slice ba bn bc, .slice fa fn fc, .slice la ln lc] 27 (0, 0)) := by rw [hW2]; refine alloc_old ?_; rw [hW1]; exact heap_alloc_new w _
  have hR : W2.heap[w.heap.size + 1]? = some ((.cells #[.int .i64 0, .int .i64 0, (.string ⟨#[]⟩), (.slice none 0 0), (.slice none 0 0), (.slice none 0 0)] 27)) := by rw [hW2, ← z1]; exact heap_alloc_new W1 _
  have hxH := Lib.hid hx
  have hfH := Lib.hid (FIs.below x.f fa 0 hf)
  have hVH := Lib.hid hV
  have hRH := Lib.hid hR
  have hst2H := Lib.hid hst2
  have hW1H := Lib.hid hW1
  have hW2H := Lib.hid hW2
  have hk0H := Lib.hid hk0
  have hfnH := Lib.hid hfnn
  clear hx hf hl hb hn0 hk0 hs0 hbn hlnn hfnn hfc hlc hfn hln hS hV hR hst2 hW1 hW2 z1
  go_enter Tryd.func22, Tryd.ntmps22
  go_wp2_with fail
  rw [← hW1H.out, ← hW2H.out]
  refine (hcall.out _ hst2H.out).mono ?_
  rintro e w3 ⟨rfl, hs3⟩
  obtain ⟨r, hr⟩ : ∃ r, r = atI x nm := ⟨_, rfl⟩
  rw [← hr]
  have hV3 := hs3.at hVH.out (by simp)
  have hR3 := hs3.at hRH.out (by simp)
  obtain ⟨v0, v1, v2, v3, v4, v5⟩ := cells_of6 hV3
  obtain ⟨r0, r1, r2, r3, r4, r5⟩ := cells_of6 hR3
  have fr := free_blk hR3
  have fr0 := fr 0
  have fr1 := fr 1
  have fr2 := fr 2
  have fr3 := fr 3
  have fr4 := fr 4
  have fr5 := fr 5
  have hVl : w.heap.size < w3.heap.size := lt_of_block hV3
  have hRl : w.heap.size + 1 < w3.heap.size := lt_of_block hR3
  have hs3H := Lib.hid hs3
  have hrH := Lib.hid hr
  have hR3H := Lib.hid hR3
  have hV3H := Lib.hid hV3
  clear hs3 hr hV3 hR3 fr
  have hz2 : w.heap.size + 1 < W2.heap.size := by rw [hW2H.out, hW1H.out]; simp
  by_cases hneg : r < 0
  · go_wp2_with fail
    change bodyPost _ _ _ _ _ (set6 w3 (w.heap.size + 1) (.int .i64 0) (.int .i64 0) (.string ⟨#[]⟩) (.slice none 0 0) (.slice none 0 0) (.slice none 0 0))
    refine bodyPost_ret (results_at rfl rfl (set6_heap hR3H.out)) rfl ?_
    rw [getV_neg (by rw [← hrH.out]; exact hneg)]
    exact ⟨_, rfl, VIs.zero _ _, hst2H.out.tailNew ((hs3H.out.mono (T2 := [w.heap.size + 1]) (by simp)).tail (.grown set6_grown (fun k hk => by cases hk; simp))) (fun r hr => .inr (by rw [List.mem_singleton] at hr; omega))⟩
  · obtain ⟨j, rfl⟩ : ∃ j : Nat, r = (j : Int) := ⟨r.toNat, by omega⟩
    obtain ⟨hj, hg, -, -⟩ := getV_at hrH.out
    obtain ⟨fb, fo, ds, hae, hPb, hnl, hrng, hxj⟩ := (FIs.keep (P2 := fun k => P k ∧ k < w.heap.size) (fun _ h => h) (fun k hP hk => ((hst2H.out.tail hs3H.out).keep k hk (by simp)).2) x.f fa 0 hfH.out).get hj
    subst hae
    obtain ⟨s1, ba2, bn2, bc2, fa2, fn2, fc2, la2, ln2, lc2, hds, -⟩ := hxj.six
    obtain ⟨n1, hn1⟩ : ∃ k, k = x.f[j].2.num := ⟨_, rfl⟩
    obtain ⟨k1, hk1⟩ : ∃ k, k = x.f[j].2.kind := ⟨_, rfl⟩
    rw [← hk1, ← hn1] at hds
    rw [hds, Nat.zero_add] at hrng
    subst hds
    have q1 := hrng 1 _ rfl
    have q2 : w3.cell? ⟨fb, fo + j * 7 + 1 + 1, none⟩ = some (.int .i64 n1) := hrng 2 _ rfl
    have q3 : w3.cell? ⟨fb, fo + j * 7 + 1 + 2, none⟩ = some (.string s1) := by rw [Nat.add_assoc (fo + j * 7)]; exact hrng 3 _ rfl
    have q4 : w3.cell? ⟨fb, fo + j * 7 + 1 + 3, none⟩ = some (.slice ba2 bn2 bc2) := by rw [Nat.add_assoc (fo + j * 7)]; exact hrng 4 _ rfl
    have q5 : w3.cell? ⟨fb, fo + j * 7 + 1 + 4, none⟩ = some (.slice fa2 fn2 fc2) := by rw [Nat.add_assoc (fo + j * 7)]; exact hrng 5 _ rfl
    have q6 : w3.cell? ⟨fb, fo + j * 7 + 1 + 5, none⟩ = some (.slice la2 ln2 lc2) := by rw [Nat.add_assoc (fo + j * 7)]; exact hrng 6 _ rfl
    have hb1l := World.block_lt_of_cell? w3 _ q1
    have hj1 : (j : Int) < (fn : Int) := by rw [hfnH.out]; omega
    have hj0 : (0 : Int) ≤ (j : Int) := by omega
    have hgH := Lib.hid hg
    have hxjH := Lib.hid hxj
    clear hg hxj hrng hn1 hk1 hnl hPb
    go_wp2_with fail
    change bodyPost _ _ _ _ _ (set6 w3 (w.heap.size + 1) (.int .i64 k1) (.int .i64 n1) (.string s1) (.slice ba2 bn2 bc2) (.slice fa2 fn2 fc2) (.slice la2 ln2 lc2))
    refine bodyPost_ret (results_at rfl rfl (set6_heap hR3H.out)) rfl ?_
    rw [hgH.out]
    have hsf := (hs3H.out.mono (T2 := [w.heap.size + 1]) (by simp)).tail (.grown (set6_grown (w := w3) (V := w.heap.size + 1) (v0 := .int .i64 k1) (v1 := .int .i64 n1) (v2 := .string s1) (v3 := .slice ba2 bn2 bc2) (v4 := .slice fa2 fn2 fc2) (v5 := .slice la2 ln2 lc2)) (fun k hk => by cases hk; simp))
    exact ⟨_, rfl, hxjH.out.keep (fun _ h => h.1) (fun k hP hk => set6_grown.block k hk (by intro e; injection e with e; have := hP.2; omega)), hst2H.out.tailNew hsf (fun r hr => .inr (by rw [List.mem_singleton] at hr; omega))⟩
end Go.Proofs.YtbkmnhogfegmcaaDoor
namespace Go.Proofs.YtbkmnhogfegmcaaDoor
open Go.RowKit

/-- So many cells are set in a list. -/
def setL (xs : List Value) : Nat → List Value → List Value
  | _, [] => xs
  | o, v :: r => setL (xs.set o v) (o + 1) r
theorem setL_len : ∀ (vs : List Value) (xs : List Value) (o : Nat), (setL xs o vs).length = xs.length
  | [], xs, o => rfl
  | v :: r, xs, o => by rw [setL, setL_len r]; simp
theorem setL_far : ∀ (vs : List Value) (xs : List Value) (o k : Nat), k < o ∨ o + vs.length ≤ k → (setL xs o vs)[k]? = xs[k]?
  | [], xs, o, k, _ => rfl
  | v :: r, xs, o, k, h => by
    rw [setL, setL_far r _ _ _ (by simp at h; omega), List.getElem?_set_ne (by simp at h; omega)]
theorem setL_at : ∀ (vs : List Value) (xs : List Value) (o t : Nat), o + vs.length ≤ xs.length → t < vs.length → (setL xs o vs)[o + t]? = vs[t]?
  | [], xs, o, t, _, h => by simp at h
  | v :: r, xs, o, 0, h, _ => by
    rw [setL, setL_far r _ _ _ (.inl (by omega)), Nat.add_zero, List.getElem?_set_self (by simp at h; omega)]; rfl
  | v :: r, xs, o, t + 1, h, ht => by
    rw [setL, show o + (t + 1) = o + 1 + t by omega, setL_at r _ _ _ (by simp at h ⊢; omega) (by simpa using ht)]; rfl
section
variable {w : World} {e : TypeId} {size g n cap : Nat}
theorem setCells_row : ∀ (vs : List Value) (o : Nat) (w : World) (xs : List Value), w.ownsRow 0 e size (.slice (some ⟨g, 0, none⟩) n cap) n xs →
    (w.setCells g o vs).ownsRow 0 e size (.slice (some ⟨g, 0, none⟩) n cap) n (setL xs o vs) ∧ w.grownBy (w.setCells g o vs) (some g)
  | [], o, w, xs, h => ⟨h, grown_refl _ _⟩
  | v :: r, o, w, xs, h => by
    obtain ⟨h1, g1⟩ := h.stored o v
    obtain ⟨h2, g2⟩ := setCells_row r (o + 1) _ _ h1
    exact ⟨h2, g1.trans g2⟩
theorem ownsRow_take {a : Option Addr} {xs : List Value} (h : w.ownsRow 0 e size (.slice a n cap) n xs) {i : Nat} (hi : i ≤ n) (h0 : 0 < n) : w.ownsRow 0 e size (.slice a i cap) i (xs.take (i * size)) := by
  obtain ⟨hl, h⟩ := h
  have hm : i * size ≤ n * size := Nat.mul_le_mul_right _ hi
  refine ⟨by rw [List.length_take]; omega, ?_⟩
  rcases h with ⟨e, h⟩ | ⟨g, cap', cur, e, hb, hg, h1, h2, h3, h4⟩
  · omega
  · injection e with e1 e2 e3
    subst e1 e3
    refine .inr ⟨g, cap, cur, rfl, hb, hg, by omega, h2, h3, ?_⟩
    rw [← h4, List.take_take, Nat.min_eq_left hm]

/-- 'clear(s)': the cells hold the zero value's. -/
theorem run_clear_row {P : Program} (w : World) (t e ty : TypeId) (z : Value) (ht : P.underlying t = some (.slice e)) (hv : ∀ w, (zeroValue e).run P w = .ok z w) (hz : 0 < z.cells.size) (h1 : ∀ u ∈ z.cells.toList, u.oneCell' = true) (b o n c : Nat) (hn : 0 < n)
    (hc : ∀ j, j < n * z.cells.size → (w.cell? ⟨b, o + j, none⟩).isSome = true) (hf : ∀ j, j < n * z.cells.size → w.frozen? ⟨b, o + j, none⟩ = false) :
    (Builtin.clear_ #[t] ty #[.slice (some ⟨b, o, none⟩) n c]).run P w = .ok (.tuple #[]) (w.setCells b o (Builtin.zeroCells z.cells n).toList) := by
  have hl : (Builtin.zeroCells z.cells n).toList.length = n * z.cells.size := by simp [Builtin.zeroCells]
  have hst := run_storeCells_cells (P := P) b o (Builtin.zeroCells z.cells n).toList 0 w (by rw [hl]; exact hc) (by rw [hl]; exact hf) (by
    intro v hv'
    simp only [Builtin.zeroCells, Array.toList_map, List.mem_map] at hv'
    obtain ⟨i, -, rfl⟩ := hv'
    have hi : i % z.cells.size < z.cells.size := Nat.mod_lt _ hz
    apply h1
    rw [getElem!_pos z.cells _ hi]
    exact Array.getElem_mem_toList hi)
  simp only [Nat.add_zero] at hst
  obtain ⟨m, rfl⟩ : ∃ m, n = m + 1 := ⟨n - 1, by omega⟩
  simp [Builtin.clear_, run_underlying ht, hv, hst]
end

/-! fields, plain -/
def woF (nm : Bs) (f : List (Bs × Val)) : List (Bs × Val) := f.filter (fun p => decide (p.1 ≠ nm))
def keptF (nm : Bs) (f : List (Bs × Val)) (q : Nat) : List (Bs × Val) := woF nm (f.take q)
def mixF (nm : Bs) (f : List (Bs × Val)) (q : Nat) : List (Bs × Val) := keptF nm f q ++ f.drop (keptF nm f q).length
section
variable {nm : Bs} {f : List (Bs × Val)} {q i : Nat}
theorem keptF_le : (keptF nm f q).length ≤ q := Nat.le_trans (List.length_filter_le _ _) (List.length_take_le _ _)
theorem keptF_le2 : (keptF nm f q).length ≤ f.length := Nat.le_trans (List.length_filter_le _ _) (by rw [List.length_take]; omega)
theorem mixF_len : (mixF nm f q).length = f.length := by
  unfold mixF
  rw [List.length_append, List.length_drop]
  have := keptF_le2 (nm := nm) (f := f) (q := q)
  omega
theorem keptF_end (h : f.length ≤ q) : keptF nm f q = woF nm f := by unfold keptF; rw [List.take_of_length_le h]
theorem keptF_step (hq : q < f.length) : keptF nm f (q + 1) = keptF nm f q ++ if f[q].1 = nm then [] else [f[q]] := by
  unfold keptF woF
  rw [List.take_succ_eq_append_getElem hq, List.filter_append]
  congr 1
  by_cases h : f[q].1 = nm <;> simp [h]
theorem keptF_before (h : ∀ t (ht : t < f.length), t < i → f[t].1 ≠ nm) : keptF nm f i = f.take i := by
  unfold keptF woF
  rw [List.filter_eq_self]
  intro p hp
  obtain ⟨t, ht, rfl⟩ := List.getElem_of_mem hp
  rw [List.length_take] at ht
  have := h t (by omega) (by omega)
  simpa [List.getElem_take] using this
theorem keptF_first (hi : i < f.length) (h1 : f[i].1 = nm) (h : ∀ t (ht : t < f.length), t < i → f[t].1 ≠ nm) : keptF nm f (i + 1) = f.take i := by
  rw [keptF_step hi, if_pos h1, keptF_before h, List.append_nil]
theorem keptF_lt : ∀ {q : Nat}, (hi : i < f.length) → f[i].1 = nm → (h : ∀ t (ht : t < f.length), t < i → f[t].1 ≠ nm) → i < q → (keptF nm f q).length < q
  | 0, _, _, _, h => absurd h (Nat.not_lt_zero _)
  | q + 1, hi, h1, h2, hq => by
    rcases Nat.lt_or_ge i q with h | h
    · have ih := keptF_lt hi h1 h2 h
      by_cases hl : q < f.length
      · rw [keptF_step hl, List.length_append]
        split <;> simp <;> omega
      · rw [keptF_end (by omega)]
        rw [keptF_end (by omega)] at ih
        omega
    · obtain rfl : i = q := by omega
      rw [keptF_first hi h1 h2, List.length_take]
      omega
theorem mixF_first (hi : i < f.length) (h1 : f[i].1 = nm) (h : ∀ t (ht : t < f.length), t < i → f[t].1 ≠ nm) : mixF nm f (i + 1) = f := by
  unfold mixF
  rw [keptF_first hi h1 h, List.length_take, Nat.min_eq_left (by omega), List.take_append_drop]
theorem mixF_get (hq : q < f.length) (hk : (keptF nm f q).length ≤ q) : (mixF nm f q)[q]'(by rw [mixF_len]; exact hq) = f[q] := by
  have : (mixF nm f q)[q]? = some f[q] := by
    unfold mixF
    rw [List.getElem?_append_right hk, List.getElem?_drop, Nat.add_sub_cancel' hk, List.getElem?_eq_getElem hq]
  rw [List.getElem?_eq_getElem (by rw [mixF_len]; exact hq)] at this
  exact Option.some.inj this
theorem mixF_keep (hq : q < f.length) (h : f[q].1 ≠ nm) : mixF nm f (q + 1) = (mixF nm f q).set (keptF nm f q).length f[q] := by
  have hk := keptF_le (nm := nm) (f := f) (q := q)
  have e : keptF nm f (q + 1) = keptF nm f q ++ [f[q]] := by rw [keptF_step hq, if_neg h]
  unfold mixF
  rw [e, List.length_append, List.length_singleton, List.set_append_right _ _ (Nat.le_refl _), Nat.sub_self, List.append_assoc]
  congr 1
  rw [List.drop_eq_getElem_cons (i := (keptF nm f q).length) (by omega)]
  rfl
theorem mixF_drop (hq : q < f.length) (h : f[q].1 = nm) : mixF nm f (q + 1) = mixF nm f q := by
  unfold mixF
  rw [keptF_step hq, if_pos h, List.append_nil]
theorem woF_none (h : findN nm f = none) : woF nm f = f := by
  unfold woF
  rw [List.filter_eq_self]
  intro p hp
  simpa using findN_none_iff.1 h p hp
end
/-- A field with a name: in its place, or behind all. -/
def withF (nm : Bs) (x : Val) (f : List (Bs × Val)) : List (Bs × Val) := match findN nm f with | some i => f.set i (nm, x) | none => f ++ [(nm, x)]
def woV (v : Val) (nm : Bs) : Val := if v.kind = 6 then .mk v.kind v.num v.s v.b (woF nm v.f) v.l else v
def withV (v : Val) (nm : Bs) (x : Val) : Val := if v.kind ≠ 6 then v else if x.kind = 0 then woV v nm else .mk v.kind v.num v.s v.b (withF nm x v.f) v.l

/-! rows of fields -/
section
variable {P : Nat → Prop} {w : World}
theorem FRow.take {f h : List (Bs × Val)} {xs : List Value} (hr : FRow (fun _ => P) w (f ++ h) xs) : FRow (fun _ => P) w f (xs.take (f.length * 7)) := by
  have hl := hr.1
  rw [List.length_append] at hl
  refine ⟨by rw [List.length_take]; omega, fun i hi => ?_⟩
  obtain ⟨h1, cs, h2, h3⟩ := hr.2 i (by rw [List.length_append]; omega)
  have e : (f ++ h)[i]'(by rw [List.length_append]; omega) = f[i] := List.getElem_append_left hi
  rw [e] at h1 h2 h3
  refine ⟨h1, cs, ?_, h3⟩
  rw [← h2]
  refine piece_ext fun t ht => ?_
  rw [List.getElem?_take, if_pos (by omega)]
/-- One place holds another field. -/
theorem FRow.set {f : List (Bs × Val)} {xs : List Value} (hr : FRow (fun _ => P) w f xs) {i : Nat} (hi : i < f.length) {nm : Bs} {y : Val} {cs : List Value} (hn : nm.length ≤ 140737488351232) (hc : cs.length = 6) (hv : VIs P w y cs) :
    FRow (fun _ => P) w (f.set i (nm, y)) (setL xs (i * 7) (.string (strOf nm) :: cs)) := by
  refine ⟨by rw [setL_len, hr.1, List.length_set], fun j hj => ?_⟩
  rw [List.length_set] at hj
  by_cases hij : i = j
  · subst hij
    rw [List.getElem_set_self]
    exact ⟨hn, cs, piece_is (by simp [hc]) (fun t ht => setL_at _ _ _ _ (by have := hr.1; simp [hc]; omega) (by simp [hc]; omega)), hv⟩
  · rw [List.getElem_set_ne hij]
    obtain ⟨h1, cs', h2, h3⟩ := hr.2 j hj
    refine ⟨h1, cs', ?_, h3⟩
    rw [← h2]
    exact piece_ext fun t ht => setL_far _ _ _ _ (by simp [hc]; omega)
/-- .. and one more behind. -/
theorem FRow.snoc {f : List (Bs × Val)} {xs : List Value} (hr : FRow (fun _ => P) w f xs) {nm : Bs} {y : Val} {cs : List Value} (hn : nm.length ≤ 140737488351232) (hc : cs.length = 6) (hv : VIs P w y cs) :
    FRow (fun _ => P) w (f ++ [(nm, y)]) (xs ++ (.string (strOf nm) :: cs)) := by
  refine ⟨by simp [hr.1, hc]; omega, fun j hj => ?_⟩
  rw [List.length_append, List.length_singleton] at hj
  rcases Nat.lt_or_ge j f.length with h | h
  · rw [List.getElem_append_left h]
    obtain ⟨h1, cs', h2, h3⟩ := hr.2 j h
    refine ⟨h1, cs', ?_, h3⟩
    rw [← h2]
    refine piece_ext fun t ht => ?_
    rw [List.getElem?_append_left (by have := hr.1; omega)]
  · obtain rfl : j = f.length := by omega
    rw [List.getElem_append_right (Nat.le_refl _)]
    simp only [Nat.sub_self, List.getElem_cons_zero]
    refine ⟨hn, cs, piece_is (by simp [hc]) (fun t ht => ?_), hv⟩
    rw [List.getElem?_append_right (by have := hr.1; omega), hr.1]
    congr 1
    omega
end
end Go.Proofs.YtbkmnhogfegmcaaDoor
namespace Go.Proofs.YtbkmnhogfegmcaaDoor
open Go.RowKit

theorem cells_of7 {w : World} {V : Nat} {v0 v1 v2 v3 v4 v5 v6 : Value} {t : TypeId} (h : w.heap[V]? = some (.cells #[v0, v1, v2, v3, v4, v5, v6] t (0, 0))) :
    w.cell? ⟨V, 0, none⟩ = some v0 ∧ w.cell? ⟨V, 1, none⟩ = some v1 ∧ w.cell? ⟨V, 2, none⟩ = some v2 ∧ w.cell? ⟨V, 3, none⟩ = some v3 ∧ w.cell? ⟨V, 4, none⟩ = some v4 ∧ w.cell? ⟨V, 5, none⟩ = some v5 ∧ w.cell? ⟨V, 6, none⟩ = some v6 :=
  ⟨cell_blk h (i := 0) rfl, cell_blk h (i := 1) rfl, cell_blk h (i := 2) rfl, cell_blk h (i := 3) rfl, cell_blk h (i := 4) rfl, cell_blk h (i := 5) rfl, cell_blk h (i := 6) rfl⟩
def DelP (P : Nat → Prop) (nm : Bs) (f : List (Bs × Val)) (fa : Option Addr) (fc : Nat) (w : World) (e : Ending) (w' : World) : Prop :=
  ∃ us, e = .returned (.slice fa (woF nm f).length fc) ∧ w'.ownsRow 0 44 7 (.slice fa (woF nm f).length fc) (woF nm f).length us ∧ FRow (fun _ => P) w' (woF nm f) us ∧ Step (Value.slice fa f.length fc).ownBlock.toList id id w w'
theorem zero_field (w : World) : (zeroValue 44).run Tryd.prog w = .ok (.agg #[.string ⟨#[]⟩, .int .i64 0, .int .i64 0, .string ⟨#[]⟩, .slice none 0 0, .slice none 0 0, .slice none 0 0]) w := by kernel_rfl
theorem clear_fields {w : World} {g n fc : Nat} {xs : List Value} (hown : w.ownsRow 0 44 7 (.slice (some ⟨g, 0, none⟩) n fc) n xs) {k : Nat} (hk : k < n) :
    (Builtin.clear_ #[24] 0 #[.slice (some ⟨g, k * 7, none⟩) (n - k) (fc - k)]).run Tryd.prog w = .ok (.tuple #[]) (w.setCells g (k * 7) (Builtin.zeroCells (Value.cells (.agg #[.string ⟨#[]⟩, .int .i64 0, .int .i64 0, .string ⟨#[]⟩, .slice none 0 0, .slice none 0 0, .slice none 0 0])) (n - k)).toList) := by
  have hul : xs.length = n * 7 := hown.1
  refine run_clear_row w 24 44 0 (.agg #[.string ⟨#[]⟩, .int .i64 0, .int .i64 0, .string ⟨#[]⟩, .slice none 0 0, .slice none 0 0, .slice none 0 0]) Tryd.underlying24 zero_field (by decide) (by intro u hu; simp only [Value.cells, List.mem_cons, List.mem_nil_iff, or_false] at hu; rcases hu with rfl | rfl | rfl | rfl | rfl | rfl | rfl <;> rfl) g (k * 7) (n - k) (fc - k) (by omega) (fun t ht => ?_) (fun t ht => World.ownsRow.frozenAt hown _)
  have ht7 : t < (n - k) * 7 := ht
  have h8 := World.ownsRow.cells hown (g := g) rfl (k * 7 + t) (xs[k * 7 + t]'(by omega)) (List.getElem?_eq_getElem _)
  rw [addr_add, Nat.zero_add] at h8
  rw [h8]; rfl
set_option maxRecDepth 100000 in
set_option maxHeartbeats 8000000 in
theorem delete_f {P : Nat → Prop} {w : World} {f : List (Bs × Val)} {fa : Option Addr} {fn fc : Nat} {nm : Bs} {V : Nat} {xs : List Value}
    (hfn : fn = f.length) (hown : w.ownsRow 0 44 7 (.slice fa fn fc) fn xs) (hrow : FRow (fun _ => P) w f xs) (hP : ∀ k, P k → (Value.slice fa fn fc).ownBlock ≠ some k) (hl : fn ≤ 3000)
    (hVne : (Value.slice fa fn fc).ownBlock ≠ some V) (hV : w.cell? ⟨V, 0, none⟩ = some (.string (strOf nm))) :
    Calls Tryd.prog 70 #[.slice fa fn fc, .func (.func 71) #[] #[.pointer (some ⟨V, 0, none⟩)]] w (DelP P nm f fa fc w) := by
  have hidx := index_f (fc := fc) callFunc_wo1 wo1_test (P := fun _ => True) (nm := nm) hfn (hrow.is (Q := fun _ => True) (va := fa) (vc := fc) (by rw [← hfn]; exact hown) (fun _ _ _ => trivial) (fun _ _ => trivial)).1 (by omega) hV
  have hcf := callFunc_wo1
  obtain ⟨S, hS⟩ : ∃ S, S = strOf nm := ⟨_, rfl⟩
  rw [← hS] at hV
  have hidxH := Lib.hid hidx
  have hownH := Lib.hid hown
  have hrowH := Lib.hid hrow
  have hPH := Lib.hid hP
  have hVH := Lib.hid hV
  have hSH := Lib.hid hS
  have hfnH := Lib.hid hfn
  have hVneH := Lib.hid hVne
  clear hidx hown hrow hP hV hS hfn hVne
  go_enter Tryd.func70, Tryd.ntmps70
  go_wp2_with fail
  refine hidxH.out.mono ?_
  rintro e w3 ⟨rfl, hs3⟩
  have hs3H := Lib.hid hs3
  clear hs3
  cases hi : findN nm f with
  | none =>
    have hm : idxI nm f = -1 := by unfold idxI; rw [hi]
    rw [hm]
    have hiH := Lib.hid hi
    clear hm hi
    go_wp2_with fail
    go_ret
    unfold DelP
    rw [woF_none hiH.out, ← hfnH.out]
    exact ⟨xs, rfl, ownsRow_step hownH.out hs3H.out (fun k _ => by simp), hrowH.out.keep (fun _ _ h => h) (fun i k _ hk => (hs3H.out.keep k hk (by simp)).2), hs3H.out.mono (by simp)⟩
  | some i0 =>
    obtain ⟨hi0, hn0, hb0⟩ := findN_some hi
    have hm : idxI nm f = (i0 : Int) := by unfold idxI; rw [hi]
    rw [hm]
    have hi0n : i0 < fn := by rw [hfnH.out]; exact hi0
    obtain ⟨g, hva⟩ : ∃ g, fa = some ⟨g, 0, none⟩ := by
      rcases hownH.out.2 with ⟨e, -⟩ | ⟨g, cap, cur, e, -⟩
      · injection e with _ e2 _; omega
      · injection e with e1 _ _; exact ⟨g, e1⟩
    subst hva
    have hm1 : ((i0 : Int) == -1) = false := by rw [beq_eq_false_iff_ne]; omega
    have hwrap0 : IntKind.i64.wrap ((i0 : Int) + 1) = (i0 : Int) + 1 := IntWalk.i64_in _ (by omega)
    have hown3 := ownsRow_step hownH.out hs3H.out (fun k _ => by simp)
    have hrow3 := hrowH.out.keep (P2 := fun _ => P) (w' := w3) (fun _ _ h => h) (fun i k _ hk => (hs3H.out.keep k hk (by simp)).2)
    have hV3 : w3.cell? ⟨V, 0, none⟩ = some (.string S) := (World.cell?_of_block (a := ⟨V, 0, none⟩) ((hs3H.out.keep V (World.block_lt_of_cell? w _ hVH.out) (by simp)).2)).trans hVH.out
    have hgV : g ≠ V := fun e => hVneH.out (by rw [e]; rfl)
    have hgP : ∀ k, P k → g ≠ k := fun k hk e => hPH.out k hk (by rw [e]; rfl)
    have hk0 : (keptF nm f (i0 + 1)).length = i0 := by rw [keptF_first hi0 hn0 hb0, List.length_take]; omega
    have hb0H := Lib.hid hb0
    have hn0H := Lib.hid hn0
    have hi0H := Lib.hid hi0
    have hk0H := Lib.hid hk0
    have hown3H := Lib.hid hown3
    have hrow3H := Lib.hid hrow3
    have hV3H := Lib.hid hV3
    have hgPH := Lib.hid hgP
    clear hm hi hown3 hrow3 hV3 hb0 hk0 hgP hn0
    go_wp2_with fail
    go_loopw [5, 6] (fun i j wr => ∃ q : Nat, j = .int .i64 q ∧ q ≤ fn ∧ i0 < q ∧ i = .int .i64 ((keptF nm f q).length : Nat) ∧ ∃ us, wr.ownsRow 0 44 7 (.slice (some ⟨g, 0, none⟩) fn fc) fn us ∧ FRow (fun _ => P) wr (mixF nm f q) us ∧ Step [g] id id w3 wr) (fun _ j _ => fn - (intOf j).toNat)
    case atStart => exact ⟨i0 + 1, by go_num, by omega, by omega, by rw [hk0H.out], xs, hown3H.out, by rw [mixF_first hi0H.out hn0H.out hb0H.out]; exact hrow3H.out, Step.refl _ _ _⟩
    case round =>
      obtain ⟨q, rfl, hq, hiq, rfl, us, hown, hrow, hst⟩ := hrel
      obtain ⟨kl, hkl⟩ : ∃ kl, kl = (keptF nm f q).length := ⟨_, rfl⟩
      have hklq : kl < q := by rw [hkl]; exact keptF_lt hi0H.out hn0H.out hb0H.out hiq
      rw [← hkl]
      have hVr : wr.cell? ⟨V, 0, none⟩ = some (.string S) := (World.cell?_of_block (a := ⟨V, 0, none⟩) ((hst.keep V (World.block_lt_of_cell? w3 _ hV3H.out) (by simpa using fun e => hgV e.symm)).2)).trans hV3H.out
      by_cases hql : q < fn
      · have hql1 : (q : Int) < (fn : Int) := by omega
        have hq0 : (0 : Int) ≤ (q : Int) := by omega
        have hqf : q < f.length := by rw [← hfnH.out]; exact hql
        obtain ⟨hnl, cs, hpc, hxj⟩ := hrow.2 q (by rw [mixF_len]; exact hqf)
        rw [mixF_get hqf (by rw [← hkl]; omega)] at hnl hpc hxj
        obtain ⟨s1, ba2, bn2, bc2, fa2, fn2, fc2, la2, ln2, lc2, hcs, -⟩ := hxj.six
        obtain ⟨N, hN⟩ : ∃ y, y = strOf f[q].1 := ⟨_, rfl⟩
        obtain ⟨n1, hn1⟩ : ∃ k, k = f[q].2.num := ⟨_, rfl⟩
        obtain ⟨k1, hk1⟩ : ∃ k, k = f[q].2.kind := ⟨_, rfl⟩
        rw [← hk1, ← hn1] at hcs
        subst hcs
        rw [← hN] at hpc
        have hq7 : ∀ t u, t < 7 → [Value.string N, .int .i64 k1, .int .i64 n1, .string s1, .slice ba2 bn2 bc2, .slice fa2 fn2 fc2, .slice la2 ln2 lc2][t]? = some u → wr.cell? ⟨g, q * 7 + t, none⟩ = some u := fun t u ht hu => by
          have h8 := World.ownsRow.cells hown (g := g) rfl (q * 7 + t) u (by rw [← piece_get 7 us q t ht, hpc]; exact hu)
          rw [addr_add, Nat.zero_add] at h8
          exact h8
        have q0 := hq7 0 _ (by omega) rfl
        have q1 := hq7 1 _ (by omega) rfl
        have q2 := hq7 2 _ (by omega) rfl
        have q3 := hq7 3 _ (by omega) rfl
        have q4 := hq7 4 _ (by omega) rfl
        have q5 := hq7 5 _ (by omega) rfl
        have q6 := hq7 6 _ (by omega) rfl
        rw [Nat.add_zero] at q0
        have hgr : g < wr.heap.size := World.block_lt_of_cell? wr _ q0
        have hwrap : IntKind.i64.wrap ((q : Int) + 1) = (q : Int) + 1 := IntWalk.i64_in _ (by omega)
        have hwrapk : IntKind.i64.wrap ((kl : Int) + 1) = (kl : Int) + 1 := IntWalk.i64_in _ (by omega)
        obtain ⟨W7, hW7⟩ : ∃ W7, W7 = wr.alloc (.cells #[.string N, .int .i64 k1, .int .i64 n1, .string s1, .slice ba2 bn2 bc2, .slice fa2 fn2 fc2, .slice la2 ln2 lc2] 44) := ⟨_, rfl⟩
        have hs7 : Step [] id id wr W7 := by rw [hW7]; exact Step.alloc _
        have hD : W7.heap[wr.heap.size]? = some (.cells #[.string N, .int .i64 k1, .int .i64 n1, .string s1, .slice ba2 bn2 bc2, .slice fa2 fn2 fc2, .slice la2 ln2 lc2] 44 (0, 0)) := by rw [hW7]; exact heap_alloc_new _ _
        have hV7 : W7.cell? ⟨V, 0, none⟩ = some (.string S) := (World.cell?_of_block (a := ⟨V, 0, none⟩) ((hs7.keep V (World.block_lt_of_cell? wr _ hVr) (by simp)).2)).trans hVr
        have hcall := Lib.hid (wo1_test N S V k1 n1 s1 (.slice ba2 bn2 bc2) (.slice fa2 fn2 fc2) (.slice la2 ln2 lc2) W7 hV7)
        have hNe := Lib.hid (show N = S ↔ f[q].1 = nm by rw [hN, hSH.out]; exact strOf_eq)
        obtain ⟨d0, d1, d2, d3, d4, d5, d6⟩ := cells_of7 hD
        have hDl := lt_of_block hD
        have hownr := Lib.hid hown
        have hrowr := Lib.hid hrow
        have hstH := Lib.hid hst
        have hxjH := Lib.hid hxj
        have hklH := Lib.hid hkl
        have hnlH := Lib.hid hnl
        have hNH := Lib.hid hN
        have hDH := Lib.hid hD
        have hs7H := Lib.hid hs7
        have hW7H := Lib.hid hW7
        clear hown hrow hst hxj hpc hn1 hk1 hN hq7 hnl hkl hD hV7 hs7 hW7
        go_wp2_with fail
        rw [← hW7H.out]
        refine hcall.out.mono ?_
        rintro e w9 ⟨rfl, hs9⟩
        have hD9 := hs9.at hDH.out (by simp)
        have hs9r : Step [] id id wr w9 := hs7H.out.tail hs9
        have hs9z := hs9r.size
        have hs9H := Lib.hid hs9r
        obtain ⟨e0, e1, e2, e3, e4, e5, e6⟩ := cells_of7 hD9
        have hDl9 := lt_of_block hD9
        clear hs9 hs9r hD9 d0 d1 d2 d3 d4 d5 d6 q0 q1 q2 q3 q4 q5 q6 hDl
        by_cases hd : N = S
        · rw [decide_eq_true hd]
          have hdH := Lib.hid (hNe.out.1 hd)
          clear hd
          go_wp2_with fail
          go_roundw
          case rel =>
            refine ⟨q + 1, by go_num, by omega, by omega, ?_, us, ownsRow_step hownr.out hs9H.out (fun k _ => by simp), ?_, hstH.out.tail (hs9H.out.mono (by simp))⟩
            · rw [keptF_step hqf, if_pos hdH.out, List.append_nil, hklH.out]
            · rw [mixF_drop hqf hdH.out]
              exact hrowr.out.keep (fun _ _ h => h) (fun i k _ hk => (hs9H.out.keep k hk (by simp)).2)
          case measure => simp [intOf]; omega
        · rw [decide_eq_false hd]
          have hdH := Lib.hid (show f[q].1 ≠ nm from fun e => hd (hNe.out.2 e))
          have hown9 := ownsRow_step hownr.out hs9H.out (fun k _ => by simp)
          have hfz := World.ownsRow.frozenAt hown9
          have hul : us.length = fn * 7 := hown9.1
          have hpr : ∀ t, t < 7 → ∃ u, w9.cell? ⟨g, kl * 7 + t, none⟩ = some u := fun t ht => by
            have h8 := World.ownsRow.cells hown9 (g := g) rfl (kl * 7 + t) (us[kl * 7 + t]'(by omega)) (List.getElem?_eq_getElem _)
            rw [addr_add, Nat.zero_add] at h8
            exact ⟨_, h8⟩
          obtain ⟨u0, p0⟩ := hpr 0 (by omega)
          obtain ⟨u1, p1⟩ := hpr 1 (by omega)
          obtain ⟨u2, p2⟩ := hpr 2 (by omega)
          obtain ⟨u3, p3⟩ := hpr 3 (by omega)
          obtain ⟨u4, p4⟩ := hpr 4 (by omega)
          obtain ⟨u5, p5⟩ := hpr 5 (by omega)
          obtain ⟨u6, p6⟩ := hpr 6 (by omega)
          have fz0 := hfz (kl * 7)
          have fz1 := hfz (kl * 7 + 1)
          have fz2 := hfz (kl * 7 + 2)
          have fz3 := hfz (kl * 7 + 3)
          have fz4 := hfz (kl * 7 + 4)
          have fz5 := hfz (kl * 7 + 5)
          have fz6 := hfz (kl * 7 + 6)
          rw [Nat.add_zero] at p0
          have hkl1 : (kl : Int) < (fn : Int) := by omega
          have hkl0 : (0 : Int) ≤ (kl : Int) := by omega
          have hown9H := Lib.hid hown9
          clear hd hown9 hfz hpr hul
          go_wp2_with fail
          go_roundw
          case rel =>
            obtain ⟨h10, hg10⟩ := setCells_row (size := 7) [.string N, .int .i64 k1, .int .i64 n1, .string s1, .slice ba2 bn2 bc2, .slice fa2 fn2 fc2, .slice la2 ln2 lc2] (kl * 7) w9 us hown9H.out
            have hs10 := (hs9H.out.mono (T2 := [g]) (by simp)).tail (Step.grown hg10 (fun k hk => by cases hk; simp))
            refine ⟨q + 1, by go_num, by omega, by omega, ?_, _, h10, ?_, hstH.out.tail hs10⟩
            · rw [keptF_step hqf, if_neg hdH.out, List.length_append, ← hklH.out, List.length_singleton]
              go_num
            · rw [mixF_keep hqf hdH.out, ← hklH.out]
              have hkp : ∀ k, P k → k < wr.heap.size → _ = wr.heap[k]? := fun k hP hk => (hs10.keep k hk (by simpa using fun e => hgPH.out k hP e.symm)).2
              have h11 := (hrowr.out.keep (fun _ _ h => h) (fun i k hP hk => hkp k hP hk)).set (i := kl) (nm := f[q].1) (y := f[q].2) (by rw [mixF_len]; omega) hnlH.out rfl (hxjH.out.keep (fun _ h => h) hkp)
              rw [← hNH.out] at h11
              exact h11
          case measure => simp [intOf]; omega
      · have hql1 : ¬ (q : Int) < (fn : Int) := by omega
        obtain rfl : q = fn := by omega
        have hqc : q ≤ fc := by
          rcases hown.2 with ⟨e, -⟩ | ⟨g', cap, cur, e, -, -, hc, -⟩
          · cases e
          · injection e with _ _ e3; omega
        have hklc : (kl : Int) ≤ (fc : Int) := by omega
        have hklc2 : (kl : Int) ≤ (q : Int) := by omega
        have hkl0 : (0 : Int) ≤ (kl : Int) := by omega
        have hqci : (q : Int) ≤ (fc : Int) := by omega
        have hklcn : kl ≤ fc := by omega
        have hklqn : kl ≤ q := by omega
        have hclr := clear_fields hown hklq
        obtain ⟨h10, hg10⟩ := setCells_row (size := 7) (Builtin.zeroCells (Value.cells (.agg #[.string ⟨#[]⟩, .int .i64 0, .int .i64 0, .string ⟨#[]⟩, .slice none 0 0, .slice none 0 0, .slice none 0 0])) (q - kl)).toList (kl * 7) wr us hown
        have hfar : ∀ t, t < kl * 7 → (setL us (kl * 7) (Builtin.zeroCells (Value.cells (.agg #[.string ⟨#[]⟩, .int .i64 0, .int .i64 0, .string ⟨#[]⟩, .slice none 0 0, .slice none 0 0, .slice none 0 0])) (q - kl)).toList)[t]? = us[t]? := fun t ht => setL_far _ _ _ _ (.inl ht)
        obtain ⟨zs, hzs⟩ : ∃ zs, zs = setL us (kl * 7) (Builtin.zeroCells (Value.cells (.agg #[.string ⟨#[]⟩, .int .i64 0, .int .i64 0, .string ⟨#[]⟩, .slice none 0 0, .slice none 0 0, .slice none 0 0])) (q - kl)).toList := ⟨_, rfl⟩
        obtain ⟨W8, hW8⟩ : ∃ W8, W8 = wr.setCells g (kl * 7) (Builtin.zeroCells (Value.cells (.agg #[.string ⟨#[]⟩, .int .i64 0, .int .i64 0, .string ⟨#[]⟩, .slice none 0 0, .slice none 0 0, .slice none 0 0])) (q - kl)).toList := ⟨_, rfl⟩
        rw [← hW8] at h10 hg10 hclr
        rw [← hzs] at h10 hfar
        have hfarH := Lib.hid hfar
        have h10H := Lib.hid h10
        have hg10H := Lib.hid hg10
        have hownr := Lib.hid hown
        have hrowr := Lib.hid hrow
        have hstH := Lib.hid hst
        have hklH := Lib.hid hkl
        clear hown hrow hst hkl hVr hfar h10 hg10 hzs hW8
        go_wp2_with fail
        go_ret
        have hke : keptF nm f q = woF nm f := keptF_end (by rw [← hfnH.out]; exact Nat.le_refl _)
        have hs10 := hstH.out.tail (Step.grown (T := [g]) hg10H.out (fun k hk => by cases hk; simp))
        have hmx : mixF nm f q = woF nm f ++ f.drop (woF nm f).length := by unfold mixF; rw [hke]
        have hkl2 : kl = (woF nm f).length := by rw [hklH.out, hke]
        unfold DelP
        rw [← hkl2]
        have hown' := ownsRow_take h10H.out hklqn (by omega)
        have hrow' := (hrowr.out.keep (P2 := fun _ => P) (w' := W8) (fun _ _ h => h) (fun i k hP hk => hg10H.out.block k hk (by intro e; injection e with e; exact hgPH.out k hP e.symm)))
        rw [hmx] at hrow'
        have hrow2 := hrow'.take
        rw [← hkl2] at hrow2
        have hzt : zs.take (kl * 7) = us.take (kl * 7) := by
          apply List.ext_getElem?
          intro t
          by_cases ht : t < kl * 7
          · rw [List.getElem?_take, if_pos ht, List.getElem?_take, if_pos ht, hfarH.out t ht]
          · rw [List.getElem?_take, if_neg ht, List.getElem?_take, if_neg ht]
        exact ⟨_, rfl, hown', by rw [hzt]; exact hrow2, (hs3H.out.mono (by simp)).tail hs10⟩
end Go.Proofs.YtbkmnhogfegmcaaDoor
