/- bson: Decode, whole. -/
import Derived.Test.YtbkmnhogfegmcaaDoorBsG9
set_option linter.unusedVariables false
set_option linter.unusedSimpArgs false
namespace Go.Proofs.YtbkmnhogfegmcaaDoor
open Go.RowKit

def errOf : Res Val → Int
  | .ok _ _ => 0
  | .bad n => n
def valOf : Res Val → Val
  | .ok v _ => v
  | .bad _ => .bare 0
def DecodeP (w : World) (r : Res Val) (e : Ending) (w' : World) : Prop :=
  Step [] id id w w' ∧ ∃ cs : List Value, e = .returned (.tuple #[.agg cs.toArray, .int .i64 (errOf r)]) ∧ VIs (fun k => w.heap.size ≤ k) w' (valOf r) cs

section
variable {w : World} {V : Nat} {v0 v1 v2 v3 v4 v5 x : Value} {t : TypeId}
theorem results_cell2 {fn : Func} {tmps : Array Value} (hfn : fn.results = #[.cell 2 27, .tmp 3]) (ht : tmps.getD 2 undef = .pointer (some ⟨V, 0, none⟩)) (ht3 : tmps.getD 3 undef = x) (hb : w.heap[V]? = some (.cells #[v0, v1, v2, v3, v4, v5] t (0, 0))) :
    (results fn tmps).run Tryd.prog w = .ok (.tuple #[.agg #[v0, v1, v2, v3, v4, v5], x]) w := by
  have p0 := cell_blk hb (i := 0) rfl
  have p1 := cell_blk hb (i := 1) rfl
  have p2 := cell_blk hb (i := 2) rfl
  have p3 := cell_blk hb (i := 3) rfl
  have p4 := cell_blk hb (i := 4) rfl
  have p5 := cell_blk hb (i := 5) rfl
  simp at p0 p1 p2 p3 p4 p5
  have ht' : tmps[2]?.getD undef = .pointer (some ⟨V, 0, none⟩) := by simpa using ht
  have ht3' : tmps[3]?.getD undef = x := by simpa using ht3
  simp [results, hfn, ht', ht3', go_sem, p0, p1, p2, p3, p4, p5]
end
theorem zero_is {P : Nat → Prop} {w : World} : VIs P w (.bare 0) [.int .i64 0, .int .i64 0, .string ⟨#[]⟩, .slice none 0 0, .slice none 0 0, .slice none 0 0] := VIs.flat [] (by omega) (by omega) (by simp)

/-! no error is 0 -/
theorem decV_bad {b : Bs} {rec_ : Bool → Nat → Res (List (Bs × Val))} (hrec : ∀ items a n, rec_ items a = .bad n → n ≠ 0) {k : UInt8} {a : Nat} {n : Int} (h : decV b rec_ k a = .bad n) : n ≠ 0 := by
  unfold decV at h
  by_cases k3 : k = 3
  · subst k3
    rw [if_neg (by decide), if_pos rfl] at h
    cases hr : rec_ false a with
    | bad e => rw [hr] at h; simp only [Res.bind, Res.bad.injEq] at h; rw [← h]; exact hrec _ _ _ hr
    | ok f a1 => rw [hr] at h; cases h
  by_cases k4 : k = 4
  · subst k4
    rw [if_neg (by decide), if_neg (by decide), if_pos rfl] at h
    cases hr : rec_ true a with
    | bad e => rw [hr] at h; simp only [Res.bind, Res.bad.injEq] at h; rw [← h]; exact hrec _ _ _ hr
    | ok f a1 => rw [hr] at h; cases h
  by_cases k2 : k = 2
  · rw [if_pos k2] at h
    dsimp only at h
    split at h
    · cases h; decide
    split at h
    · cases h; decide
    split at h
    · cases h; decide
    split at h
    · cases h; decide
    split at h
    · cases h
    · cases h; decide
  rw [if_neg k2, if_neg k3, if_neg k4] at h
  by_cases k5 : k = 5
  · rw [if_pos k5] at h
    dsimp only at h
    split at h
    · cases h; decide
    split at h
    · cases h; decide
    split at h
    · cases h; decide
    split at h
    · cases h; decide
    cases h
  rw [if_neg k5] at h
  by_cases k7 : k = 7
  · rw [if_pos k7] at h
    split at h
    · cases h; decide
    cases h
  rw [if_neg k7] at h
  by_cases k8 : k = 8
  · rw [if_pos k8] at h
    split at h
    · cases h; decide
    split at h
    · cases h
    cases h; decide
  rw [if_neg k8] at h
  by_cases k9 : k = 9
  · rw [if_pos k9] at h
    split at h
    · cases h; decide
    cases h
  rw [if_neg k9] at h
  by_cases k10 : k = 10
  · rw [if_pos k10] at h
    cases h
  rw [if_neg k10] at h
  by_cases k16 : k = 16
  · rw [if_pos k16] at h
    split at h
    · cases h; decide
    cases h
  rw [if_neg k16] at h
  by_cases k18 : k = 18
  · rw [if_pos k18] at h
    split at h
    · cases h; decide
    cases h
  rw [if_neg k18] at h
  by_cases k1 : k = 1
  · rw [if_pos k1] at h
    split at h
    · cases h; decide
    cases h; decide
  rw [if_neg k1] at h
  by_cases k19 : k = 19
  · rw [if_pos k19] at h
    split at h
    · cases h; decide
    cases h; decide
  rw [if_neg k19] at h
  by_cases k255 : k = 255
  · rw [if_pos k255] at h
    cases h
  rw [if_neg k255] at h
  by_cases k127 : k = 127
  · rw [if_pos k127] at h
    cases h
  rw [if_neg k127] at h
  cases h; decide
theorem nameRes_bad {b : Bs} {a : Nat} {n : Int} (h : nameRes b a = .bad n) : n ≠ 0 := by
  unfold nameRes at h
  split at h
  · cases h; decide
  · repeat' split at h
    all_goals first
      | (cases h; decide)
      | cases h
theorem decFs_bad {b : Bs} {rec_ : Bool → Nat → Res (List (Bs × Val))} (hrec : ∀ items a n, rec_ items a = .bad n → n ≠ 0) (items : Bool) : ∀ (fl : Nat) (acc : List (Bs × Val)) (a : Nat) (n : Int), decFs b rec_ items fl acc a = .bad n → n ≠ 0
  | 0, _, _, _, h => by rw [decFs] at h; cases h; decide
  | fl + 1, acc, a, n, h => by
    cases hp : b[a]? with
    | none => rw [decFs, hp] at h; cases h; decide
    | some k0 =>
      by_cases hk : k0 = 0
      · rw [decFs, hp] at h; simp [hk] at h
      · rw [decFs_step hp hk] at h
        split at h
        · cases h; decide
        cases hn : nameRes b (a + 1) with
        | bad e => rw [hn] at h; cases h; exact nameRes_bad hn
        | ok s a1 =>
          rw [hn] at h
          simp only at h
          split at h
          · cases h; decide
          split at h
          · cases h; decide
          cases hv : decV b rec_ k0 a1 with
          | bad e => rw [hv] at h; cases h; exact decV_bad hrec hv
          | ok v a2 => rw [hv] at h; exact decFs_bad hrec items fl _ _ _ h
theorem decDoc_bad {b : Bs} : ∀ (fuel deep : Nat) (items : Bool) (a : Nat) (n : Int), decDoc b fuel deep items a = .bad n → n ≠ 0
  | 0, _, _, _, _, h => by rw [decDoc] at h; cases h; decide
  | fuel + 1, deep, items, a, n, h => by
    rw [decDoc] at h
    split at h
    · cases h; decide
    split at h
    · cases h; decide
    dsimp only at h
    split at h
    · cases h; decide
    cases hf : decFs b (fun items a => decDoc b fuel (deep + 1) items a) items (b.length + 1) [] (a + 4) with
    | bad e => rw [hf] at h; cases h; exact decFs_bad (fun items a n h => decDoc_bad fuel (deep + 1) items a n h) items _ _ _ _ hf
    | ok l a1 =>
      rw [hf] at h
      simp only [Res.bind] at h
      split at h
      · cases h
      · cases h; decide
theorem partRes_bad {b : Bs} {n : Int} (h : partRes b = .bad n) : n ≠ 0 := by
  unfold partRes at h
  split at h
  · cases h; decide
  split at h
  · cases h; decide
  split at h
  · cases h; decide
  exact decDoc_bad _ _ _ _ _ h
theorem partRes_len {b : Bs} {f : List (Bs × Val)} {a : Nat} (h : partRes b = .ok f a) : f.length ≤ b.length := by
  unfold partRes at h
  split at h
  · cases h
  split at h
  · cases h
  split at h
  · cases h
  exact dec_len h

set_option maxRecDepth 100000 in
set_option maxHeartbeats 4000000 in
theorem bs_decode {P : Nat → Prop} {w : World} {bv : Value} {b : Bs} (hb : BIn P w bv b) (hbl : b.length ≤ 140737488351232) (ht : Tabs P w) :
    Calls Tryd.prog 11 #[bv] w (DecodeP w (decode b)) := by
  have hmf : ∀ (fn : Fn) (first cap : Array Value) (w : World), (Instr.makeFunc fn first cap).run Tryd.prog w = .ok (.func fn first cap) w := fun _ _ _ _ => rfl
  obtain ⟨ad, c, rfl⟩ := hb.shape
  rw [decode_part]
  obtain ⟨W1, hW1⟩ : ∃ W1, W1 = w.alloc (.cells #[.slice ad b.length c] 22) := ⟨_, rfl⟩
  obtain ⟨W2, hW2⟩ : ∃ W2, W2 = W1.alloc (.cells #[.int .i64 0, .int .i64 0, .string ⟨#[]⟩, .slice none 0 0, .slice none 0 0, .slice none 0 0] 27) := ⟨_, rfl⟩
  obtain ⟨W3, hW3⟩ : ∃ W3, W3 = W2.alloc (.cells #[.int .i64 6, .int .i64 0, .string ⟨#[]⟩, .slice none 0 0, .slice none 0 0, .slice none 0 0] 27) := ⟨_, rfl⟩
  have z1 : W1.heap.size = w.heap.size + 1 := by rw [hW1]; simp
  have z2 : W2.heap.size = w.heap.size + 1 + 1 := by rw [hW2]; simp [z1]
  have z3 : W3.heap.size = w.heap.size + 1 + 1 + 1 := by rw [hW3]; simp [z2]
  have hg2 : w.grownBy W2 none := by rw [hW2, hW1]; exact (World.grownBy_alloc w _ none).trans (World.grownBy_alloc _ _ none)
  have hg23 : W2.grownBy W3 none := by rw [hW3]; exact World.grownBy_alloc _ _ none
  have hV2 : W2.heap[w.heap.size + 1]? = some (.cells #[.int .i64 0, .int .i64 0, .string ⟨#[]⟩, .slice none 0 0, .slice none 0 0, .slice none 0 0] 27 (0, 0)) := by rw [hW2, ← z1]; exact heap_alloc_new W1 _
  have hbc3 : W3.heap[w.heap.size]? = some (.cells #[.slice ad b.length c] 22 (0, 0)) := by
    rw [hW3]; refine alloc_old ?_; rw [hW2]; refine alloc_old ?_; rw [hW1]; exact heap_alloc_new w _
  have hV3 : W3.heap[w.heap.size + 1 + 1]? = some (.cells #[.int .i64 6, .int .i64 0, .string ⟨#[]⟩, .slice none 0 0, .slice none 0 0, .slice none 0 0] 27 (0, 0)) := by rw [hW3, ← z2]; exact heap_alloc_new W2 _
  by_cases hlong : 65536 < b.length
  · rw [if_pos hlong]
    have hli : ¬ (b.length : Int) ≤ 65536 := by omega
    have p0 := cell_blk hV2 (i := 0) rfl; have p1 := cell_blk hV2 (i := 1) rfl; have p2 := cell_blk hV2 (i := 2) rfl; have p3 := cell_blk hV2 (i := 3) rfl; have p4 := cell_blk hV2 (i := 4) rfl; have p5 := cell_blk hV2 (i := 5) rfl; have pf := free_blk hV2
    have hV2H := Lib.hid hV2
    have hg2H := Lib.hid hg2
    have hW1H := Lib.hid hW1
    have hW2H := Lib.hid hW2
    clear hb ht hV3 hbc3 hg23 hV2 hg2 hW1 hW2 hW3 z1 z2 z3
    go_enter Tryd.func11, Tryd.ntmps11
    go_wp2_with fail
    rw [← hW1H.out, ← hW2H.out]
    exact bodyPost_ret (results_cell2 rfl rfl rfl hV2H.out) rfl ⟨Step.grown hg2H.out (fun _ h => by cases h), _, rfl, zero_is⟩
  rw [if_neg hlong]
  have hl : b.length ≤ 65536 := by omega
  have hli : (b.length : Int) ≤ 65536 := by omega
  have hW1H := Lib.hid hW1
  have hW2H := Lib.hid hW2
  have hW3H := Lib.hid hW3
  -- the call of tried
  have hg3 := hg2.trans hg23
  have hgA : W3.grownBy (W3.alloc (.cells #[.int .i64 0] 28)) none := World.grownBy_alloc _ _ none
  have bk : ∀ k o, W3.heap[k]? = some o → (W3.alloc (.cells #[.int .i64 0] 28)).heap[k]? = some o := fun k o h => alloc_old h
  have hpart := decode_inner (P := P) (V := w.heap.size + 1 + 1) (bk _ _ hbc3) (bk _ _ hV3) (hb.keep (fun _ h => h) (fun k hP hk => (hgA.block k (Nat.lt_of_lt_of_le hk hg3.size) (by simp)).trans (hg3.block k hk (by simp)))) hl (ht.grown (hg3.trans hgA)) (fun h => by have := ht.lt _ h; omega) (by omega)
  have hcf : ∀ w0, (callFunc 24 #[.pointer (some ⟨w.heap.size, 0, none⟩), .pointer (some ⟨w.heap.size + 1 + 1, 0, none⟩)]).run Tryd.prog w0 = .ok (.enter 24 #[.pointer (some ⟨w.heap.size, 0, none⟩), .pointer (some ⟨w.heap.size + 1 + 1, 0, none⟩)]) w0 := fun _ => by simp [go_sem]
  have hV23 := (hg23.block _ (lt_of_block hV2) (by simp)).trans hV2
  have hs3 : Step [] id id w W3 := .grown hg3 (fun _ h => by cases h)
  cases hp : partRes b with
  | bad n =>
    rw [hp] at hpart
    have htr := tried_broke n 24 _ W3 (fun W => True) [w.heap.size + 1 + 1] (by simp; omega) hcf (hpart.mono fun e w' h => ⟨h.2, trivial, h.1⟩)
    have htrH := Lib.hid htr
    have hV23H := Lib.hid hV23
    have hs3H := Lib.hid hs3
    have hn0 : n ≠ 0 := partRes_bad hp
    simp only [Res.bind]
    clear hb ht hV3 hbc3 hg23 hV2 hg2 hW1 hW2 hW3 hpart htr hp hcf bk hgA hg3 hV23 hs3
    have hnd : (n != 0) = true := by rw [bne_iff_ne]; exact hn0
    go_enter Tryd.func11, Tryd.ntmps11
    go_wp2_with (go_at_call 23; rw [← hW1H.out, ← hW2H.out, ← hW3H.out]; refine htrH.out.mono ?_; rintro e w4 ⟨rfl, w5, -, hg5, hst⟩; have hV24 := hst.at hV23H.out (by simp); have p0 := cell_blk hV24 (i := 0) rfl; have p1 := cell_blk hV24 (i := 1) rfl; have p2 := cell_blk hV24 (i := 2) rfl; have p3 := cell_blk hV24 (i := 3) rfl; have p4 := cell_blk hV24 (i := 4) rfl; have p5 := cell_blk hV24 (i := 5) rfl; have pf := free_blk hV24; have hV24H := Lib.hid hV24; have hstH := Lib.hid hst; clear hst hV24 hg5)
    change bodyPost _ _ _ _ _ (set6 w4 (w.heap.size + 1) (.int .i64 0) (.int .i64 0) (.string ⟨#[]⟩) (.slice none 0 0) (.slice none 0 0) (.slice none 0 0))
    exact bodyPost_ret (results_cell2 rfl rfl rfl (set6_heap hV24H.out)) rfl ⟨(hs3H.out.tailNew hstH.out (by simp; omega)).tailNew (T2 := [w.heap.size + 1]) (.grown set6_grown (fun k hk => by cases hk; simp)) (by simp), _, rfl, zero_is⟩
  | ok f a' =>
    rw [hp] at hpart
    have hfl := partRes_len hp
    have htr := tried_ok 24 _ W3 (fun W => ∃ ad cap, W.heap[w.heap.size + 1 + 1]? = some (.cells #[.int .i64 6, .int .i64 0, .string ⟨#[]⟩, .slice none 0 0, .slice ad f.length cap, .slice none 0 0] 27 (0, 0)) ∧ FIs (fun k => W3.heap.size < k) W f ad 0 ∧ f.length ≤ cap ∧ (ad = none → cap = 0)) [w.heap.size + 1 + 1] (by simp; omega) hcf (hpart.mono fun e w' h => by
      obtain ⟨h1, h2, fad, fcap, h3, h4, h5, h6, h7⟩ := h
      exact ⟨h2, ⟨fad, fcap, h3, FIs.keep (fun k hk => by simp only [World.size_alloc] at hk; omega) (fun _ _ _ => rfl) _ _ _ h4, h5, h6⟩, h1⟩)
    have htrH := Lib.hid htr
    have hV23H := Lib.hid hV23
    have hs3H := Lib.hid hs3
    simp only [Res.bind]
    clear hb ht hV3 hbc3 hg23 hV2 hg2 hW1 hW2 hW3 hpart htr hp hcf bk hgA hg3 hV23 hs3
    obtain ⟨n, hn⟩ : ∃ n, n = f.length := ⟨_, rfl⟩
    have hnH := Lib.hid hn
    clear hn
    go_enter Tryd.func11, Tryd.ntmps11
    go_wp2_with (go_at_call 23; rw [← hW1H.out, ← hW2H.out, ← hW3H.out]; refine htrH.out.mono ?_; rintro e w4 ⟨rfl, w5, ⟨fad, fcap, hv5, hfi5, hc5, hn5⟩, hg5, hst⟩; rw [← hnH.out] at hv5 hc5; have hV24 := hst.at hV23H.out (by simp); have p0 := cell_blk hV24 (i := 0) rfl; have p1 := cell_blk hV24 (i := 1) rfl; have p2 := cell_blk hV24 (i := 2) rfl; have p3 := cell_blk hV24 (i := 3) rfl; have p4 := cell_blk hV24 (i := 4) rfl; have p5 := cell_blk hV24 (i := 5) rfl; have pf := free_blk hV24; have hv4 := (hg5.block _ (lt_of_block hv5) (by simp; omega)).trans hv5; have v0 := cell_blk hv4 (i := 0) rfl; have v1 := cell_blk hv4 (i := 1) rfl; have v2 := cell_blk hv4 (i := 2) rfl; have v3 := cell_blk hv4 (i := 3) rfl; have v4 := cell_blk hv4 (i := 4) rfl; have v5 := cell_blk hv4 (i := 5) rfl; have vf := free_blk hv4; have hfi4 := Lib.hid (FIs.keep (w' := w4) (P2 := fun k => W3.heap.size < k) (fun _ h => h) (fun k hk hl => hg5.block k hl (by simp; omega)) _ _ _ hfi5); have hV24H := Lib.hid hV24; have hstH := Lib.hid hst; have hc5H := Lib.hid hc5; have hn5H := Lib.hid hn5; clear hst hV24 hg5 hv4 hv5 hfi5 hc5 hn5)
    change bodyPost _ _ _ _ _ (set6 w4 (w.heap.size + 1) (.int .i64 6) (.int .i64 0) (.string ⟨#[]⟩) (.slice none 0 0) (.slice fad n fcap) (.slice none 0 0))
    refine bodyPost_ret (results_cell2 rfl rfl rfl (set6_heap hV24H.out)) rfl ⟨(hs3H.out.tailNew hstH.out (by simp; omega)).tailNew (T2 := [w.heap.size + 1]) (.grown set6_grown (fun k hk => by cases hk; simp)) (by simp), _, rfl, ?_⟩
    have hn2 : n = f.length := hnH.out
    have hcap2 : n ≤ fcap := hc5H.out
    subst hn2
    refine VIs.mk ⟨.slice none 0 0, fad, fcap, none, 0, rfl, .inl ⟨none, 0, rfl, rfl, fun _ => rfl⟩, ⟨hcap2, by simp [Val.doc, valOf, Val.l], hn5H.out, fun _ => rfl⟩, ⟨by simp [Val.doc, valOf, Val.kind], by simp [Val.doc, valOf, Val.kind], by simp [Val.doc, valOf, Val.num], by simp [Val.doc, valOf, Val.num]⟩, ⟨by simp [Val.doc, valOf, Val.s], by simp [Val.doc, valOf, Val.b], ?_, by simp [Val.doc, valOf, Val.l]⟩, ?_, by simp [Val.doc, valOf, Val.l, LIs]⟩
    · simp only [Val.doc, valOf, Val.f]; omega
    · have hg6 : w4.grownBy (set6 w4 (w.heap.size + 1) (.int .i64 6) (.int .i64 0) (.string ⟨#[]⟩) (.slice none 0 0) (.slice fad f.length fcap) (.slice none 0 0)) (some (w.heap.size + 1)) := set6_grown
      exact FIs.keep (fun k hk => by omega) (fun k hk hl => hg6.block k hl (by simp; omega)) _ _ _ hfi4.out
end Go.Proofs.YtbkmnhogfegmcaaDoor
