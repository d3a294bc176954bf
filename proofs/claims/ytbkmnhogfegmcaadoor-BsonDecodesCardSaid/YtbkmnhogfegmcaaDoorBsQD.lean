/- The reference's reader, whole; Decode. The law BsonDecodes. -/
import Derived.Test.YtbkmnhogfegmcaaDoorBsQ9
import Derived.Test.YtbkmnhogfegmcaaDoorBsQA
import Derived.Test.YtbkmnhogfegmcaaDoorBsQB
import Derived.Test.YtbkmnhogfegmcaaDoorBsGA
import Derived.Test.YtbkmnhogfegmcaaDoorBsC1
set_option linter.unusedVariables false
set_option linter.unusedSimpArgs false
namespace Go.Proofs.YtbkmnhogfegmcaaDoor
open Go.RowKit





theorem rdoc_step (fuel : Nat) (ih : ∀ g, fuel = g + 1 → RDoc g) : RDoc fuel := by
  intro w R B o c b a deep items hfu h1 hd2 hit h
  by_cases hd : 32 < deep
  · rw [docR_deep hd]
    cases items
    · exact doc_deep_false h hd hd2
    · exact doc_deep_true h hd hd2
  obtain ⟨g, rfl⟩ : ∃ g, fuel = g + 1 := ⟨fuel - 1, by omega⟩
  have hV := ih g rfl
  by_cases hs : b.length - a < 4
  · rw [docR_short hd hs]
    cases items
    · exact doc_short_false h hd hs
    · exact doc_short_true h hd hs
  by_cases hn : signed 4 (numAt b a 4) < 5 ∨ (deep = 1 ∧ signed 4 (numAt b a 4) ≠ b.length)
  · rw [docR_low hd hs hn]
    cases items
    · exact doc_low_false h hd hs hn
    · exact doc_low_true h hd hs hn
  have hn1 : ¬ signed 4 (numAt b a 4) < 5 := fun e => hn (.inl e)
  have hn2 : ¬ (deep = 1 ∧ signed 4 (numAt b a 4) ≠ b.length) := fun e => hn (.inr e)
  rw [docR_go hd hs hn1 hn2]
  cases items
  · by_cases hd1 : deep = 1
    · subst hd1
      exact doc_t hV (by omega) h hd hs hn1 (by
        rcases Classical.em (signed 4 (numAt b a 4) = b.length) with e | e
        · exact e
        · exact absurd ⟨rfl, e⟩ hn2)
    · exact doc_f hV (by omega) h hd hs hn1 (by omega)
  · exact doc_l hV (by omega) h hd hs hn1 (hit rfl)
theorem rdoc_all : ∀ fuel, RDoc fuel
  | 0 => rdoc_step 0 (fun g hg => by cases hg)
  | n + 1 => rdoc_step (n + 1) (fun g hg => by cases hg; exact rdoc_all n)
/-- Too few bytes for any document, wherever they lie. -/
def NilP (w : World) (R : Nat) (bv : Value) (e : Ending) (w' : World) : Prop :=
  Step [R] id id w w' ∧ (∃ (k m : Int) (s : ByteArray) (ba : Option Addr) (bn bc : Nat) (fa : Option Addr) (fn fc : Nat) (la : Option Addr) (ln lc : Nat), e = .returned (.agg #[.int .i64 k, .int .i64 m, .string s, .slice ba bn bc, .slice fa fn fc, .slice la ln lc])) ∧ RdR w' R bv 0 2
set_option maxRecDepth 100000 in
set_option maxHeartbeats 4000000 in
theorem doc_nil {w : World} {R bn bc : Nat} {ba : Option Addr} (h : RdR w R (.slice ba bn bc) 0 0) (hn : bn < 4) :
    Calls Tryd.prog 28 #[.pointer (some ⟨R, 0, none⟩), .bool false, .int .i64 1] w (NilP w R (.slice ba bn bc)) := by
  have hR := lt_of_block h
  have cw1 := cell_blk h (i := 1) rfl
  obtain ⟨W0, hW0⟩ : ∃ W0, W0 = (w.alloc (.cells #[.int .i64 0, .int .i64 0, (.string ⟨#[]⟩), (.slice none 0 0), (.slice none 0 0), (.slice none 0 0)] 27)).alloc (.cells #[.int .i64 6, .int .i64 0, (.string ⟨#[]⟩), (.slice none 0 0), (.slice none 0 0), (.slice none 0 0)] 27) := ⟨_, rfl⟩
  have hA0 : Step [] id id w W0 := by rw [hW0]; exact (Step.alloc _).tail (Step.alloc _)
  have hvH := Lib.hid (show W0.heap[w.heap.size]? = some (.cells #[.int .i64 0, .int .i64 0, (.string ⟨#[]⟩), (.slice none 0 0), (.slice none 0 0), (.slice none 0 0)] 27 (0, 0)) by rw [hW0]; exact alloc_old (heap_alloc_new w _))
  have hdH := Lib.hid (show W0.heap[w.heap.size + 1]? = some (.cells #[.int .i64 6, .int .i64 0, (.string ⟨#[]⟩), (.slice none 0 0), (.slice none 0 0), (.slice none 0 0)] 27 (0, 0)) by rw [hW0]; have := heap_alloc_new (w.alloc (.cells #[.int .i64 0, .int .i64 0, (.string ⟨#[]⟩), (.slice none 0 0), (.slice none 0 0), (.slice none 0 0)] 27)) (.cells #[.int .i64 6, .int .i64 0, (.string ⟨#[]⟩), (.slice none 0 0), (.slice none 0 0), (.slice none 0 0)] 27); rwa [show (w.alloc (.cells #[.int .i64 0, .int .i64 0, (.string ⟨#[]⟩), (.slice none 0 0), (.slice none 0 0), (.slice none 0 0)] 27)).heap.size = w.heap.size + 1 by simp] at this)
  have hr0 := Lib.hid (show RdR W0 R (.slice ba bn bc) 0 0 from hA0.at h (by simp))
  have hsH := Lib.hid (show Step [R] id id w W0 by rw [hW0]; exact (Step.alloc _).tail (Step.alloc _))
  have hWH := Lib.hid hW0
  clear h hA0 hW0
  go_enter Tryd.func28, Tryd.ntmps28
  go_wp2_with fail
  rw [← hWH.out]
  refine (ref_need (n := 4) hr0.out (by omega) (by omega)).mono ?_
  rintro e w1 ⟨rfl, hr1, hs1⟩
  have e1 : (if (0 : Int) = 0 ∧ (bn : Int) - 0 < 4 then (2 : Int) else 0) = 2 := if_pos (by omega)
  rw [e1] at hr1 ⊢
  have hvn := hs1.at hvH.out (by simp; omega)
  have hdn := hs1.at hdH.out (by simp; omega)
  have p0 := cell_blk hvn (i := 0) rfl; have p1 := cell_blk hvn (i := 1) rfl; have p2 := cell_blk hvn (i := 2) rfl; have p3 := cell_blk hvn (i := 3) rfl; have p4 := cell_blk hvn (i := 4) rfl; have p5 := cell_blk hvn (i := 5) rfl; have pf := free_blk hvn
  have d0 := cell_blk hdn (i := 0) rfl; have d1 := cell_blk hdn (i := 1) rfl; have d2 := cell_blk hdn (i := 2) rfl; have d3 := cell_blk hdn (i := 3) rfl; have d4 := cell_blk hdn (i := 4) rfl; have d5 := cell_blk hdn (i := 5) rfl; have df := free_blk hdn
  have hvl := lt_of_block hvn
  have hdl := lt_of_block hdn
  have hvnH := Lib.hid hvn
  have hr1H := Lib.hid hr1
  have hs1H := Lib.hid (hsH.out.tail hs1)
  clear hvn hdn hr1 hs1 e1
  go_wp2_with fail
  change bodyPost _ _ _ _ _ (set6 w1 w.heap.size (.int .i64 6) (.int .i64 0) (.string ⟨#[]⟩) (.slice none 0 0) (.slice none 0 0) (.slice none 0 0))
  refine bodyPost_ret (results_to rfl rfl (set6_heap hvnH.out)) rfl ?_
  have hg6 : Step [w.heap.size] id id w1 (set6 w1 w.heap.size (.int .i64 6) (.int .i64 0) (.string ⟨#[]⟩) (.slice none 0 0) (.slice none 0 0) (.slice none 0 0)) := .grown set6_grown (fun k hk => by cases hk; simp)
  exact ⟨hs1H.out.tailNew hg6 (by simp), ⟨_, _, _, _, _, _, _, _, _, _, _, _, rfl⟩, hg6.at hr1H.out (by simp; omega)⟩

theorem decode_doc {b : Bs} (h1 : ¬ 65536 < b.length) (h2 : ¬ b.length < 4) : decode b = (docR b 34 1 false 0).bind fun f a => .ok (docV false f) a := by
  unfold decode docR
  rw [if_neg h1, if_neg h2]
  by_cases hl : signed 4 (numAt b 0 4) < 5
  · rw [if_pos hl, if_neg (fun e => e.2.2.1 hl), decDoc, if_neg (by omega), if_neg (by omega)]
    dsimp only
    rw [if_pos hl]; rfl
  rw [if_neg hl]
  by_cases hn : signed 4 (numAt b 0 4) ≠ b.length
  · rw [if_pos hn, if_pos ⟨rfl, by omega, hl, hn⟩]; rfl
  · rw [if_neg hn, if_neg (fun e => hn e.2.2.2)]; rfl
theorem decode_short {b : Bs} (h2 : b.length < 4) : decode b = .bad 2 := by
  unfold decode
  rw [if_neg (by omega), if_pos h2]
theorem decode_long {b : Bs} (h : 65536 < b.length) : decode b = .bad 3 := by
  unfold decode
  rw [if_pos h]

set_option maxRecDepth 100000 in
set_option maxHeartbeats 4000000 in
theorem ref_decode {w : World} {bv : Value} {b : Bs} (hb : BIn (fun k => k < w.heap.size) w bv b) (hbl : b.length ≤ 140737488351232) : Calls Tryd.prog 12 #[bv] w (DecodeP w (decode b)) := by
  obtain ⟨ad, c, rfl⟩ := hb.shape
  by_cases hlong : 65536 < b.length
  · rw [decode_long hlong]
    have hli : ¬ (b.length : Int) ≤ 65536 := by omega
    have hli2 : (65536 : Int) < (b.length : Int) := by omega
    clear hb
    go_enter Tryd.func12, Tryd.ntmps12
    go_wp2_with fail
    have hvb := heap_alloc_new w (.cells #[.int .i64 0, .int .i64 0, (.string ⟨#[]⟩), (.slice none 0 0), (.slice none 0 0), (.slice none 0 0)] 27)
    exact bodyPost_ret (results_cell2 rfl rfl rfl hvb) rfl ⟨Step.alloc _, _, rfl, zero_is⟩
  have hli : ¬ (65536 : Int) < (b.length : Int) := by omega
  have hli2 : (b.length : Int) ≤ 65536 := by omega
  obtain ⟨n, hn⟩ : ∃ n, n = b.length := ⟨_, rfl⟩
  rw [← hn] at hb hli hli2 ⊢
  obtain ⟨W2, hW2⟩ : ∃ W2, W2 = (w.alloc (.cells #[.int .i64 0, .int .i64 0, (.string ⟨#[]⟩), (.slice none 0 0), (.slice none 0 0), (.slice none 0 0)] 27)).alloc (.cells #[.slice ad n c, .int .i64 0, .int .i64 0] 67) := ⟨_, rfl⟩
  have hs2 : Step [] id id w W2 := by rw [hW2]; exact (Step.alloc _).tail (Step.alloc _)
  have hvH := Lib.hid (show W2.heap[w.heap.size]? = some (.cells #[.int .i64 0, .int .i64 0, (.string ⟨#[]⟩), (.slice none 0 0), (.slice none 0 0), (.slice none 0 0)] 27 (0, 0)) by rw [hW2]; exact alloc_old (heap_alloc_new w _))
  have hrd := show RdR W2 (w.heap.size + 1) (.slice ad n c) 0 0 by unfold RdR; rw [hW2]; have := heap_alloc_new (w.alloc (.cells #[.int .i64 0, .int .i64 0, (.string ⟨#[]⟩), (.slice none 0 0), (.slice none 0 0), (.slice none 0 0)] 27)) (.cells #[.slice ad n c, .int .i64 0, .int .i64 0] 67); rwa [show (w.alloc (.cells #[.int .i64 0, .int .i64 0, (.string ⟨#[]⟩), (.slice none 0 0), (.slice none 0 0), (.slice none 0 0)] 27)).heap.size = w.heap.size + 1 by simp] at this
  have hsH := Lib.hid hs2
  have hWH := Lib.hid hW2
  have hnH := Lib.hid hn
  by_cases hsh : n < 4
  · have hres := Lib.hid (show decode b = .bad 2 from decode_short (by omega))
    have hc := Lib.hid (doc_nil hrd hsh)
    clear hb hs2 hrd hW2 hn
    go_enter Tryd.func12, Tryd.ntmps12
    go_wp2_with fail
    rw [← hWH.out]
    refine hc.out.mono ?_
    rintro e w4 ⟨hs4, ⟨k1, m1, s1, ba1, bn1, bc1, fa1, fn1, fc1, la1, ln1, lc1, rfl⟩, hr4⟩
    -- the error is told: the reader's, and no value
    have hvn := hs4.at hvH.out (by simp)
    have p0 := cell_blk hvn (i := 0) rfl; have p1 := cell_blk hvn (i := 1) rfl; have p2 := cell_blk hvn (i := 2) rfl; have p3 := cell_blk hvn (i := 3) rfl; have p4 := cell_blk hvn (i := 4) rfl; have p5 := cell_blk hvn (i := 5) rfl; have pf := free_blk hvn
    have c2 := cell_blk hr4 (i := 2) rfl
    have hvl := lt_of_block hvn
    have hrl := lt_of_block hr4
    have hvnH := Lib.hid hvn
    have hsX := Lib.hid (hsH.out.tailNew hs4 (by simp))
    have hrX := Lib.hid hr4
    clear hvn
    go_wp2_with fail
    obtain ⟨W5, hW5⟩ : ∃ W5, W5 = w4.alloc (.cells #[.int .i64 k1, .int .i64 m1, .string s1, .slice ba1 bn1 bc1, .slice fa1 fn1 fc1, .slice la1 ln1 lc1] 27) := ⟨_, rfl⟩
    rw [← hW5]
    have hs45 : Step [] id id w4 W5 := by rw [hW5]; exact Step.alloc _
    have hv5 := hs45.at hvnH.out (by simp)
    have hr5 := hs45.at hrX.out (by simp)
    clear p0 p1 p2 p3 p4 p5 pf c2 hvl hrl hW5
    have p0 := cell_blk hv5 (i := 0) rfl; have p1 := cell_blk hv5 (i := 1) rfl; have p2 := cell_blk hv5 (i := 2) rfl; have p3 := cell_blk hv5 (i := 3) rfl; have p4 := cell_blk hv5 (i := 4) rfl; have p5 := cell_blk hv5 (i := 5) rfl; have pf := free_blk hv5
    have c2 := cell_blk hr5 (i := 2) rfl
    have hvl := lt_of_block hv5
    have hrl := lt_of_block hr5
    have hv5H := Lib.hid hv5
    have hr5H := Lib.hid hr5
    have hs45H := Lib.hid hs45
    clear hv5 hr5 hs45
    refine wp_region_held_drew (S := (fun w' => w'.cell? ⟨w.heap.size + 1, 2, none⟩ = some (.int .i64 2))) (by kernel_rfl) c2 (fun hHeld => ?_)
    obtain ⟨W6, hW6⟩ : ∃ W6, W6 = W5.drew := ⟨_, rfl⟩
    rw [← hW6] at hHeld ⊢
    have hs56 : Step [] id id W5 W6 := by rw [hW6]; exact Step.drew
    have hv6 := hs56.at hv5H.out (by simp)
    have hr6 := hs56.at hr5H.out (by simp)
    clear p0 p1 p2 p3 p4 p5 pf c2 hvl hrl hW6
    have p0 := cell_blk hv6 (i := 0) rfl; have p1 := cell_blk hv6 (i := 1) rfl; have p2 := cell_blk hv6 (i := 2) rfl; have p3 := cell_blk hv6 (i := 3) rfl; have p4 := cell_blk hv6 (i := 4) rfl; have p5 := cell_blk hv6 (i := 5) rfl; have pf := free_blk hv6
    have c2 := cell_blk hr6 (i := 2) rfl
    have hvl := lt_of_block hv6
    have hrl := lt_of_block hr6
    have hv6H := Lib.hid hv6
    have hs56H := Lib.hid hs56
    clear hv6 hr6 hs56
    refine wpAnyH_take (i := 0) (v := ?_) rfl (by kernel_rfl) (by kernel_rfl) (by kernel_rfl) (fun _ _ _ h => h) (Or.inl ⟨by kernel_rfl, ?_⟩) hHeld ?_
    rotate_left
    · intro w' hSw; (try dsimp only at hSw); go_simp
      all_goals (with_reducible rfl)
    simp only [Act.put, List.getElem_toArray, List.getElem_cons_zero, List.getElem_cons_succ, List.setIfInBounds_toArray, List.set_cons_zero, List.set_cons_succ]
    refine wpAnyH_take (i := 1) (v := ?_) rfl (by kernel_rfl) (by kernel_rfl) (by kernel_rfl) (fun _ _ _ h => h) (Or.inl ⟨by kernel_rfl, ?_⟩) hHeld ?_
    rotate_left
    · intro w' hSw; (try dsimp only at hSw); go_simp
      all_goals (with_reducible rfl)
    simp only [Act.put, List.getElem_toArray, List.getElem_cons_zero, List.getElem_cons_succ, List.setIfInBounds_toArray, List.set_cons_zero, List.set_cons_succ]
    refine wpAnyH_take (i := 2) (v := ?_) rfl (by kernel_rfl) (by kernel_rfl) (by kernel_rfl) (fun _ _ _ h => h) (Or.inl ⟨by kernel_rfl, ?_⟩) hHeld ?_
    rotate_left
    · intro w' hSw; (try dsimp only at hSw); go_simp
      all_goals (with_reducible rfl)
    simp only [Act.put, List.getElem_toArray, List.getElem_cons_zero, List.getElem_cons_succ, List.setIfInBounds_toArray, List.set_cons_zero, List.set_cons_succ]
    refine wpAnyH_take (i := 3) (v := ?_) rfl (by kernel_rfl) (by kernel_rfl) (by kernel_rfl) (fun _ _ _ h => h) (Or.inl ⟨by kernel_rfl, ?_⟩) hHeld ?_
    rotate_left
    · intro w' hSw; (try dsimp only at hSw); go_simp
      all_goals (with_reducible rfl)
    simp only [Act.put, List.getElem_toArray, List.getElem_cons_zero, List.getElem_cons_succ, List.setIfInBounds_toArray, List.set_cons_zero, List.set_cons_succ]
    refine wpAnyH_take (i := 4) (v := ?_) rfl (by kernel_rfl) (by kernel_rfl) (by kernel_rfl) (fun _ _ _ h => h) (Or.inl ⟨by kernel_rfl, ?_⟩) hHeld ?_
    rotate_left
    · intro w' hSw; (try dsimp only at hSw); go_simp
      all_goals (with_reducible rfl)
    simp only [Act.put, List.getElem_toArray, List.getElem_cons_zero, List.getElem_cons_succ, List.setIfInBounds_toArray, List.set_cons_zero, List.set_cons_succ]
    refine wpAnyH_ready (rs := [5]) (by kernel_rfl) (by simp) ?_
    refine AllReadyH.cons (o := _) rfl (fun K hK => ?_) AllReadyH.nil
    go_simp
    change K _ (set6 W6 w.heap.size (.int .i64 0) (.int .i64 0) (.string ⟨#[]⟩) (.slice none 0 0) (.slice none 0 0) (.slice none 0 0))
    have hg7 : W6.grownBy (set6 W6 w.heap.size (.int .i64 0) (.int .i64 0) (.string ⟨#[]⟩) (.slice none 0 0) (.slice none 0 0) (.slice none 0 0)) (some w.heap.size) := set6_grown
    have hk7 := hg7.block (w.heap.size + 1) hrl (by simp)
    refine hK.out _ _ ?_ (fun hHeld => ?_)
    · exact (World.cell?_of_block (a := ⟨w.heap.size + 1, 2, none⟩) hk7).trans c2
    clear hK K hk7
    refine wpAnyH_take (i := 6) (v := ?_) rfl (by kernel_rfl) (by kernel_rfl) (by kernel_rfl) (fun _ _ _ h => h) (Or.inl ⟨by kernel_rfl, ?_⟩) hHeld ?_
    rotate_left
    · intro w' hSw; (try dsimp only at hSw); go_simp
      all_goals (with_reducible rfl)
    simp only [Act.put, List.getElem_toArray, List.getElem_cons_zero, List.getElem_cons_succ, List.setIfInBounds_toArray, List.set_cons_zero, List.set_cons_succ]
    refine wpAnyH_done (by kernel_rfl) ?_ _
    go_wp2_with fail
    refine bodyPost_ret (results_cell2 rfl rfl rfl (set6_heap hv6H.out)) rfl ?_
    rw [hres.out]
    exact ⟨((hsX.out.tail hs45H.out).tail hs56H.out).tailNew (T2 := [w.heap.size]) (.grown hg7 (fun k hk => by cases hk; simp)) (by simp), _, rfl, zero_is⟩
  obtain ⟨B, o, rfl, hncap, hBP, hbytes⟩ : ∃ B o, ad = some ⟨B, o, none⟩ ∧ n ≤ c ∧ B < w.heap.size ∧ ∀ i (h : i < b.length), w.cell? ⟨B, o + i, none⟩ = some (.int .u8 (b[i].toNat : Int)) := by
    rcases hb with ⟨a0, c0, e, e2, -⟩ | ⟨B, o, c0, e, h1, h2, h3⟩
    · rw [e2] at hn; simp at hn; omega
    · injection e with e1 e2 e3
      exact ⟨B, o, e1, by omega, h2, h3⟩
  have hrs : RdS W2 (w.heap.size + 1) B o c b 0 0 := ⟨by rw [← hn]; exact hrd, fun i hi => by rw [cell_of_blk_eq (hs2.keep B hBP (by simp)).2]; exact hbytes i hi, Nat.zero_le _, by omega, by omega, by omega, hs2.lt hBP⟩
  have hc := rdoc_all 34 W2 (w.heap.size + 1) B o c b 0 1 false (by omega) (by omega) (by omega) (fun h => by cases h) hrs
  rw [← decode_doc hlong (by omega)] at hc
  obtain ⟨RES, hRES⟩ : ∃ RES, RES = decode b := ⟨_, rfl⟩
  rw [← hRES] at hc ⊢
  have hRESH := Lib.hid hRES
  have hcH := Lib.hid hc
  clear hb hs2 hrd hW2 hn hrs hc hbytes hRES
  go_enter Tryd.func12, Tryd.ntmps12
  go_wp2_with fail
  rw [← hWH.out]
  refine hcH.out.mono ?_
  rintro e w4 hP
  cases hr : RES with
  | bad er =>
    rw [hr] at hP
    obtain ⟨hs4, k1, m1, s1, ba1, bn1, bc1, fa1, fn1, fc1, la1, ln1, lc1, rfl, a2, hr4⟩ := hP
    have hr4c := hr4.cell
    have her : er ≠ 0 := by
      rw [hRESH.out, decode_part, if_neg hlong] at hr
      cases hp : partRes b with
      | bad e => rw [hp] at hr; cases hr; exact partRes_bad hp
      | ok f a => rw [hp] at hr; cases hr
    have her2 : (er != 0) = true := by rw [bne_iff_ne]; exact her
    have hres := Lib.hid hr
    clear hr her hr4
    -- the error is told: the reader's, and no value
    have hvn := hs4.at hvH.out (by simp)
    have p0 := cell_blk hvn (i := 0) rfl; have p1 := cell_blk hvn (i := 1) rfl; have p2 := cell_blk hvn (i := 2) rfl; have p3 := cell_blk hvn (i := 3) rfl; have p4 := cell_blk hvn (i := 4) rfl; have p5 := cell_blk hvn (i := 5) rfl; have pf := free_blk hvn
    have c2 := cell_blk hr4c (i := 2) rfl
    have hvl := lt_of_block hvn
    have hrl := lt_of_block hr4c
    have hvnH := Lib.hid hvn
    have hsX := Lib.hid (hsH.out.tailNew hs4 (by simp))
    have hrX := Lib.hid hr4c
    clear hvn
    go_wp2_with fail
    obtain ⟨W5, hW5⟩ : ∃ W5, W5 = w4.alloc (.cells #[.int .i64 k1, .int .i64 m1, .string s1, .slice ba1 bn1 bc1, .slice fa1 fn1 fc1, .slice la1 ln1 lc1] 27) := ⟨_, rfl⟩
    rw [← hW5]
    have hs45 : Step [] id id w4 W5 := by rw [hW5]; exact Step.alloc _
    have hv5 := hs45.at hvnH.out (by simp)
    have hr5 := hs45.at hrX.out (by simp)
    clear p0 p1 p2 p3 p4 p5 pf c2 hvl hrl hW5
    have p0 := cell_blk hv5 (i := 0) rfl; have p1 := cell_blk hv5 (i := 1) rfl; have p2 := cell_blk hv5 (i := 2) rfl; have p3 := cell_blk hv5 (i := 3) rfl; have p4 := cell_blk hv5 (i := 4) rfl; have p5 := cell_blk hv5 (i := 5) rfl; have pf := free_blk hv5
    have c2 := cell_blk hr5 (i := 2) rfl
    have hvl := lt_of_block hv5
    have hrl := lt_of_block hr5
    have hv5H := Lib.hid hv5
    have hr5H := Lib.hid hr5
    have hs45H := Lib.hid hs45
    clear hv5 hr5 hs45
    refine wp_region_held_drew (S := (fun w' => w'.cell? ⟨w.heap.size + 1, 2, none⟩ = some (.int .i64 er))) (by kernel_rfl) c2 (fun hHeld => ?_)
    obtain ⟨W6, hW6⟩ : ∃ W6, W6 = W5.drew := ⟨_, rfl⟩
    rw [← hW6] at hHeld ⊢
    have hs56 : Step [] id id W5 W6 := by rw [hW6]; exact Step.drew
    have hv6 := hs56.at hv5H.out (by simp)
    have hr6 := hs56.at hr5H.out (by simp)
    clear p0 p1 p2 p3 p4 p5 pf c2 hvl hrl hW6
    have p0 := cell_blk hv6 (i := 0) rfl; have p1 := cell_blk hv6 (i := 1) rfl; have p2 := cell_blk hv6 (i := 2) rfl; have p3 := cell_blk hv6 (i := 3) rfl; have p4 := cell_blk hv6 (i := 4) rfl; have p5 := cell_blk hv6 (i := 5) rfl; have pf := free_blk hv6
    have c2 := cell_blk hr6 (i := 2) rfl
    have hvl := lt_of_block hv6
    have hrl := lt_of_block hr6
    have hv6H := Lib.hid hv6
    have hs56H := Lib.hid hs56
    clear hv6 hr6 hs56
    refine wpAnyH_take (i := 0) (v := ?_) rfl (by kernel_rfl) (by kernel_rfl) (by kernel_rfl) (fun _ _ _ h => h) (Or.inl ⟨by kernel_rfl, ?_⟩) hHeld ?_
    rotate_left
    · intro w' hSw; (try dsimp only at hSw); go_simp
      all_goals (with_reducible rfl)
    simp only [Act.put, List.getElem_toArray, List.getElem_cons_zero, List.getElem_cons_succ, List.setIfInBounds_toArray, List.set_cons_zero, List.set_cons_succ]
    refine wpAnyH_take (i := 1) (v := ?_) rfl (by kernel_rfl) (by kernel_rfl) (by kernel_rfl) (fun _ _ _ h => h) (Or.inl ⟨by kernel_rfl, ?_⟩) hHeld ?_
    rotate_left
    · intro w' hSw; (try dsimp only at hSw); go_simp
      all_goals (with_reducible rfl)
    simp only [Act.put, List.getElem_toArray, List.getElem_cons_zero, List.getElem_cons_succ, List.setIfInBounds_toArray, List.set_cons_zero, List.set_cons_succ]
    refine wpAnyH_take (i := 2) (v := ?_) rfl (by kernel_rfl) (by kernel_rfl) (by kernel_rfl) (fun _ _ _ h => h) (Or.inl ⟨by kernel_rfl, ?_⟩) hHeld ?_
    rotate_left
    · intro w' hSw; (try dsimp only at hSw); go_simp
      all_goals (with_reducible rfl)
    simp only [Act.put, List.getElem_toArray, List.getElem_cons_zero, List.getElem_cons_succ, List.setIfInBounds_toArray, List.set_cons_zero, List.set_cons_succ]
    refine wpAnyH_take (i := 3) (v := ?_) rfl (by kernel_rfl) (by kernel_rfl) (by kernel_rfl) (fun _ _ _ h => h) (Or.inl ⟨by kernel_rfl, ?_⟩) hHeld ?_
    rotate_left
    · intro w' hSw; (try dsimp only at hSw); go_simp
      all_goals (with_reducible rfl)
    simp only [Act.put, List.getElem_toArray, List.getElem_cons_zero, List.getElem_cons_succ, List.setIfInBounds_toArray, List.set_cons_zero, List.set_cons_succ]
    refine wpAnyH_take (i := 4) (v := ?_) rfl (by kernel_rfl) (by kernel_rfl) (by kernel_rfl) (fun _ _ _ h => h) (Or.inl ⟨by kernel_rfl, ?_⟩) hHeld ?_
    rotate_left
    · intro w' hSw; (try dsimp only at hSw); go_simp
      all_goals (with_reducible rfl)
    simp only [Act.put, List.getElem_toArray, List.getElem_cons_zero, List.getElem_cons_succ, List.setIfInBounds_toArray, List.set_cons_zero, List.set_cons_succ]
    refine wpAnyH_ready (rs := [5]) (by kernel_rfl) (by simp) ?_
    refine AllReadyH.cons (o := _) rfl (fun K hK => ?_) AllReadyH.nil
    go_simp
    change K _ (set6 W6 w.heap.size (.int .i64 0) (.int .i64 0) (.string ⟨#[]⟩) (.slice none 0 0) (.slice none 0 0) (.slice none 0 0))
    have hg7 : W6.grownBy (set6 W6 w.heap.size (.int .i64 0) (.int .i64 0) (.string ⟨#[]⟩) (.slice none 0 0) (.slice none 0 0) (.slice none 0 0)) (some w.heap.size) := set6_grown
    have hk7 := hg7.block (w.heap.size + 1) hrl (by simp)
    refine hK.out _ _ ?_ (fun hHeld => ?_)
    · exact (World.cell?_of_block (a := ⟨w.heap.size + 1, 2, none⟩) hk7).trans c2
    clear hK K hk7
    refine wpAnyH_take (i := 6) (v := ?_) rfl (by kernel_rfl) (by kernel_rfl) (by kernel_rfl) (fun _ _ _ h => h) (Or.inl ⟨by kernel_rfl, ?_⟩) hHeld ?_
    rotate_left
    · intro w' hSw; (try dsimp only at hSw); go_simp
      all_goals (with_reducible rfl)
    simp only [Act.put, List.getElem_toArray, List.getElem_cons_zero, List.getElem_cons_succ, List.setIfInBounds_toArray, List.set_cons_zero, List.set_cons_succ]
    refine wpAnyH_done (by kernel_rfl) ?_ _
    go_wp2_with fail
    refine bodyPost_ret (results_cell2 rfl rfl rfl (set6_heap hv6H.out)) rfl ?_
    rw [hres.out]
    exact ⟨((hsX.out.tail hs45H.out).tail hs56H.out).tailNew (T2 := [w.heap.size]) (.grown hg7 (fun k hk => by cases hk; simp)) (by simp), _, rfl, zero_is⟩
  | ok v a2 =>
    rw [hr] at hP
    obtain ⟨hs4, cs, rfl, hx, hr4⟩ := hP
    obtain ⟨s1, ba1, bn1, bc1, fa1, fn1, fc1, la1, ln1, lc1, hcs, -⟩ := hx.six
    obtain ⟨kk, hkk⟩ : ∃ k, k = v.kind := ⟨_, rfl⟩
    obtain ⟨nn, hnn⟩ : ∃ k, k = v.num := ⟨_, rfl⟩
    rw [← hkk, ← hnn] at hcs
    subst hcs
    have hvn := hs4.at hvH.out (by simp)
    have p0 := cell_blk hvn (i := 0) rfl; have p1 := cell_blk hvn (i := 1) rfl; have p2 := cell_blk hvn (i := 2) rfl; have p3 := cell_blk hvn (i := 3) rfl; have p4 := cell_blk hvn (i := 4) rfl; have p5 := cell_blk hvn (i := 5) rfl; have pf := free_blk hvn
    have c2 := cell_blk hr4.cell (i := 2) rfl
    have hvl := lt_of_block hvn
    have hrl := lt_of_block hr4.cell
    have hvnH := Lib.hid hvn
    have hsX := Lib.hid (hsH.out.tailNew hs4 (by simp))
    have hxH := Lib.hid hx
    have hres := Lib.hid hr
    have z2 := hsH.out.size
    clear hvn hx hr hr4 hs4 hkk hnn
    go_wp2_with fail
    change bodyPost _ _ _ _ _ ((set6 w4 w.heap.size (.int .i64 kk) (.int .i64 nn) (.string s1) (.slice ba1 bn1 bc1) (.slice fa1 fn1 fc1) (.slice la1 ln1 lc1)).alloc (.cells #[.int .i64 kk, .int .i64 nn, .string s1, .slice ba1 bn1 bc1, .slice fa1 fn1 fc1, .slice la1 ln1 lc1] 27))
    have hg6 : Step [w.heap.size] id id w4 (set6 w4 w.heap.size (.int .i64 kk) (.int .i64 nn) (.string s1) (.slice ba1 bn1 bc1) (.slice fa1 fn1 fc1) (.slice la1 ln1 lc1)) := .grown set6_grown (fun k hk => by cases hk; simp)
    have hsA : Step [] id id (set6 w4 w.heap.size (.int .i64 kk) (.int .i64 nn) (.string s1) (.slice ba1 bn1 bc1) (.slice fa1 fn1 fc1) (.slice la1 ln1 lc1)) _ := Step.alloc (.cells #[.int .i64 kk, .int .i64 nn, .string s1, .slice ba1 bn1 bc1, .slice fa1 fn1 fc1, .slice la1 ln1 lc1] 27)
    refine bodyPost_ret (results_cell2 rfl rfl rfl (alloc_old (set6_heap hvnH.out))) rfl ?_
    rw [hres.out]
    exact ⟨(hsX.out.tailNew hg6 (by simp)).tail hsA, _, rfl, hxH.out.keep (fun k hk => by omega) (fun k hk hl => ((hsA.keep k (hg6.lt hl) (by simp)).2).trans (hg6.keep k hl (by have := lt_of_block hvH.out; simp; omega)).2)⟩
end Go.Proofs.YtbkmnhogfegmcaaDoor
namespace Go.Proofs.YtbkmnhogfegmcaaDoor
open Go.RowKit

theorem size_okD {x : Val} (h : okDoc x = true) : sizeOf_ x = (wrapDoc (encFs x.f)).length := by unfold sizeOf_; rw [h]; rfl
/-- The six cells of a block. -/
theorem cells_of6Q {w : World} {V : Nat} {v0 v1 v2 v3 v4 v5 : Value} {t : TypeId} (h : w.heap[V]? = some (.cells #[v0, v1, v2, v3, v4, v5] t (0, 0))) :
    w.cell? ⟨V, 0, none⟩ = some v0 ∧ w.cell? ⟨V, 1, none⟩ = some v1 ∧ w.cell? ⟨V, 2, none⟩ = some v2 ∧ w.cell? ⟨V, 3, none⟩ = some v3 ∧ w.cell? ⟨V, 4, none⟩ = some v4 ∧ w.cell? ⟨V, 5, none⟩ = some v5 :=
  ⟨cell_blk h (i := 0) rfl, cell_blk h (i := 1) rfl, cell_blk h (i := 2) rfl, cell_blk h (i := 3) rfl, cell_blk h (i := 4) rfl, cell_blk h (i := 5) rfl⟩
set_option maxRecDepth 100000 in
set_option maxHeartbeats 8000000 in
theorem law_decodes {w : World} {bv : Value} {b : Bs} (ht : Tw w) (hb : BIn (fun k => k < w.heap.size) w bv b) (hbl : b.length ≤ 140737488351232) : Calls Tryd.prog 3 #[bv] w fun e w' => e = .returned (.bool true) ∧ Step [] id id w w' := by
  obtain ⟨ad, c, rfl⟩ := hb.shape
  obtain ⟨n, hn⟩ : ∃ n, n = b.length := ⟨_, rfl⟩
  rw [← hn] at hb ⊢
  have hnH := Lib.hid hn
  have hbH := Lib.hid (fun (W : World) (hW : Step [] id id w W) => hb.keep (P2 := fun k => k < W.heap.size) (w' := W) (fun k hk => hW.lt hk) (fun k hP hk => (hW.keep k hk (by simp)).2))
  have htH := Lib.hid ht
  clear hb ht hn
  go_enter Tryd.func3, Tryd.ntmps3
  go_wp2_with fail
  refine (bs_awake w htH.out).mono ?_
  rintro e w1 ⟨rfl, hs1⟩
  have hs1H := Lib.hid hs1
  clear hs1
  by_cases hlong : 5000 < n
  · have hli : (5000 : Int) < (n : Int) := by omega
    go_wp2_with fail
    go_ret
    exact ⟨rfl, hs1H.out⟩
  have hli : ¬ (5000 : Int) < (n : Int) := by omega
  have hli2 : (n : Int) ≤ 5000 := by omega
  have hd1 := bs_decode (hbH.out w1 hs1H.out) hbl (htH.out.step hs1H.out)
  have hd1H := Lib.hid hd1
  clear hd1
  obtain ⟨RES, hRES⟩ : ∃ RES, RES = decode b := ⟨_, rfl⟩
  have hRESH := Lib.hid hRES
  clear hRES
  go_wp2_with fail
  refine hd1H.out.mono ?_
  rintro e w2 ⟨hs2, cs, rfl, hx⟩
  rw [← hRESH.out] at hx ⊢
  obtain ⟨s1, ba1, bn1, bc1, fa1, fn1, fc1, la1, ln1, lc1, hcs, -⟩ := hx.six
  obtain ⟨kk, hkk⟩ : ∃ k, k = (valOf RES).kind := ⟨_, rfl⟩
  obtain ⟨nn, hnn⟩ : ∃ k, k = (valOf RES).num := ⟨_, rfl⟩
  rw [← hkk, ← hnn] at hcs
  subst hcs
  obtain ⟨er, her⟩ : ∃ er, er = errOf RES := ⟨_, rfl⟩
  rw [← her]
  obtain ⟨W3, hW3⟩ : ∃ W3, W3 = w2.alloc (.cells #[.int .i64 kk, .int .i64 nn, .string s1, .slice ba1 bn1 bc1, .slice fa1 fn1 fc1, .slice la1 ln1 lc1] 27) := ⟨_, rfl⟩
  have hs3 : Step [] id id w W3 := by rw [hW3]; exact (hs1H.out.tail hs2).tail (Step.alloc _)
  have hV3 := Lib.hid (show W3.heap[w2.heap.size]? = some (.cells #[.int .i64 kk, .int .i64 nn, .string s1, .slice ba1 bn1 bc1, .slice fa1 fn1 fc1, .slice la1 ln1 lc1] 27 (0, 0)) by rw [hW3]; exact heap_alloc_new w2 _)
  have hx3 := Lib.hid (hx.below.keep (P2 := fun k => k < w2.heap.size) (w' := W3) (fun k hk => hk.2) (fun k hk hl => by rw [hW3]; exact Below.heap_alloc _ _ _ hl))
  have hd2 := ref_decode (hbH.out W3 hs3) hbl
  rw [← hRESH.out] at hd2
  have hd2H := Lib.hid hd2
  have hW3H := Lib.hid hW3
  have hs3H := Lib.hid hs3
  have herH := Lib.hid her
  clear hs2 hx hkk hnn her hW3 hs3 hd2
  go_wp2_with fail
  rw [← hW3H.out]
  refine hd2H.out.mono ?_
  rintro e w4 ⟨hs4, ds, rfl, hy⟩
  obtain ⟨s2, ba2, bn2, bc2, fa2, fn2, fc2, la2, ln2, lc2, hds, -⟩ := hy.six
  obtain ⟨k2, hk2⟩ : ∃ k, k = (valOf RES).kind := ⟨_, rfl⟩
  obtain ⟨n2, hn2⟩ : ∃ k, k = (valOf RES).num := ⟨_, rfl⟩
  rw [← hk2, ← hn2] at hds
  subst hds
  rw [← herH.out]
  have hl3 := lt_of_block hV3.out
  have hV4 := hs4.at hV3.out (by simp)
  obtain ⟨v0, v1, v2, v3, v4, v5⟩ := cells_of6Q hV4
  have hl4 := lt_of_block hV4
  have hV4H := Lib.hid hV4
  have hxa := hx3.out.keep (P2 := fun _ => True) (w' := w4) (fun _ _ => trivial) (fun k hk hl => (hs4.keep k hl (by simp)).2)
  have hya := hy.keep (P2 := fun _ => True) (w' := w4) (fun _ _ => trivial) (fun _ _ _ => rfl)
  have hsm := Lib.hid (fun (W : World) (hW : Step [] id id w4 W) => ref_same (P := fun _ => True) (hxa.keep (P2 := fun _ => True) (w' := W) (fun _ _ => trivial) (fun k hP hk => (hW.keep k hk (by simp)).2)) (hya.keep (P2 := fun _ => True) (w' := W) (fun _ _ => trivial) (fun k hP hk => (hW.keep k hk (by simp)).2)))
  have hx4 := Lib.hid (hx3.out.keep (P2 := fun k => k < w2.heap.size) (w' := w4) (fun _ h => h) (fun k hk hl => (hs4.keep k hl (by simp)).2))
  have hs4H := Lib.hid (hs3H.out.tail hs4)
  have hl24 : w2.heap.size < w4.heap.size := hl4
  have hnn : (er != er) = false := by simp
  clear hy hxa hya hs4 hV4 hk2 hn2
  go_wp2_with fail
  refine (hsm.out _ (Step.alloc _)).mono ?_
  rintro e w5 ⟨r5, rfl, hr5, hs5⟩
  obtain rfl : r5 = true := hr5.2 rfl
  have hs5H := Lib.hid ((Step.alloc _).tail hs5)
  clear hs5 hr5
  cases hres : RES with
  | bad ee =>
    have he0 : er ≠ 0 := by
      rw [herH.out, hres]
      have h1 := hRESH.out
      rw [hres, decode_part, if_neg (by have := hnH.out; omega)] at h1
      cases hp : partRes b with
      | bad e => rw [hp] at h1; simp only [Res.bind, Res.bad.injEq] at h1; show ee ≠ 0; rw [h1]; exact partRes_bad hp
      | ok f a => rw [hp] at h1; cases h1
    have he1 : (er != 0) = true := by rw [bne_iff_ne]; exact he0
    clear hres he0
    go_wp2_with fail
    go_ret
    exact ⟨rfl, hs4H.out.tail hs5H.out⟩
  | ok x a2 =>
    have he0 : er = 0 := by rw [herH.out, hres]; rfl
    subst he0
    have hdec : decode b = .ok x a2 := by rw [← hRESH.out, hres]
    obtain ⟨hen, hok, -⟩ := decode_sound hdec
    have hwr : wrapDoc (encFs x.f) = b := by unfold encode at hen; rw [if_pos hok] at hen; exact Option.some.inj hen
    have hx4b : VIs (fun k => k < w2.heap.size) w4 x [.int .i64 kk, .int .i64 nn, .string s1, .slice ba1 bn1 bc1, .slice fa1 fn1 fc1, .slice la1 ln1 lc1] := by
      have := hx4.out
      rw [hres] at this
      exact this
    have hV5 := hs5H.out.at hV4H.out (by simp)
    have hl5 := lt_of_block hV5
    clear v0 v1 v2 v3 v4 v5
    obtain ⟨v0, v1, v2, v3, v4, v5⟩ := cells_of6Q hV5
    have hs05 := hs4H.out.tail hs5H.out
    have hx5 := hx4b.keep (P2 := fun k => k < w5.heap.size) (w' := w5) (fun k hk => by omega) (fun k hk hl => (hs5H.out.keep k hl (by simp)).2)
    have hen5 := Lib.hid (bs_encode hx5 (htH.out.step hs05))
    have hx5H := Lib.hid hx5
    have hs05H := Lib.hid hs05
    have hV5H := Lib.hid hV5
    have hokH := Lib.hid hok
    have hwrH := Lib.hid hwr
    clear hres hdec hen hx4b hok hwr hV5 hs05 hx5
    go_wp2_with fail
    refine hen5.out.mono ?_
    rintro e w6 hE
    obtain ⟨v, rfl, hrow, hs6, hnew⟩ := hE.ok hokH.out
    rw [hwrH.out] at hrow
    obtain ⟨vb, vn, vc, rfl, hvn⟩ : ∃ vb vn vc, v = .slice vb vn vc ∧ vn = n := by
      rcases hrow.2 with ⟨e, h0⟩ | ⟨g, cap, cur, e, -⟩
      · exact ⟨none, 0, 0, e, by rw [hnH.out]; omega⟩
      · exact ⟨_, _, _, e, hnH.out.symm⟩
    subst hvn
    obtain ⟨T, hT⟩ : ∃ T, T = strOf b := ⟨_, rfl⟩
    have hs06 := hs05H.out.tail hs6
    have hc1 := (rowBin (Q := fun _ => True) hrow (fun _ _ => trivial)).str
    have hc2 := (hbH.out w6 hs06).str
    rw [← hT] at hc1 hc2
    have hTT : (T.toList == T.toList) = true := by simp
    have hV6 := hs6.at hV5H.out (by simp)
    have hl6 := lt_of_block hV6
    clear v0 v1 v2 v3 v4 v5
    obtain ⟨v0, v1, v2, v3, v4, v5⟩ := cells_of6Q hV6
    have hsz := Lib.hid (bs_size (P := fun k => k < w6.heap.size) (hx5H.out.onto hs6) (htH.out.step hs06))
    have hs06H := Lib.hid hs06
    have hnn6 : ((vn : Int) == (vn : Int)) = true := by simp
    clear hrow hs6 hnew hE hT hV6 hs06
    go_wp2_with fail
    refine hsz.out.mono ?_
    rintro e w7 ⟨rfl, hs7⟩
    rw [size_okD hokH.out, hwrH.out, ← hnH.out]
    have hs7H := Lib.hid hs7
    clear hs7
    go_wp2_with fail
    go_ret
    exact ⟨rfl, hs06H.out.tail hs7H.out⟩
end Go.Proofs.YtbkmnhogfegmcaaDoor
