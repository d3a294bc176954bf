/- The law BsonCuts. -/
import Derived.Test.YtbkmnhogfegmcaaDoorBsK4
set_option linter.unusedVariables false
set_option linter.unusedSimpArgs false
namespace Go.Proofs.YtbkmnhogfegmcaaDoor
open Go.RowKit

/-! how long what is encoded can be -/
theorem weightV_pos (v : Val) : 1 ≤ weightV v := by cases v; rw [weightV]; omega
theorem weightLs_len : ∀ l : List Val, l.length ≤ weightLs l
  | [] => by simp
  | v :: r => by have := weightV_pos v; have := weightLs_len r; simp [weightLs]; omega
mutual
theorem enc_lenV : ∀ v : Val, weightV v ≤ 9000 → (encV v).length + 6 ≤ 14 * weightV v
  | .mk k n s b f l, h => by
    rw [weightV] at h ⊢
    have h1 := enc_lenFs f (by omega)
    have h2 := enc_lenLs l 0 (by omega) (by have := weightLs_len l; omega)
    simp only [encV]
    repeat' split
    all_goals try simp only [layI_length, wrapDoc_length, List.length_append, List.length_cons, List.length_nil]
    all_goals omega
theorem enc_lenFs : ∀ f : List (Bs × Val), weightFs f ≤ 9000 → (encFs f).length ≤ 14 * weightFs f
  | [], _ => by simp [encFs]
  | (nm, v) :: r, h => by
    rw [weightFs] at h ⊢
    have h1 := enc_lenV v (by omega)
    have h2 := enc_lenFs r (by omega)
    rw [encFs]
    simp only [List.length_append, List.length_cons]
    omega
theorem enc_lenLs : ∀ (l : List Val) (i : Nat), weightLs l ≤ 9000 → i + l.length ≤ 9999 → (encLs i l).length ≤ 14 * weightLs l
  | [], _, _, _ => by simp [encLs]
  | v :: r, i, h, hi => by
    rw [weightLs] at h ⊢
    simp only [List.length_cons] at hi
    have h1 := enc_lenV v (by omega)
    have h2 := enc_lenLs r (i + 1) (by omega) (by omega)
    have h3 := itoa_length 3 i (by omega)
    rw [encLs]
    simp only [List.length_append, List.length_cons]
    omega
end
theorem enc_short {v : Val} (hk : okDoc v = true) (h : weightV v ≤ 3000) : (wrapDoc (encFs v.f)).length ≤ 42000 := by
  have h1 := enc_lenV v (by omega)
  cases v with
  | mk k n s b f l =>
    unfold okDoc at hk
    simp only [Val.kind, Bool.and_eq_true] at hk
    obtain ⟨⟨⟨hk6, _⟩, _⟩, _⟩ := hk
    obtain rfl := of_decide_eq_true hk6
    have h2 : encV (.mk 6 n s b f l) = wrapDoc (encFs f) := by simp [encV]
    rw [h2] at h1
    simp only [Val.f]
    omega

/-! cut, or with one behind -/
theorem num_wrap {body x : Bs} (h : body.length ≤ 60000) (hx : ∃ y, wrapDoc body ++ y = x) : signed 4 (numAt x 0 4) = ((body.length + 5 : Nat) : Int) := by
  obtain ⟨y, rfl⟩ := hx
  have h1 : At (wrapDoc body ++ y) 0 (layI 4 ((body.length + 5 : Nat) : Int)) := ⟨[], body ++ [0] ++ y, by simp [wrapDoc], rfl⟩
  rw [h1.num (layI_length _ _), signed_lay4 (by omega) (by omega)]
theorem cut_bad {body : Bs} {k : Nat} (h : body.length ≤ 60000) (hk : k < (wrapDoc body).length) : errOf (decode ((wrapDoc body).take k)) = (if k < 4 then 2 else 4) := by
  have hl := wrapDoc_length body
  have hlen : ((wrapDoc body).take k).length = k := by rw [List.length_take]; omega
  unfold decode
  rw [if_neg (by omega), hlen]
  by_cases h4 : k < 4
  · rw [if_pos h4, if_pos h4]; rfl
  rw [if_neg h4, if_neg h4]
  have hn : signed 4 (numAt ((wrapDoc body).take k) 0 4) = ((body.length + 5 : Nat) : Int) := by
    rw [← num_wrap (x := wrapDoc body) h ⟨[], by simp⟩]
    unfold numAt
    rw [List.drop_zero, List.drop_zero, List.take_take, Nat.min_eq_left (by omega)]
  rw [hn, if_neg (by omega), if_pos (by omega)]; rfl
theorem more_bad {body : Bs} {x : UInt8} (h : body.length ≤ 60000) : errOf (decode (wrapDoc body ++ [x])) = 4 := by
  have hl := wrapDoc_length body
  have hlen : (wrapDoc body ++ [x]).length = body.length + 6 := by rw [List.length_append, hl]; rfl
  unfold decode
  rw [if_neg (by omega), if_neg (by omega), num_wrap h ⟨[x], rfl⟩, if_neg (by omega), hlen, if_pos (by omega)]; rfl

/-- Decode's answer, its error alone. -/
theorem DecodeP.shape {w w' : World} {r : Res Val} {e : Ending} (h : DecodeP w r e w') : ∃ k n s0 ba bn bc fa fn fc la ln lc, e = .returned (.tuple #[.agg #[.int .i64 k, .int .i64 n, .string s0, .slice ba bn bc, .slice fa fn fc, .slice la ln lc], .int .i64 (errOf r)]) ∧ Step [] id id w w' := by
  obtain ⟨h1, cs, rfl, hx⟩ := h
  obtain ⟨s0, ba, bn, bc, fa, fn, fc, la, ln, lc, rfl, -⟩ := hx.six
  exact ⟨_, _, s0, ba, bn, bc, fa, fn, fc, la, ln, lc, rfl, h1⟩

theorem Grew.fresh {w w' : World} {v v' : Value} (h : Grew w v w' v') (hv : ∀ k, v.ownBlock = some k → w.heap.size ≤ k) : Step [] id id w w' :=
  Step.tailNew (T2 := v.ownBlock.toList) (Step.refl _ _ _) (h.step fun k hk => by rw [hk]; simp) (fun r hr => .inr (hv r (by cases hv : v.ownBlock <;> rw [hv] at hr <;> simp at hr; rw [hr])))
theorem row_made0 (w : World) {B : Nat} (hB : B = w.heap.size) : Row (w.alloc (.cells #[] 5)) (.slice (some ⟨B, 0, none⟩) 0 0) [] := by subst hB; exact World.ownsRow_made w #[] 0 (Nat.zero_le _) (Nat.zero_le _) rfl
theorem BIn.onto {w w' : World} {v : Value} {l : Bs} (h : BIn (fun k => k < w.heap.size) w v l) (hs : Step [] id id w w') : BIn (fun k => k < w'.heap.size) w' v l :=
  h.keep (fun k hk => Nat.lt_of_lt_of_le hk hs.size) (fun k hk hl => (hs.keep k hl (by simp)).2)
theorem Row.cut {w : World} {b c : Nat} {l : Bs} {k : Nat} (h : Lie w ⟨b, 0, none⟩ l) (hb : b < w.heap.size) (hk : k ≤ l.length) (hc : l.length ≤ c) : BIn (fun k => k < w.heap.size) w (.slice (Option.some ⟨b, 0, none⟩) k c) (l.take k) := by
  have hlen : (l.take k).length = k := by rw [List.length_take]; omega
  refine .inr ⟨b, 0, c, by rw [hlen], by omega, hb, fun i hi => ?_⟩
  have := h i (by omega)
  rw [addr_add] at this
  rw [this]; simp

set_option maxRecDepth 100000 in
set_option maxHeartbeats 8000000 in
theorem law_cuts {w : World} {x : Val} {cs : List Value} (cn : Nat) (hcn : cn < 65536) (ht : Tw w) (hx : VIs (fun k => k < w.heap.size) w x cs) : Calls Tryd.prog 5 #[.agg cs.toArray, .int .u16 cn] w fun e w' => e = .returned (.bool true) ∧ Step [] id id w w' := by
  obtain ⟨s0, ba, bn, bc, fa, fn, fc, la, ln, lc, hcs, -⟩ := hx.six
  obtain ⟨n0, hn0⟩ : ∃ k, k = x.num := ⟨_, rfl⟩
  obtain ⟨k0, hk0⟩ : ∃ k, k = x.kind := ⟨_, rfl⟩
  rw [← hk0, ← hn0] at hcs
  subst hcs
  obtain ⟨W1, hW1⟩ : ∃ W1, W1 = w.alloc (.cells #[.int .i64 k0, .int .i64 n0, .string s0, .slice ba bn bc, .slice fa fn fc, .slice la ln lc] 27) := ⟨_, rfl⟩
  have hV := Lib.hid (show W1.heap[w.heap.size]? = some (.cells #[.int .i64 k0, .int .i64 n0, .string s0, .slice ba bn bc, .slice fa fn fc, .slice la ln lc] 27 (0, 0)) by rw [hW1]; exact heap_alloc_new w _)
  have hs1 : Step [] id id w W1 := by rw [hW1]; exact Step.alloc _
  have hx1 := Lib.hid (hx.onto hs1)
  have ht1 := Lib.hid (ht.step hs1)
  have hs1H := Lib.hid hs1
  have hW1H := Lib.hid hW1
  clear hx hn0 hk0 hs1 hW1 ht
  go_enter Tryd.func5, Tryd.ntmps5
  go_wp2_with (go_at_call 10; rw [← hW1H.out]; refine (bs_awake W1 ht1.out).mono ?_; rintro e w2 ⟨rfl, hs2⟩; have hVr := (hs2).at hV.out (by simp); have vlt := lt_of_block hVr; have v0 := cell_blk hVr (i := 0) rfl; have v1 := cell_blk hVr (i := 1) rfl; have v2 := cell_blk hVr (i := 2) rfl; have v3 := cell_blk hVr (i := 3) rfl; have v4 := cell_blk hVr (i := 4) rfl; have v5 := cell_blk hVr (i := 5) rfl; clear hVr; have hs2H := Lib.hid hs2; clear hs2)
  refine (bs_small (hx1.out.onto hs2H.out)).mono ?_
  rintro e w3 ⟨r, rfl, hw, hs3⟩
  have hs3H := Lib.hid (hs2H.out.tail hs3)
  have hwH := Lib.hid hw
  clear hs3 hw v0 v1 v2 v3 v4 v5 vlt
  have hVr := (hs3H.out).at hV.out (by simp); have vlt := lt_of_block hVr; have v0 := cell_blk hVr (i := 0) rfl; have v1 := cell_blk hVr (i := 1) rfl; have v2 := cell_blk hVr (i := 2) rfl; have v3 := cell_blk hVr (i := 3) rfl; have v4 := cell_blk hVr (i := 4) rfl; have v5 := cell_blk hVr (i := 5) rfl; clear hVr
  cases r
  · go_wp2_with fail
    go_ret
    exact ⟨rfl, hs1H.out.tail hs3H.out⟩
  have hw := hwH.out rfl
  cases hok : okDoc x
  · have hokH := Lib.hid hok
    clear hok
    go_wp2_with (go_at_call 14; refine (bs_encode (hx1.out.onto hs3H.out) (ht1.out.step hs3H.out)).mono ?_; rintro e w4 h; obtain ⟨rfl, hs4⟩ := h.ill hokH.out; have hs4H := Lib.hid hs4; clear hs4 h)
    go_ret
    exact ⟨rfl, (hs1H.out.tail hs3H.out).tail hs4H.out⟩
  have hshort := enc_short hok hw
  have hokH := Lib.hid hok
  have hwl := wrapDoc_length (encFs x.f)
  obtain ⟨n, hn⟩ : ∃ n, n = (wrapDoc (encFs x.f)).length := ⟨_, rfl⟩
  have hnH := Lib.hid hn
  have hn5 : 5 ≤ n := by omega
  have hn6 : n ≤ 42000 := by omega
  clear hok hw hshort hwl hn
  obtain ⟨k, hk⟩ : ∃ k, k = cn % n := ⟨_, rfl⟩
  have hkn : k < n := by rw [hk]; exact Nat.mod_lt _ (by omega)
  have hki : (cn : Int) % (n : Int) = (k : Int) := by rw [hk]; push_cast; rfl
  have hni : ((n : Int) == 0) = false := by rw [beq_eq_false_iff_ne]; omega
  have hni2 : ¬ (n : Int) = 0 := by omega
  clear hk
  go_wp2_with (go_at_call 14; refine (bs_encode (hx1.out.onto hs3H.out) (ht1.out.step hs3H.out)).mono ?_; rintro e w4 h; obtain ⟨v, rfl, hrow, hs4, hnew⟩ := h.ok hokH.out; obtain ⟨vb, vc, rfl, hlie, hvc, hvb⟩ := hrow.some (by intro e; have h1 := hnH.out; rw [e] at h1; simp at h1; omega); rw [← hnH.out] at hvc ⊢; have hs4H := Lib.hid (hs3H.out.tail hs4); have hrowH := Lib.hid hrow; have hlieH := Lib.hid hlie; clear hs4 hrow hlie hnew h)
  have hcut := Row.cut (k := k) hlieH.out hvb (by rw [← hnH.out]; omega) (by rw [← hnH.out]; omega)
  have hEl := wrapDoc_length (encFs x.f)
  rw [← hnH.out] at hEl
  have hErr1 : errOf (decode ((wrapDoc (encFs x.f)).take k)) = (if k < 4 then 2 else 4) := cut_bad (by omega) (by rw [← hnH.out]; exact hkn)
  refine (bs_decode hcut (by rw [List.length_take]; omega) (ht1.out.step hs4H.out)).mono ?_
  rintro e w5 h
  obtain ⟨k5, n5, s5, ba5, bn5, bc5, fa5, fn5, fc5, la5, ln5, lc5, rfl, hs5⟩ := h.shape
  rw [hErr1]
  obtain ⟨E1, hE1⟩ : ∃ E1 : Int, E1 = (if k < 4 then 2 else 4) := ⟨_, rfl⟩
  have hE1H := Lib.hid hE1
  rw [← hE1]
  have hs5H := Lib.hid hs5
  have hbin5 := BIn.onto hrowH.out.bin hs5
  have hbin5H := Lib.hid hbin5
  have hErr1H := Lib.hid hErr1
  have hElH := Lib.hid hEl
  have hsrcH := Lib.hid (show ∀ o1 o2, Src ((w5.alloc o1).alloc o2) 1 (.slice (some ⟨vb, 0, none⟩) n vc) (wrapDoc (encFs x.f)).length (byteVals (wrapDoc (encFs x.f))) from fun o1 o2 => by have h1 := (hbin5.onto ((Step.alloc o1).tail (Step.alloc o2))).src; rw [← hnH.out] at h1 ⊢; exact h1)
  have hn8 := Lib.hid (show ([] ++ wrapDoc (encFs x.f) : Bs).length + 1 ≤ 1000000000 by rw [List.nil_append, ← hnH.out]; omega)
  have hn7 := Lib.hid (show ([] : Bs).length + n ≤ 1000000000 by simp; omega)
  have hZ2 := Lib.hid (show (cn : Int) % 256 = ((UInt8.ofNat cn).toNat : Int) by simp)
  clear h hs5 hbin5 hcut hE1 hErr1 hEl v0 v1 v2 v3 v4 v5
  go_wp2_with (first
    | (at_builtin; refine wpList_put_byte rfl _ _ rfl (by rfl) hr6H.out (UInt8.ofNat cn) (by rfl) (by rfl) (by exact hZ2.out) (by exact hn8.out) ?_; intro ad7 N7 c7 w7 hr7 hg7; have hs7 : Step [] id id w5 w7 := (hg6H.out.trans hg7).fresh (fun k h => by cases h; exact Nat.le_succ _); have hs7H := Lib.hid hs7; have hr7H := Lib.hid hr7; clear hs7 hr7 hg7)
    | (at_builtin; refine wpList_put_src (v := .slice (some ⟨w5.heap.size + 1, 0, none⟩) 0 0) (l := []) rfl _ _ rfl (by rfl) (by exact row_made0 _ (by exact (Array.size_push _).symm)) (wrapDoc (encFs x.f)) (by rfl) (by exact hsrcH.out _ _) (by rw [← hnH.out]; exact hn7.out) ?_; intro ad6 N6 c6 w6 hr6 hg6; have hg6 := Grew.left ((World.grownBy_alloc w5 _ none).trans (World.grownBy_alloc _ _ none)) hg6; have hg6H := Lib.hid hg6; have hr6H := Lib.hid hr6; clear hr6 hg6))
  have hbin7 := hr7H.out.bin
  have hs47 := hs4H.out.tail (hs5H.out.tail hs7H.out)
  have hs47H := Lib.hid hs47
  refine (bs_decode hbin7 (by rw [List.nil_append, List.length_append, ← hnH.out]; simp; omega) (ht1.out.step hs47)).mono ?_
  rintro e w8 h
  obtain ⟨k8, n8, s8, ba8, bn8, bc8, fa8, fn8, fc8, la8, ln8, lc8, rfl, hs8⟩ := h.shape
  rw [List.nil_append, more_bad (by have := hElH.out; omega)]
  have hs8H := Lib.hid hs8
  clear h hs8 hbin7 hs47
  by_cases hk4 : k < 4
  · have hk5 : (k : Int) < 4 := by omega
    have hE : E1 = 2 := by rw [hE1H.out, if_pos hk4]
    subst hE
    go_wp2_with fail
    go_ret
    exact ⟨rfl, ((hs1H.out.tail hs47H.out).tail hs8H.out).tail (Step.alloc _)⟩
  · have hk5 : ¬ (k : Int) < 4 := by omega
    have hE : E1 = 4 := by rw [hE1H.out, if_neg hk4]
    subst hE
    go_wp2_with fail
    go_ret
    exact ⟨rfl, ((hs1H.out.tail hs47H.out).tail hs8H.out).tail (Step.alloc _)⟩
end Go.Proofs.YtbkmnhogfegmcaaDoor
