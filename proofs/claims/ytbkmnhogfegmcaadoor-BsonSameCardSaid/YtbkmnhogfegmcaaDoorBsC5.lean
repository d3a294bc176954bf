/- slices.Clone over fields and values; bytes.Clone. -/
import Derived.Test.YtbkmnhogfegmcaaDoorBsC4
set_option linter.unusedVariables false
set_option linter.unusedSimpArgs false
namespace Go.Proofs.YtbkmnhogfegmcaaDoor
open Go.RowKit

theorem row_made {w : World} {e : TypeId} {size : Nat} {B : Nat} (hB : B = w.heap.size) : (w.alloc (.cells #[] e)).ownsRow 0 e size (.slice (some ⟨B, 0, none⟩) 0 0) 0 [] := by subst hB; exact World.ownsRow_made w #[] 0 (Nat.zero_le _) (Nat.zero_le _) (by simp)

def ClonedF (P : Nat → Prop) (w : World) (f : List (Bs × Val)) (e : Ending) (w' : World) : Prop :=
  ∃ va vc xs, e = .returned (.slice va f.length vc) ∧ w'.ownsRow 0 44 7 (.slice va f.length vc) f.length xs ∧ FRow (fun _ => P) w' f xs ∧ Step [] id id w w' ∧ ∀ k, (Value.slice va f.length vc).ownBlock = some k → w.heap.size ≤ k
def ClonedL (P : Nat → Prop) (w : World) (l : List Val) (e : Ending) (w' : World) : Prop :=
  ∃ va vc xs, e = .returned (.slice va l.length vc) ∧ w'.ownsRow 0 27 6 (.slice va l.length vc) l.length xs ∧ LRow (fun _ => P) w' l xs ∧ Step [] id id w w' ∧ ∀ k, (Value.slice va l.length vc).ownBlock = some k → w.heap.size ≤ k
set_option maxRecDepth 100000 in
set_option maxHeartbeats 4000000 in
theorem clone_f {P : Nat → Prop} {w : World} {f : List (Bs × Val)} {fa : Option Addr} {fc : Nat} (hf : FIs P w f fa 0) (hc : f.length ≤ fc) (ha : fa = none → fc = 0) (hs : f.length ≤ 3000) :
    Calls Tryd.prog 37 #[.slice fa f.length fc] w (ClonedF P w f) := by
  obtain ⟨xs, hsrc, hrow, hone⟩ := hf.src hc ha
  obtain ⟨n, hn⟩ : ∃ n, n = f.length := ⟨_, rfl⟩
  rw [← hn] at hc hs hsrc
  rw [show (Value.slice fa f.length fc) = .slice fa n fc by rw [hn]]
  have hxl : xs.length = n * 7 := by rw [hn]; exact hrow.1
  have hrowH := Lib.hid hrow
  have hsrcH := Lib.hid (show ∀ o, Src (w.alloc o) 7 (.slice fa n fc) n xs from fun o => ⟨hsrc.1, hsrc.2.imp id (fun ⟨ad, c, e1, e2⟩ => ⟨ad, c, e1, fun j u hj => by
    have := e2 j u hj
    exact (World.cell?_of_block (a := ad.add j) ((World.grownBy_alloc w o none).block _ (World.block_lt_of_cell? w _ this) (by simp))).trans this⟩)⟩)
  have honeH := Lib.hid hone
  have hnH := Lib.hid hn
  have hxlH := Lib.hid hxl
  obtain ⟨i0, hi, hz0, hz1, hz2⟩ := info_split info_field
  have hiH := Lib.hid hi
  have hz0H := Lib.hid hz0
  have hz1H := Lib.hid hz1
  have hz2H := Lib.hid hz2
  clear hf hsrc hrow hone hn hxl hi hz0 hz1 hz2
  have hnil := fun (w : World) (a : Option Addr) (l c : Nat) => Lib.run_eql_slice_nil w 24 44 a l c 0 0 Tryd.underlying24
  go_enter Tryd.func37, Tryd.ntmps37
  cases fa with
  | none =>
    obtain rfl := ha rfl
    obtain rfl : n = 0 := by omega
    go_wp2_with fail
    go_ret
    have hx0 : xs = [] := List.eq_nil_of_length_eq_zero (by rw [hxlH.out])
    unfold ClonedF
    rw [← hnH.out]
    exact ⟨none, 0, xs, rfl, by rw [hx0]; exact ⟨by simp, .inl ⟨rfl, rfl⟩⟩, hrowH.out, Step.refl _ _ _, fun k hk => by cases hk⟩
  | some a =>
    clear ha
    go_wp2_with (at_builtin; (refine wpList_app rfl _ _ 24 rfl 44 i0 _ 7 120 Tryd.underlying24 hiH.out hz0H.out hz1H.out hz2H.out rfl (by decide) (.slice (some ⟨w.heap.size, 0, none⟩) 0 0) 0 [] (by rfl) (by exact row_made rfl) (.slice (some a) n fc) n xs (by rfl) (hsrcH.out _) (by exact honeH.out) (by omega) (by omega) ?_; intro ad' c' w5 hown5 hgrow5 hnil5 hat5; have hs5 := Lib.hid (Step.tailNew (T2 := [w.heap.size]) (Step.alloc (T := []) (g := id) (w := w) (.cells #[] 44)) (.grown hgrow5 (fun k hk => by cases hk; simp)) (by simp)); have hown5H := Lib.hid hown5; have hat5H := Lib.hid hat5; clear hown5 hgrow5 hnil5 hat5))
    go_ret
    unfold ClonedF
    rw [← hnH.out]
    have e0 : 0 + n = n := Nat.zero_add n
    have h5 := hown5H.out
    have h6 := hat5H.out
    rw [e0, List.nil_append] at h5
    rw [e0] at h6
    refine ⟨ad', c', xs, rfl, h5, hrowH.out.keep (fun _ _ h => h) (fun i k _ hk => (hs5.out.keep k hk (by simp)).2), hs5.out, fun k hk => ?_⟩
    rcases h6 with h | h
    · rw [h] at hk; cases hk; exact Nat.le_refl _
    · rw [h] at hk; cases hk; simp
set_option maxRecDepth 100000 in
set_option maxHeartbeats 4000000 in
theorem clone_l {P : Nat → Prop} {w : World} {l : List Val} {la : Option Addr} {lc : Nat} (hl : LIs P w l la 0) (hc : l.length ≤ lc) (ha : la = none → lc = 0) (hs : l.length ≤ 3000) :
    Calls Tryd.prog 38 #[.slice la l.length lc] w (ClonedL P w l) := by
  obtain ⟨xs, hsrc, hrow, hone⟩ := hl.src hc ha
  obtain ⟨n, hn⟩ : ∃ n, n = l.length := ⟨_, rfl⟩
  rw [← hn] at hc hs hsrc
  rw [show (Value.slice la l.length lc) = .slice la n lc by rw [hn]]
  have hxl : xs.length = n * 6 := by rw [hn]; exact hrow.1
  have hrowH := Lib.hid hrow
  have hsrcH := Lib.hid (show ∀ o, Src (w.alloc o) 6 (.slice la n lc) n xs from fun o => ⟨hsrc.1, hsrc.2.imp id (fun ⟨ad, c, e1, e2⟩ => ⟨ad, c, e1, fun j u hj => by
    have := e2 j u hj
    exact (World.cell?_of_block (a := ad.add j) ((World.grownBy_alloc w o none).block _ (World.block_lt_of_cell? w _ this) (by simp))).trans this⟩)⟩)
  have honeH := Lib.hid hone
  have hnH := Lib.hid hn
  have hxlH := Lib.hid hxl
  obtain ⟨i0, hi, hz0, hz1, hz2⟩ := info_split info_value
  have hiH := Lib.hid hi
  have hz0H := Lib.hid hz0
  have hz1H := Lib.hid hz1
  have hz2H := Lib.hid hz2
  clear hl hsrc hrow hone hn hxl hi hz0 hz1 hz2
  have hnil := fun (w : World) (a : Option Addr) (l c : Nat) => Lib.run_eql_slice_nil w 25 27 a l c 0 0 Tryd.underlying25
  go_enter Tryd.func38, Tryd.ntmps38
  cases la with
  | none =>
    obtain rfl := ha rfl
    obtain rfl : n = 0 := by omega
    go_wp2_with fail
    go_ret
    have hx0 : xs = [] := List.eq_nil_of_length_eq_zero (by rw [hxlH.out])
    unfold ClonedL
    rw [← hnH.out]
    exact ⟨none, 0, xs, rfl, by rw [hx0]; exact ⟨by simp, .inl ⟨rfl, rfl⟩⟩, hrowH.out, Step.refl _ _ _, fun k hk => by cases hk⟩
  | some a =>
    clear ha
    go_wp2_with (at_builtin; (refine wpList_app rfl _ _ 25 rfl 27 i0 _ 6 104 Tryd.underlying25 hiH.out hz0H.out hz1H.out hz2H.out rfl (by decide) (.slice (some ⟨w.heap.size, 0, none⟩) 0 0) 0 [] (by rfl) (by exact row_made rfl) (.slice (some a) n lc) n xs (by rfl) (hsrcH.out _) (by exact honeH.out) (by omega) (by omega) ?_; intro ad' c' w5 hown5 hgrow5 hnil5 hat5; have hs5 := Lib.hid (Step.tailNew (T2 := [w.heap.size]) (Step.alloc (T := []) (g := id) (w := w) (.cells #[] 27)) (.grown hgrow5 (fun k hk => by cases hk; simp)) (by simp)); have hown5H := Lib.hid hown5; have hat5H := Lib.hid hat5; clear hown5 hgrow5 hnil5 hat5))
    go_ret
    unfold ClonedL
    rw [← hnH.out]
    have e0 : 0 + n = n := Nat.zero_add n
    have h5 := hown5H.out
    have h6 := hat5H.out
    rw [e0, List.nil_append] at h5
    rw [e0] at h6
    refine ⟨ad', c', xs, rfl, h5, hrowH.out.keep (fun _ _ h => h) (fun i k _ hk => (hs5.out.keep k hk (by simp)).2), hs5.out, fun k hk => ?_⟩
    rcases h6 with h | h
    · rw [h] at hk; cases hk; exact Nat.le_refl _
    · rw [h] at hk; cases hk; simp

/-- Bytes, cloned. -/
def ClonedB (w : World) (b : Bs) (e : Ending) (w' : World) : Prop :=
  ∃ v, e = .returned v ∧ Row w' v b ∧ Step [] id id w w' ∧ ∀ k, v.ownBlock = some k → w.heap.size ≤ k
set_option maxRecDepth 100000 in
theorem clone_none (w : World) : Calls Tryd.prog 36 #[.slice none 0 0] w fun e w' => e = .returned (.slice none 0 0) ∧ w = w' := by
  have hnil := fun w : World => Lib.run_eql_slice_nil w 22 5 none 0 0 0 0 Tryd.underlying22
  go_enter Tryd.func36, Tryd.ntmps36
  go_wp2_with fail
  go_ret
  exact ⟨rfl, rfl⟩
theorem clone_b {P : Nat → Prop} {w : World} {ba : Option Addr} {n bc : Nat} {b : Bs} (hb : BIn P w (.slice ba n bc) b) (hn : n = b.length) (hs : n ≤ 3000) : Calls Tryd.prog 36 #[.slice ba n bc] w (ClonedB w b) := by
  have hsome : ∀ a, ba = some a → Lie w a b → Calls Tryd.prog 36 #[.slice ba n bc] w (ClonedB w b) := fun a e h => by
    subst e
    refine (bs_clone a n bc b w hn (by omega) h).mono fun e w' ⟨v, h1, _, h3, h4, h5⟩ => ⟨v, h1, h3, h4, h5⟩
  rcases hb with ⟨a, c, e, rfl, h0⟩ | ⟨g, o, c, e, _, _, hc⟩
  · injection e with e1 e2 e3
    subst e1 e3
    cases ba with
    | none =>
      obtain rfl := h0 rfl
      subst e2
      refine (clone_none w).mono ?_
      rintro e w' ⟨rfl, rfl⟩
      exact ⟨_, rfl, ⟨by simp, .inl ⟨rfl, rfl⟩⟩, Step.refl _ _ _, fun k hk => by cases hk⟩
    | some a => exact hsome a rfl (fun i hi => by simp at hi)
  · injection e with e1 e2 e3
    exact hsome _ e1 (fun i hi => by rw [addr_add]; exact hc i hi)
end Go.Proofs.YtbkmnhogfegmcaaDoor
