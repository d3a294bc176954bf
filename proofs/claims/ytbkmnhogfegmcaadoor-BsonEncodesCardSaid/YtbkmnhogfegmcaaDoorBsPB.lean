/- The reference: own, whole; Encode. -/
import Derived.Test.YtbkmnhogfegmcaaDoorBsPA
set_option linter.unusedVariables false
set_option linter.unusedSimpArgs false
namespace Go.Proofs.YtbkmnhogfegmcaaDoor
open Go.RowKit

theorem own_step (N : Nat) (ih : OwnC N) : OwnC (N + 1) := by
  intro P x cs w d hN hw hd hx
  cases x with
  | mk k n s b f l =>
    have hw2 := hw
    rw [weightV] at hw2
    by_cases h1 : k = 1 ∨ k = 2 ∨ k = 12
    · exact own_none h1 hx
    by_cases h3 : k = 3
    · exact own_i32 h3 hx
    by_cases h4 : k = 4 ∨ k = 11
    · exact own_num8 h4 hx
    by_cases h5 : k = 5
    · exact own_text h5 hx (by omega)
    by_cases h6 : k = 6
    · exact own_doc N ih h6 hx (fun j h => Nat.lt_of_lt_of_le (f_size h) (Nat.le_of_lt_succ hN)) (by omega) hd
    by_cases h7 : k = 7
    · exact own_list N ih h7 hx (fun j h => Nat.lt_of_lt_of_le (l_size h) (Nat.le_of_lt_succ hN)) (by omega) hd
    by_cases h8 : k = 8
    · exact own_bytes h8 hx (by omega)
    by_cases h9 : k = 9
    · exact own_id h9 hx
    by_cases h10 : k = 10
    · exact own_bool h10 hx
    exact own_no (by omega) hx
theorem own_all : ∀ N, OwnC N
  | 0 => fun _ x _ _ _ hN => absurd hN (Nat.not_lt_zero _)
  | N + 1 => own_step N (own_all N)
/-- The reference's Encode: a document's bytes, or that it may not be one. -/
def REncP (P : Nat → Prop) (x : Val) (w : World) (e : Ending) (w' : World) : Prop :=
  ∃ ba bn bc, Step [] id id w w' ∧ ((okDoc x = true ∧ e = .returned (.tuple #[.slice ba bn bc, .int .i64 0]) ∧ bn = (wrapDoc (encFs x.f)).length ∧ BIn (fun k => P k ∨ w.heap.size ≤ k) w' (.slice ba bn bc) (wrapDoc (encFs x.f))) ∨
    (okDoc x = false ∧ e = .returned (.tuple #[.slice none 0 0, .int .i64 1])))
/-- A small document may be just if its value may be. -/
theorem okDoc_own {x : Val} (h : weightV x ≤ 3000) (hk : x.kind = 6) : okDoc x = okV 0 x ∧ encV x = wrapDoc (encFs x.f) := by
  cases x with
  | mk k n s b f l =>
    obtain rfl : k = 6 := hk
    have h2 := enc_lenV (.mk 6 n s b f l) (by omega)
    have e : encV (.mk 6 n s b f l) = wrapDoc (encFs f) := by simp [encV]
    rw [e] at h2
    have hl : (wrapDoc (encFs f)).length ≤ 65536 := by omega
    refine ⟨?_, e⟩
    unfold okDoc
    rw [okV]
    simp [Val.kind, Val.f, codeOf, hl]
set_option maxRecDepth 100000 in
set_option maxHeartbeats 4000000 in
theorem ref_encode {P : Nat → Prop} {x : Val} {cs : List Value} {w : World} (hx : VIs P w x cs) (hw : weightV x ≤ 3000) : Calls Tryd.prog 17 #[.agg cs.toArray] w (REncP P x w) := by
  obtain ⟨s0, ba, bn, bc, fa, fn, fc, la, ln, lc, hcs, -⟩ := hx.six
  obtain ⟨n0, hn0⟩ : ∃ k, k = x.num := ⟨_, rfl⟩
  obtain ⟨k0, hk0⟩ : ∃ k, k = x.kind := ⟨_, rfl⟩
  rw [← hk0, ← hn0] at hcs
  subst hcs
  obtain ⟨W1, hW1⟩ : ∃ W1, W1 = w.alloc (.cells #[.int .i64 k0, .int .i64 n0, .string s0, .slice ba bn bc, .slice fa fn fc, .slice la ln lc] 27) := ⟨_, rfl⟩
  have hst1 : Step [] id id w W1 := by rw [hW1]; exact Step.alloc _
  have hc : Calls Tryd.prog 35 #[.agg #[.int .i64 k0, .int .i64 n0, .string s0, .slice ba bn bc, .slice fa fn fc, .slice la ln lc], .int .i64 1] W1 (OwnP P x 0 W1) :=
    own_all (SizeOf.sizeOf x + 1) P x _ W1 0 (Nat.lt_succ_self _) hw (by omega) (hx.keep (P2 := P) (w' := W1) (fun _ h => h) (fun k hP hk => (hst1.keep k hk (by simp)).2))
  have hcH := Lib.hid hc
  have hst1H := Lib.hid hst1
  have hW1H := Lib.hid hW1
  have hk0H := Lib.hid hk0
  clear hx hc hst1 hW1 hk0 hn0
  by_cases hk : k0 = 6
  · have hd : (k0 != 6) = false := by rw [bne_eq_false_iff_eq]; exact hk
    have hx6 : x.kind = 6 := by rw [← hk0H.out]; exact hk
    obtain ⟨ho, hen⟩ := okDoc_own hw hx6
    have hoH := Lib.hid ho
    have henH := Lib.hid hen
    obtain ⟨r, hr⟩ : ∃ r, r = okV 0 x := ⟨_, rfl⟩
    have hrH := Lib.hid hr
    clear ho hen hx6 hr hk
    go_enter Tryd.func17, Tryd.ntmps17
    go_wp2_with fail
    rw [← hW1H.out]
    refine hcH.out.mono ?_
    rintro e w2 ⟨xa, xn, xc, rfl, hok, hs2⟩
    rw [← hrH.out] at hok ⊢
    have hokH := Lib.hid hok
    have hs2H := Lib.hid hs2
    clear hok hs2
    cases r
    · go_wp2_with fail
      go_ret2
      exact ⟨none, 0, 0, hst1H.out.tail hs2H.out, .inr ⟨by rw [hoH.out, ← hrH.out], rfl⟩⟩
    · go_wp2_with fail
      go_ret2
      obtain ⟨h1, h2⟩ := hokH.out trivial
      rw [henH.out] at h1 h2
      exact ⟨xa, xn, xc, hst1H.out.tail hs2H.out, .inl ⟨by rw [hoH.out, ← hrH.out], rfl, h1, h2.keep (fun k h => h.imp id (fun h => Nat.le_trans hst1H.out.size h)) (fun _ _ _ => rfl)⟩⟩
  · have hd : (k0 != 6) = true := by rw [bne_iff_ne]; exact hk
    have hno : okDoc x = false := by unfold okDoc; rw [decide_eq_false (by rw [← hk0H.out]; exact hk)]; rfl
    have hnoH := Lib.hid hno
    clear hno hk
    go_enter Tryd.func17, Tryd.ntmps17
    go_wp2_with fail
    go_ret2
    exact ⟨none, 0, 0, by rw [← hW1H.out]; exact hst1H.out, .inr ⟨hnoH.out, rfl⟩⟩
end Go.Proofs.YtbkmnhogfegmcaaDoor
