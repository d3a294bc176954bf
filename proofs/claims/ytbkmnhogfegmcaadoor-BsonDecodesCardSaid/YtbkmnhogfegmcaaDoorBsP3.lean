/- The reference: Utf8, NameMay. -/
import Derived.Test.YtbkmnhogfegmcaaDoorBsP2
set_option linter.unusedVariables false
set_option linter.unusedSimpArgs false
namespace Go.Proofs.YtbkmnhogfegmcaaDoor
open Go.RowKit

theorem and_192 {y : Nat} (h : y < 256) : (bits BinOp.and IntKind.u8 (y : Int) 192 != 128) = !(decide (128 ≤ y ∧ y ≤ 191)) := by
  have h1 : ∀ y : Fin 256, (bits BinOp.and IntKind.u8 ((y.val : Nat) : Int) 192 != 128) = !(decide (128 ≤ y.val ∧ y.val ≤ 191)) := by decide +kernel
  exact h1 ⟨y, h⟩
set_option maxRecDepth 100000 in
set_option maxHeartbeats 8000000 in
theorem ref_utf8 (l : Bs) (w : World) (hl : l.length ≤ 140737488351232) : Calls Tryd.prog 57 #[.string (strOf l)] w fun e w' => e = .returned (.bool (utf8 l)) ∧ w = w' := by
  obtain ⟨S, hS⟩ : ∃ S, S = strOf l := ⟨_, rfl⟩
  have hsz : S.size = l.length := by rw [hS, strOf_size]
  have hget : ∀ k (h : k < S.size), S[k].toNat = byteAt l k := fun k h => by
    subst hS
    rw [byteAt_get (by rw [← hsz]; exact h)]
    rfl
  have hbl : ∀ k, byteAt l k < 256 := fun k => UInt8.toNat_lt _
  rw [← hS]
  obtain ⟨L, hL⟩ : ∃ L, L = l.length := ⟨_, rfl⟩
  rw [← hL] at hsz hl
  have hszi : S.size ≤ 140737488351232 := by omega
  have hSH := Lib.hid hS
  have hszH := Lib.hid hsz
  have hLH := Lib.hid hL
  have hgetH := Lib.hid hget
  have hblH := Lib.hid hbl
  clear hS hsz hL hget hbl
  go_enter Tryd.func57, Tryd.ntmps57
  go_wp2_with fail
  go_loop [3] (fun i => ∃ j : Nat, i = .int .i64 j ∧ j ≤ L ∧ utf8 l = utf8 (l.drop j)) (fun i => L - (intOf i).toNat)
  case atStart => exact ⟨0, rfl, Nat.zero_le _, rfl⟩
  case round =>
    obtain ⟨j, rfl, hj, he⟩ := hrel
    have heH := Lib.hid he
    clear he
    have hsz := hszH.out
    by_cases hjl : j < L
    · have hjs : j < S.size := by omega
      have hjs1 : (j : Int) < (S.size : Int) := by omega
      have hj0 : (0 : Int) ≤ (j : Int) := by omega
      obtain ⟨c, hc⟩ : ∃ c, c = byteAt l j := ⟨_, rfl⟩
      have hcs : S[j].toNat = c := by rw [hc]; exact hgetH.out j hjs
      have hc256 : c < 256 := by rw [hc]; exact hblH.out j
      have hwrap1 : IntKind.i64.wrap ((j : Int) + 1) = (j : Int) + 1 := IntWalk.i64_in _ (by omega)
      have hcH := Lib.hid hc
      have hszH2 := Lib.hid hsz
      clear hc hsz
      by_cases h128 : c < 128
      · have h128i : (c : Int) < 128 := by omega
        go_wp2_with fail
        refine ⟨⟨j + 1, by go_num, by omega, ?_⟩, by simp [intOf]; omega⟩
        rw [heH.out]
        exact utf8_step (by rw [← hLH.out]; exact hjl) (by rw [← hcH.out]; unfold stepU; rw [if_pos h128]) (by omega)
      have h128i : ¬ (c : Int) < 128 := by omega
      by_cases hbad : c < 194 ∨ 244 < c
      · have hf : utf8 l = false := by
          rw [heH.out]
          refine utf8_fail (by rw [← hLH.out]; exact hjl) ?_
          rw [← hcH.out]; unfold stepU
          rcases hbad with h | h
          · rw [if_neg h128, if_pos h]
          · rw [if_neg h128, if_neg (by omega), if_neg (by omega), if_neg (by omega), if_neg (by omega)]
        have hfH := Lib.hid hf
        clear hf
        rcases hbad with h | h
        · have k1 : ¬ (194 : Int) ≤ (c : Int) := by omega
          have k2 : ¬ (224 : Int) ≤ (c : Int) := by omega
          have k3 : ¬ (240 : Int) ≤ (c : Int) := by omega
          go_wp2_with fail
          go_ret
          exact ⟨by rw [hfH.out]; rfl, rfl⟩
        · have k1 : (194 : Int) ≤ (c : Int) := by omega
          have k2 : (224 : Int) ≤ (c : Int) := by omega
          have k3 : (240 : Int) ≤ (c : Int) := by omega
          have k4 : ¬ (c : Int) ≤ 223 := by omega
          have k5 : ¬ (c : Int) ≤ 239 := by omega
          have k6 : ¬ (c : Int) ≤ 244 := by omega
          go_wp2_with fail
          go_ret
          exact ⟨by rw [hfH.out]; rfl, rfl⟩
      by_cases h223 : c ≤ 223
      · have k1 : (194 : Int) ≤ (c : Int) := by omega
        have k2 : (c : Int) ≤ 223 := by omega
        obtain ⟨x, hx⟩ : ∃ x, x = byteAt l (j + 1) := ⟨_, rfl⟩
        have hx256 : x < 256 := by rw [hx]; exact hblH.out _
        have hxH := Lib.hid hx
        clear hx
        by_cases hlen : j + 1 < L
        rotate_left
        · have hf : utf8 l = false := by
            rw [heH.out]
            refine utf8_fail (by rw [← hLH.out]; exact hjl) ?_
            rw [← hcH.out, ← hLH.out]; unfold stepU
            repeat' split
            all_goals omega
          have hfH := Lib.hid hf
          have hshort : (S.size : Int) - (j : Int) - 1 < 1 := by have := hszH.out; omega
          clear hf
          go_wp2_with fail
          go_ret
          exact ⟨by rw [hfH.out]; rfl, rfl⟩
        have hj1s : j + 1 < S.size := by have := hszH.out; omega
        have hxs : S[j + 1].toNat = x := by rw [hxH.out]; exact hgetH.out (j + 1) hj1s
        have hshort : ¬ ((S.size : Int) - (j : Int) - 1 < 1) := by have := hszH.out; omega
        by_cases hxr : 128 ≤ x ∧ x ≤ 191
        rotate_left
        · have hf : utf8 l = false := by
            rw [heH.out]
            refine utf8_fail (by rw [← hLH.out]; exact hjl) ?_
            rw [← hcH.out, ← hLH.out, ← hxH.out]; unfold stepU
            repeat' split
            all_goals omega
          have hfH := Lib.hid hf
          clear hf
          by_cases hlo : x < 128
          · have hloi : (x : Int) < 128 := by omega
            go_wp2_with fail
            go_ret
            exact ⟨by rw [hfH.out]; rfl, rfl⟩
          · have hloi : ¬ (x : Int) < 128 := by omega
            have hhii : (191 : Int) < (x : Int) := by omega
            go_wp2_with fail
            go_ret
            exact ⟨by rw [hfH.out]; rfl, rfl⟩
        have hloi : ¬ (x : Int) < 128 := by omega
        have hhii : ¬ (191 : Int) < (x : Int) := by omega
        go_wp2_with fail
        go_loop [8] (fun k => ∃ t : Nat, k = .int .i64 t ∧ 2 ≤ t ∧ t ≤ 1 + 1 ∧ ∀ s, 2 ≤ s → s < t → 128 ≤ byteAt l (j + s) ∧ byteAt l (j + s) ≤ 191) (fun k => 1 + 1 - (intOf k).toNat)
        case atStart => exact ⟨2, rfl, Nat.le_refl _, by omega, fun s h1 h2 => by omega⟩
        case round =>
          obtain ⟨t, rfl, ht2, htn, hts⟩ := hrel
          have htsH := Lib.hid hts
          clear hts
          by_cases htl : t ≤ 1
          · exfalso; omega
          · have htl1 : ¬ (t : Int) ≤ 1 := by omega
            obtain rfl : t = 1 + 1 := by omega
            go_wp2_with fail
            refine ⟨⟨j + (1 + 1), by go_num, by omega, ?_⟩, by simp [intOf]; omega⟩
            rw [heH.out]
            refine utf8_step (by rw [← hLH.out]; exact hjl) ?_ (by omega)
            have hy := htsH.out 2 (by omega)
            have hz := htsH.out 3 (by omega)
            rw [← hcH.out, ← hLH.out, ← hxH.out]; unfold stepU
            repeat' split
            all_goals omega
      by_cases h239 : c ≤ 239
      · have k1 : (194 : Int) ≤ (c : Int) := by omega
        have k2 : ¬ (c : Int) ≤ 223 := by omega
        have k3 : (224 : Int) ≤ (c : Int) := by omega
        have k4 : (c : Int) ≤ 239 := by omega
        by_cases e224 : c = 224
        · subst e224
          obtain ⟨x, hx⟩ : ∃ x, x = byteAt l (j + 1) := ⟨_, rfl⟩
          have hx256 : x < 256 := by rw [hx]; exact hblH.out _
          have hxH := Lib.hid hx
          clear hx
          by_cases hlen : j + 2 < L
          rotate_left
          · have hf : utf8 l = false := by
              rw [heH.out]
              refine utf8_fail (by rw [← hLH.out]; exact hjl) ?_
              rw [← hcH.out, ← hLH.out]; unfold stepU
              repeat' split
              all_goals omega
            have hfH := Lib.hid hf
            have hshort : (S.size : Int) - (j : Int) - 1 < 2 := by have := hszH.out; omega
            clear hf
            go_wp2_with fail
            go_ret
            exact ⟨by rw [hfH.out]; rfl, rfl⟩
          have hj1s : j + 1 < S.size := by have := hszH.out; omega
          have hxs : S[j + 1].toNat = x := by rw [hxH.out]; exact hgetH.out (j + 1) hj1s
          have hshort : ¬ ((S.size : Int) - (j : Int) - 1 < 2) := by have := hszH.out; omega
          by_cases hxr : 160 ≤ x ∧ x ≤ 191
          rotate_left
          · have hf : utf8 l = false := by
              rw [heH.out]
              refine utf8_fail (by rw [← hLH.out]; exact hjl) ?_
              rw [← hcH.out, ← hLH.out, ← hxH.out]; unfold stepU
              repeat' split
              all_goals omega
            have hfH := Lib.hid hf
            clear hf
            by_cases hlo : x < 160
            · have hloi : (x : Int) < 160 := by omega
              go_wp2_with fail
              go_ret
              exact ⟨by rw [hfH.out]; rfl, rfl⟩
            · have hloi : ¬ (x : Int) < 160 := by omega
              have hhii : (191 : Int) < (x : Int) := by omega
              go_wp2_with fail
              go_ret
              exact ⟨by rw [hfH.out]; rfl, rfl⟩
          have hloi : ¬ (x : Int) < 160 := by omega
          have hhii : ¬ (191 : Int) < (x : Int) := by omega
          go_wp2_with fail
          go_loop [8] (fun k => ∃ t : Nat, k = .int .i64 t ∧ 2 ≤ t ∧ t ≤ 2 + 1 ∧ ∀ s, 2 ≤ s → s < t → 128 ≤ byteAt l (j + s) ∧ byteAt l (j + s) ≤ 191) (fun k => 2 + 1 - (intOf k).toNat)
          case atStart => exact ⟨2, rfl, Nat.le_refl _, by omega, fun s h1 h2 => by omega⟩
          case round =>
            obtain ⟨t, rfl, ht2, htn, hts⟩ := hrel
            have htsH := Lib.hid hts
            clear hts
            by_cases htl : t ≤ 2
            · have htl1 : (t : Int) ≤ 2 := by omega
              have hjts : j + t < S.size := by have := hszH.out; omega
              obtain ⟨y, hy⟩ : ∃ y, y = byteAt l (j + t) := ⟨_, rfl⟩
              have hys : S[j + t].toNat = y := by rw [hy]; exact hgetH.out (j + t) hjts
              have hy256 : y < 256 := by rw [hy]; exact hblH.out _
              have hyH := Lib.hid hy
              clear hy
              have hbit := and_192 hy256
              by_cases hyr : 128 ≤ y ∧ y ≤ 191
              · rw [decide_eq_true hyr] at hbit
                go_wp2_with fail
                refine ⟨⟨t + 1, by go_num, by omega, by omega, fun s h1 h2 => ?_⟩, by simp [intOf]; omega⟩
                rcases Nat.lt_or_ge s t with h | h
                · exact htsH.out s h1 h
                · obtain rfl : s = t := by omega
                  rw [← hyH.out]; exact hyr
              · rw [decide_eq_false hyr] at hbit
                have hf : utf8 l = false := by
                  rw [heH.out]
                  refine utf8_fail (by rw [← hLH.out]; exact hjl) ?_
                  have hy := hyH.out
                  have ht : t = 2 ∨ t = 3 := by omega
                  rw [← hcH.out, ← hLH.out, ← hxH.out]; unfold stepU
                  rcases ht with rfl | rfl
                  · rw [← hy]
                    repeat' split
                    all_goals omega
                  · rw [← hy]
                    repeat' split
                    all_goals omega
                have hfH := Lib.hid hf
                clear hf
                go_wp2_with fail
                go_ret
                exact ⟨by rw [hfH.out]; rfl, rfl⟩
            · have htl1 : ¬ (t : Int) ≤ 2 := by omega
              obtain rfl : t = 2 + 1 := by omega
              go_wp2_with fail
              refine ⟨⟨j + (2 + 1), by go_num, by omega, ?_⟩, by simp [intOf]; omega⟩
              rw [heH.out]
              refine utf8_step (by rw [← hLH.out]; exact hjl) ?_ (by omega)
              have hy := htsH.out 2 (by omega)
              have hz := htsH.out 3 (by omega)
              rw [← hcH.out, ← hLH.out, ← hxH.out]; unfold stepU
              repeat' split
              all_goals omega
        have e224i : ((c : Int) == 224) = false := by rw [beq_eq_false_iff_ne]; omega
        by_cases e237 : c = 237
        · subst e237
          obtain ⟨x, hx⟩ : ∃ x, x = byteAt l (j + 1) := ⟨_, rfl⟩
          have hx256 : x < 256 := by rw [hx]; exact hblH.out _
          have hxH := Lib.hid hx
          clear hx
          by_cases hlen : j + 2 < L
          rotate_left
          · have hf : utf8 l = false := by
              rw [heH.out]
              refine utf8_fail (by rw [← hLH.out]; exact hjl) ?_
              rw [← hcH.out, ← hLH.out]; unfold stepU
              repeat' split
              all_goals omega
            have hfH := Lib.hid hf
            have hshort : (S.size : Int) - (j : Int) - 1 < 2 := by have := hszH.out; omega
            clear hf
            go_wp2_with fail
            go_ret
            exact ⟨by rw [hfH.out]; rfl, rfl⟩
          have hj1s : j + 1 < S.size := by have := hszH.out; omega
          have hxs : S[j + 1].toNat = x := by rw [hxH.out]; exact hgetH.out (j + 1) hj1s
          have hshort : ¬ ((S.size : Int) - (j : Int) - 1 < 2) := by have := hszH.out; omega
          by_cases hxr : 128 ≤ x ∧ x ≤ 159
          rotate_left
          · have hf : utf8 l = false := by
              rw [heH.out]
              refine utf8_fail (by rw [← hLH.out]; exact hjl) ?_
              rw [← hcH.out, ← hLH.out, ← hxH.out]; unfold stepU
              repeat' split
              all_goals omega
            have hfH := Lib.hid hf
            clear hf
            by_cases hlo : x < 128
            · have hloi : (x : Int) < 128 := by omega
              go_wp2_with fail
              go_ret
              exact ⟨by rw [hfH.out]; rfl, rfl⟩
            · have hloi : ¬ (x : Int) < 128 := by omega
              have hhii : (159 : Int) < (x : Int) := by omega
              go_wp2_with fail
              go_ret
              exact ⟨by rw [hfH.out]; rfl, rfl⟩
          have hloi : ¬ (x : Int) < 128 := by omega
          have hhii : ¬ (159 : Int) < (x : Int) := by omega
          go_wp2_with fail
          go_loop [8] (fun k => ∃ t : Nat, k = .int .i64 t ∧ 2 ≤ t ∧ t ≤ 2 + 1 ∧ ∀ s, 2 ≤ s → s < t → 128 ≤ byteAt l (j + s) ∧ byteAt l (j + s) ≤ 191) (fun k => 2 + 1 - (intOf k).toNat)
          case atStart => exact ⟨2, rfl, Nat.le_refl _, by omega, fun s h1 h2 => by omega⟩
          case round =>
            obtain ⟨t, rfl, ht2, htn, hts⟩ := hrel
            have htsH := Lib.hid hts
            clear hts
            by_cases htl : t ≤ 2
            · have htl1 : (t : Int) ≤ 2 := by omega
              have hjts : j + t < S.size := by have := hszH.out; omega
              obtain ⟨y, hy⟩ : ∃ y, y = byteAt l (j + t) := ⟨_, rfl⟩
              have hys : S[j + t].toNat = y := by rw [hy]; exact hgetH.out (j + t) hjts
              have hy256 : y < 256 := by rw [hy]; exact hblH.out _
              have hyH := Lib.hid hy
              clear hy
              have hbit := and_192 hy256
              by_cases hyr : 128 ≤ y ∧ y ≤ 191
              · rw [decide_eq_true hyr] at hbit
                go_wp2_with fail
                refine ⟨⟨t + 1, by go_num, by omega, by omega, fun s h1 h2 => ?_⟩, by simp [intOf]; omega⟩
                rcases Nat.lt_or_ge s t with h | h
                · exact htsH.out s h1 h
                · obtain rfl : s = t := by omega
                  rw [← hyH.out]; exact hyr
              · rw [decide_eq_false hyr] at hbit
                have hf : utf8 l = false := by
                  rw [heH.out]
                  refine utf8_fail (by rw [← hLH.out]; exact hjl) ?_
                  have hy := hyH.out
                  have ht : t = 2 ∨ t = 3 := by omega
                  rw [← hcH.out, ← hLH.out, ← hxH.out]; unfold stepU
                  rcases ht with rfl | rfl
                  · rw [← hy]
                    repeat' split
                    all_goals omega
                  · rw [← hy]
                    repeat' split
                    all_goals omega
                have hfH := Lib.hid hf
                clear hf
                go_wp2_with fail
                go_ret
                exact ⟨by rw [hfH.out]; rfl, rfl⟩
            · have htl1 : ¬ (t : Int) ≤ 2 := by omega
              obtain rfl : t = 2 + 1 := by omega
              go_wp2_with fail
              refine ⟨⟨j + (2 + 1), by go_num, by omega, ?_⟩, by simp [intOf]; omega⟩
              rw [heH.out]
              refine utf8_step (by rw [← hLH.out]; exact hjl) ?_ (by omega)
              have hy := htsH.out 2 (by omega)
              have hz := htsH.out 3 (by omega)
              rw [← hcH.out, ← hLH.out, ← hxH.out]; unfold stepU
              repeat' split
              all_goals omega
        have e237i : ((c : Int) == 237) = false := by rw [beq_eq_false_iff_ne]; omega
        obtain ⟨x, hx⟩ : ∃ x, x = byteAt l (j + 1) := ⟨_, rfl⟩
        have hx256 : x < 256 := by rw [hx]; exact hblH.out _
        have hxH := Lib.hid hx
        clear hx
        by_cases hlen : j + 2 < L
        rotate_left
        · have hf : utf8 l = false := by
            rw [heH.out]
            refine utf8_fail (by rw [← hLH.out]; exact hjl) ?_
            rw [← hcH.out, ← hLH.out]; unfold stepU
            repeat' split
            all_goals omega
          have hfH := Lib.hid hf
          have hshort : (S.size : Int) - (j : Int) - 1 < 2 := by have := hszH.out; omega
          clear hf
          go_wp2_with fail
          go_ret
          exact ⟨by rw [hfH.out]; rfl, rfl⟩
        have hj1s : j + 1 < S.size := by have := hszH.out; omega
        have hxs : S[j + 1].toNat = x := by rw [hxH.out]; exact hgetH.out (j + 1) hj1s
        have hshort : ¬ ((S.size : Int) - (j : Int) - 1 < 2) := by have := hszH.out; omega
        by_cases hxr : 128 ≤ x ∧ x ≤ 191
        rotate_left
        · have hf : utf8 l = false := by
            rw [heH.out]
            refine utf8_fail (by rw [← hLH.out]; exact hjl) ?_
            rw [← hcH.out, ← hLH.out, ← hxH.out]; unfold stepU
            repeat' split
            all_goals omega
          have hfH := Lib.hid hf
          clear hf
          by_cases hlo : x < 128
          · have hloi : (x : Int) < 128 := by omega
            go_wp2_with fail
            go_ret
            exact ⟨by rw [hfH.out]; rfl, rfl⟩
          · have hloi : ¬ (x : Int) < 128 := by omega
            have hhii : (191 : Int) < (x : Int) := by omega
            go_wp2_with fail
            go_ret
            exact ⟨by rw [hfH.out]; rfl, rfl⟩
        have hloi : ¬ (x : Int) < 128 := by omega
        have hhii : ¬ (191 : Int) < (x : Int) := by omega
        go_wp2_with fail
        go_loop [8] (fun k => ∃ t : Nat, k = .int .i64 t ∧ 2 ≤ t ∧ t ≤ 2 + 1 ∧ ∀ s, 2 ≤ s → s < t → 128 ≤ byteAt l (j + s) ∧ byteAt l (j + s) ≤ 191) (fun k => 2 + 1 - (intOf k).toNat)
        case atStart => exact ⟨2, rfl, Nat.le_refl _, by omega, fun s h1 h2 => by omega⟩
        case round =>
          obtain ⟨t, rfl, ht2, htn, hts⟩ := hrel
          have htsH := Lib.hid hts
          clear hts
          by_cases htl : t ≤ 2
          · have htl1 : (t : Int) ≤ 2 := by omega
            have hjts : j + t < S.size := by have := hszH.out; omega
            obtain ⟨y, hy⟩ : ∃ y, y = byteAt l (j + t) := ⟨_, rfl⟩
            have hys : S[j + t].toNat = y := by rw [hy]; exact hgetH.out (j + t) hjts
            have hy256 : y < 256 := by rw [hy]; exact hblH.out _
            have hyH := Lib.hid hy
            clear hy
            have hbit := and_192 hy256
            by_cases hyr : 128 ≤ y ∧ y ≤ 191
            · rw [decide_eq_true hyr] at hbit
              go_wp2_with fail
              refine ⟨⟨t + 1, by go_num, by omega, by omega, fun s h1 h2 => ?_⟩, by simp [intOf]; omega⟩
              rcases Nat.lt_or_ge s t with h | h
              · exact htsH.out s h1 h
              · obtain rfl : s = t := by omega
                rw [← hyH.out]; exact hyr
            · rw [decide_eq_false hyr] at hbit
              have hf : utf8 l = false := by
                rw [heH.out]
                refine utf8_fail (by rw [← hLH.out]; exact hjl) ?_
                have hy := hyH.out
                have ht : t = 2 ∨ t = 3 := by omega
                rw [← hcH.out, ← hLH.out, ← hxH.out]; unfold stepU
                rcases ht with rfl | rfl
                · rw [← hy]
                  repeat' split
                  all_goals omega
                · rw [← hy]
                  repeat' split
                  all_goals omega
              have hfH := Lib.hid hf
              clear hf
              go_wp2_with fail
              go_ret
              exact ⟨by rw [hfH.out]; rfl, rfl⟩
          · have htl1 : ¬ (t : Int) ≤ 2 := by omega
            obtain rfl : t = 2 + 1 := by omega
            go_wp2_with fail
            refine ⟨⟨j + (2 + 1), by go_num, by omega, ?_⟩, by simp [intOf]; omega⟩
            rw [heH.out]
            refine utf8_step (by rw [← hLH.out]; exact hjl) ?_ (by omega)
            have hy := htsH.out 2 (by omega)
            have hz := htsH.out 3 (by omega)
            rw [← hcH.out, ← hLH.out, ← hxH.out]; unfold stepU
            repeat' split
            all_goals omega
      · have k1 : (194 : Int) ≤ (c : Int) := by omega
        have k2 : ¬ (c : Int) ≤ 223 := by omega
        have k3 : (224 : Int) ≤ (c : Int) := by omega
        have k4 : ¬ (c : Int) ≤ 239 := by omega
        have k5 : (240 : Int) ≤ (c : Int) := by omega
        have k6 : (c : Int) ≤ 244 := by omega
        by_cases e240 : c = 240
        · subst e240
          obtain ⟨x, hx⟩ : ∃ x, x = byteAt l (j + 1) := ⟨_, rfl⟩
          have hx256 : x < 256 := by rw [hx]; exact hblH.out _
          have hxH := Lib.hid hx
          clear hx
          by_cases hlen : j + 3 < L
          rotate_left
          · have hf : utf8 l = false := by
              rw [heH.out]
              refine utf8_fail (by rw [← hLH.out]; exact hjl) ?_
              rw [← hcH.out, ← hLH.out]; unfold stepU
              repeat' split
              all_goals omega
            have hfH := Lib.hid hf
            have hshort : (S.size : Int) - (j : Int) - 1 < 3 := by have := hszH.out; omega
            clear hf
            go_wp2_with fail
            go_ret
            exact ⟨by rw [hfH.out]; rfl, rfl⟩
          have hj1s : j + 1 < S.size := by have := hszH.out; omega
          have hxs : S[j + 1].toNat = x := by rw [hxH.out]; exact hgetH.out (j + 1) hj1s
          have hshort : ¬ ((S.size : Int) - (j : Int) - 1 < 3) := by have := hszH.out; omega
          by_cases hxr : 144 ≤ x ∧ x ≤ 191
          rotate_left
          · have hf : utf8 l = false := by
              rw [heH.out]
              refine utf8_fail (by rw [← hLH.out]; exact hjl) ?_
              rw [← hcH.out, ← hLH.out, ← hxH.out]; unfold stepU
              repeat' split
              all_goals omega
            have hfH := Lib.hid hf
            clear hf
            by_cases hlo : x < 144
            · have hloi : (x : Int) < 144 := by omega
              go_wp2_with fail
              go_ret
              exact ⟨by rw [hfH.out]; rfl, rfl⟩
            · have hloi : ¬ (x : Int) < 144 := by omega
              have hhii : (191 : Int) < (x : Int) := by omega
              go_wp2_with fail
              go_ret
              exact ⟨by rw [hfH.out]; rfl, rfl⟩
          have hloi : ¬ (x : Int) < 144 := by omega
          have hhii : ¬ (191 : Int) < (x : Int) := by omega
          go_wp2_with fail
          go_loop [8] (fun k => ∃ t : Nat, k = .int .i64 t ∧ 2 ≤ t ∧ t ≤ 3 + 1 ∧ ∀ s, 2 ≤ s → s < t → 128 ≤ byteAt l (j + s) ∧ byteAt l (j + s) ≤ 191) (fun k => 3 + 1 - (intOf k).toNat)
          case atStart => exact ⟨2, rfl, Nat.le_refl _, by omega, fun s h1 h2 => by omega⟩
          case round =>
            obtain ⟨t, rfl, ht2, htn, hts⟩ := hrel
            have htsH := Lib.hid hts
            clear hts
            by_cases htl : t ≤ 3
            · have htl1 : (t : Int) ≤ 3 := by omega
              have hjts : j + t < S.size := by have := hszH.out; omega
              obtain ⟨y, hy⟩ : ∃ y, y = byteAt l (j + t) := ⟨_, rfl⟩
              have hys : S[j + t].toNat = y := by rw [hy]; exact hgetH.out (j + t) hjts
              have hy256 : y < 256 := by rw [hy]; exact hblH.out _
              have hyH := Lib.hid hy
              clear hy
              have hbit := and_192 hy256
              by_cases hyr : 128 ≤ y ∧ y ≤ 191
              · rw [decide_eq_true hyr] at hbit
                go_wp2_with fail
                refine ⟨⟨t + 1, by go_num, by omega, by omega, fun s h1 h2 => ?_⟩, by simp [intOf]; omega⟩
                rcases Nat.lt_or_ge s t with h | h
                · exact htsH.out s h1 h
                · obtain rfl : s = t := by omega
                  rw [← hyH.out]; exact hyr
              · rw [decide_eq_false hyr] at hbit
                have hf : utf8 l = false := by
                  rw [heH.out]
                  refine utf8_fail (by rw [← hLH.out]; exact hjl) ?_
                  have hy := hyH.out
                  have ht : t = 2 ∨ t = 3 := by omega
                  rw [← hcH.out, ← hLH.out, ← hxH.out]; unfold stepU
                  rcases ht with rfl | rfl
                  · rw [← hy]
                    repeat' split
                    all_goals omega
                  · rw [← hy]
                    repeat' split
                    all_goals omega
                have hfH := Lib.hid hf
                clear hf
                go_wp2_with fail
                go_ret
                exact ⟨by rw [hfH.out]; rfl, rfl⟩
            · have htl1 : ¬ (t : Int) ≤ 3 := by omega
              obtain rfl : t = 3 + 1 := by omega
              go_wp2_with fail
              refine ⟨⟨j + (3 + 1), by go_num, by omega, ?_⟩, by simp [intOf]; omega⟩
              rw [heH.out]
              refine utf8_step (by rw [← hLH.out]; exact hjl) ?_ (by omega)
              have hy := htsH.out 2 (by omega)
              have hz := htsH.out 3 (by omega)
              rw [← hcH.out, ← hLH.out, ← hxH.out]; unfold stepU
              repeat' split
              all_goals omega
        have e240i : ((c : Int) == 240) = false := by rw [beq_eq_false_iff_ne]; omega
        by_cases e244 : c = 244
        · subst e244
          obtain ⟨x, hx⟩ : ∃ x, x = byteAt l (j + 1) := ⟨_, rfl⟩
          have hx256 : x < 256 := by rw [hx]; exact hblH.out _
          have hxH := Lib.hid hx
          clear hx
          by_cases hlen : j + 3 < L
          rotate_left
          · have hf : utf8 l = false := by
              rw [heH.out]
              refine utf8_fail (by rw [← hLH.out]; exact hjl) ?_
              rw [← hcH.out, ← hLH.out]; unfold stepU
              repeat' split
              all_goals omega
            have hfH := Lib.hid hf
            have hshort : (S.size : Int) - (j : Int) - 1 < 3 := by have := hszH.out; omega
            clear hf
            go_wp2_with fail
            go_ret
            exact ⟨by rw [hfH.out]; rfl, rfl⟩
          have hj1s : j + 1 < S.size := by have := hszH.out; omega
          have hxs : S[j + 1].toNat = x := by rw [hxH.out]; exact hgetH.out (j + 1) hj1s
          have hshort : ¬ ((S.size : Int) - (j : Int) - 1 < 3) := by have := hszH.out; omega
          by_cases hxr : 128 ≤ x ∧ x ≤ 143
          rotate_left
          · have hf : utf8 l = false := by
              rw [heH.out]
              refine utf8_fail (by rw [← hLH.out]; exact hjl) ?_
              rw [← hcH.out, ← hLH.out, ← hxH.out]; unfold stepU
              repeat' split
              all_goals omega
            have hfH := Lib.hid hf
            clear hf
            by_cases hlo : x < 128
            · have hloi : (x : Int) < 128 := by omega
              go_wp2_with fail
              go_ret
              exact ⟨by rw [hfH.out]; rfl, rfl⟩
            · have hloi : ¬ (x : Int) < 128 := by omega
              have hhii : (143 : Int) < (x : Int) := by omega
              go_wp2_with fail
              go_ret
              exact ⟨by rw [hfH.out]; rfl, rfl⟩
          have hloi : ¬ (x : Int) < 128 := by omega
          have hhii : ¬ (143 : Int) < (x : Int) := by omega
          go_wp2_with fail
          go_loop [8] (fun k => ∃ t : Nat, k = .int .i64 t ∧ 2 ≤ t ∧ t ≤ 3 + 1 ∧ ∀ s, 2 ≤ s → s < t → 128 ≤ byteAt l (j + s) ∧ byteAt l (j + s) ≤ 191) (fun k => 3 + 1 - (intOf k).toNat)
          case atStart => exact ⟨2, rfl, Nat.le_refl _, by omega, fun s h1 h2 => by omega⟩
          case round =>
            obtain ⟨t, rfl, ht2, htn, hts⟩ := hrel
            have htsH := Lib.hid hts
            clear hts
            by_cases htl : t ≤ 3
            · have htl1 : (t : Int) ≤ 3 := by omega
              have hjts : j + t < S.size := by have := hszH.out; omega
              obtain ⟨y, hy⟩ : ∃ y, y = byteAt l (j + t) := ⟨_, rfl⟩
              have hys : S[j + t].toNat = y := by rw [hy]; exact hgetH.out (j + t) hjts
              have hy256 : y < 256 := by rw [hy]; exact hblH.out _
              have hyH := Lib.hid hy
              clear hy
              have hbit := and_192 hy256
              by_cases hyr : 128 ≤ y ∧ y ≤ 191
              · rw [decide_eq_true hyr] at hbit
                go_wp2_with fail
                refine ⟨⟨t + 1, by go_num, by omega, by omega, fun s h1 h2 => ?_⟩, by simp [intOf]; omega⟩
                rcases Nat.lt_or_ge s t with h | h
                · exact htsH.out s h1 h
                · obtain rfl : s = t := by omega
                  rw [← hyH.out]; exact hyr
              · rw [decide_eq_false hyr] at hbit
                have hf : utf8 l = false := by
                  rw [heH.out]
                  refine utf8_fail (by rw [← hLH.out]; exact hjl) ?_
                  have hy := hyH.out
                  have ht : t = 2 ∨ t = 3 := by omega
                  rw [← hcH.out, ← hLH.out, ← hxH.out]; unfold stepU
                  rcases ht with rfl | rfl
                  · rw [← hy]
                    repeat' split
                    all_goals omega
                  · rw [← hy]
                    repeat' split
                    all_goals omega
                have hfH := Lib.hid hf
                clear hf
                go_wp2_with fail
                go_ret
                exact ⟨by rw [hfH.out]; rfl, rfl⟩
            · have htl1 : ¬ (t : Int) ≤ 3 := by omega
              obtain rfl : t = 3 + 1 := by omega
              go_wp2_with fail
              refine ⟨⟨j + (3 + 1), by go_num, by omega, ?_⟩, by simp [intOf]; omega⟩
              rw [heH.out]
              refine utf8_step (by rw [← hLH.out]; exact hjl) ?_ (by omega)
              have hy := htsH.out 2 (by omega)
              have hz := htsH.out 3 (by omega)
              rw [← hcH.out, ← hLH.out, ← hxH.out]; unfold stepU
              repeat' split
              all_goals omega
        have e244i : ((c : Int) == 244) = false := by rw [beq_eq_false_iff_ne]; omega
        obtain ⟨x, hx⟩ : ∃ x, x = byteAt l (j + 1) := ⟨_, rfl⟩
        have hx256 : x < 256 := by rw [hx]; exact hblH.out _
        have hxH := Lib.hid hx
        clear hx
        by_cases hlen : j + 3 < L
        rotate_left
        · have hf : utf8 l = false := by
            rw [heH.out]
            refine utf8_fail (by rw [← hLH.out]; exact hjl) ?_
            rw [← hcH.out, ← hLH.out]; unfold stepU
            repeat' split
            all_goals omega
          have hfH := Lib.hid hf
          have hshort : (S.size : Int) - (j : Int) - 1 < 3 := by have := hszH.out; omega
          clear hf
          go_wp2_with fail
          go_ret
          exact ⟨by rw [hfH.out]; rfl, rfl⟩
        have hj1s : j + 1 < S.size := by have := hszH.out; omega
        have hxs : S[j + 1].toNat = x := by rw [hxH.out]; exact hgetH.out (j + 1) hj1s
        have hshort : ¬ ((S.size : Int) - (j : Int) - 1 < 3) := by have := hszH.out; omega
        by_cases hxr : 128 ≤ x ∧ x ≤ 191
        rotate_left
        · have hf : utf8 l = false := by
            rw [heH.out]
            refine utf8_fail (by rw [← hLH.out]; exact hjl) ?_
            rw [← hcH.out, ← hLH.out, ← hxH.out]; unfold stepU
            repeat' split
            all_goals omega
          have hfH := Lib.hid hf
          clear hf
          by_cases hlo : x < 128
          · have hloi : (x : Int) < 128 := by omega
            go_wp2_with fail
            go_ret
            exact ⟨by rw [hfH.out]; rfl, rfl⟩
          · have hloi : ¬ (x : Int) < 128 := by omega
            have hhii : (191 : Int) < (x : Int) := by omega
            go_wp2_with fail
            go_ret
            exact ⟨by rw [hfH.out]; rfl, rfl⟩
        have hloi : ¬ (x : Int) < 128 := by omega
        have hhii : ¬ (191 : Int) < (x : Int) := by omega
        go_wp2_with fail
        go_loop [8] (fun k => ∃ t : Nat, k = .int .i64 t ∧ 2 ≤ t ∧ t ≤ 3 + 1 ∧ ∀ s, 2 ≤ s → s < t → 128 ≤ byteAt l (j + s) ∧ byteAt l (j + s) ≤ 191) (fun k => 3 + 1 - (intOf k).toNat)
        case atStart => exact ⟨2, rfl, Nat.le_refl _, by omega, fun s h1 h2 => by omega⟩
        case round =>
          obtain ⟨t, rfl, ht2, htn, hts⟩ := hrel
          have htsH := Lib.hid hts
          clear hts
          by_cases htl : t ≤ 3
          · have htl1 : (t : Int) ≤ 3 := by omega
            have hjts : j + t < S.size := by have := hszH.out; omega
            obtain ⟨y, hy⟩ : ∃ y, y = byteAt l (j + t) := ⟨_, rfl⟩
            have hys : S[j + t].toNat = y := by rw [hy]; exact hgetH.out (j + t) hjts
            have hy256 : y < 256 := by rw [hy]; exact hblH.out _
            have hyH := Lib.hid hy
            clear hy
            have hbit := and_192 hy256
            by_cases hyr : 128 ≤ y ∧ y ≤ 191
            · rw [decide_eq_true hyr] at hbit
              go_wp2_with fail
              refine ⟨⟨t + 1, by go_num, by omega, by omega, fun s h1 h2 => ?_⟩, by simp [intOf]; omega⟩
              rcases Nat.lt_or_ge s t with h | h
              · exact htsH.out s h1 h
              · obtain rfl : s = t := by omega
                rw [← hyH.out]; exact hyr
            · rw [decide_eq_false hyr] at hbit
              have hf : utf8 l = false := by
                rw [heH.out]
                refine utf8_fail (by rw [← hLH.out]; exact hjl) ?_
                have hy := hyH.out
                have ht : t = 2 ∨ t = 3 := by omega
                rw [← hcH.out, ← hLH.out, ← hxH.out]; unfold stepU
                rcases ht with rfl | rfl
                · rw [← hy]
                  repeat' split
                  all_goals omega
                · rw [← hy]
                  repeat' split
                  all_goals omega
              have hfH := Lib.hid hf
              clear hf
              go_wp2_with fail
              go_ret
              exact ⟨by rw [hfH.out]; rfl, rfl⟩
          · have htl1 : ¬ (t : Int) ≤ 3 := by omega
            obtain rfl : t = 3 + 1 := by omega
            go_wp2_with fail
            refine ⟨⟨j + (3 + 1), by go_num, by omega, ?_⟩, by simp [intOf]; omega⟩
            rw [heH.out]
            refine utf8_step (by rw [← hLH.out]; exact hjl) ?_ (by omega)
            have hy := htsH.out 2 (by omega)
            have hz := htsH.out 3 (by omega)
            rw [← hcH.out, ← hLH.out, ← hxH.out]; unfold stepU
            repeat' split
            all_goals omega
    · have hjl1 : ¬ j < S.size := by omega
      have hf : utf8 l = true := by
        rw [heH.out, List.drop_of_length_le (by rw [← hLH.out]; omega), utf8]
      have hfH := Lib.hid hf
      clear hf hsz
      go_wp2_with fail
      go_ret
      exact ⟨by rw [hfH.out]; rfl, rfl⟩
end Go.Proofs.YtbkmnhogfegmcaaDoor
