/- The laws' own functions: same. -/
import Derived.Test.YtlppoimdfclbaaaLawSmall
import Derived.Laws.BytesArg
import Derived.Laws.Strings
set_option linter.unusedVariables false
set_option linter.unusedSimpArgs false
namespace Go.Proofs.Ytlppoimdfclbaaa
open Go.RowKit

section
variable {F F2 : List Nat} {g g2 : Nat → Nat} {w : World} {ls ms : List (List UInt8)} {ad bd : Option Addr}
def strOf (l : List UInt8) : ByteArray := ⟨l.toArray⟩
theorem strOf_inj {l m : List UInt8} (h : strOf l = strOf m) : l = m := by
  have := congrArg (fun b => b.data.toList) h
  simpa [strOf] using this
set_option maxRecDepth 100000 in
theorem Bytes.conv {a : Option Addr} {n c : Nat} {l : List UInt8} (h : Bytes w (.slice a n c) l) (dst : TypeId) (hd : Try.prog.underlying dst = some .string) : (convert 35 dst (.slice a n c)).run Try.prog w = .ok (.string (strOf l)) w := by
  rcases h with ⟨h, rfl⟩ | ⟨b, o, cap, h, hc, hb, hcell⟩
  · injection h with e1 e2 e3
    subst e1 e2 e3
    exact run_convert_bytes_nil w 35 5 Try.underlying35 Try.underlying5 _ _ dst hd
  · injection h with e1 e2 e3
    subst e1 e2 e3
    have h1 := run_convert_bytes_arg w 35 5 Try.underlying35 Try.underlying5 b o l.length c (l.map fun x => (x.toNat : Int)) (by simp) (fun i hi => by
      rw [hcell i hi, List.getD_eq_getElem?_getD, List.getElem?_map, List.getElem?_eq_getElem hi]; rfl) dst hd
    rw [h1]
    congr 2
    unfold strOfNums strOf
    congr 2
    rw [List.map_map]
    conv => rhs; rw [← List.map_id l]
    apply List.map_congr_left
    intro x _
    simp

set_option maxRecDepth 100000 in
theorem BytesA.conv {a : Option Addr} {n c : Nat} {l : List UInt8} (h : BytesA w (.slice a n c) l) (dst : TypeId) (hd : Try.prog.underlying dst = some .string) : (convert 35 dst (.slice a n c)).run Try.prog w = .ok (.string (strOf l)) w := by
  rcases h with h | ⟨a', cap, h, rfl⟩
  · exact h.conv dst hd
  · injection h with e1 e2 e3
    subst e1 e2 e3
    rw [run_convert_bytes_string w 35 dst 5 _ _ _ Try.underlying35 Try.underlying5 hd]
    have h1 := run_bytesToString (P := Try.prog) w a' 0 c [] (by simp [loadCells]; rfl)
    exact h1
theorem BR.get (h : BR F g w ad ls) {i : Nat} (hi : i < ls.length) : ∃ b o a c, ad = some ⟨b, o, none⟩ ∧ w.cell? ⟨b, o + i, none⟩ = some (.slice a ls[i].length c) ∧ BytesA w (.slice a ls[i].length c) ls[i] := by
  obtain ⟨b, o, a, c, h1, h2, h3, _⟩ := h.row i hi
  exact ⟨b, o, a, c, h1, h2, h3⟩
set_option maxRecDepth 100000 in
set_option maxHeartbeats 2000000 in
theorem law_same (c d : Nat) (hb : BR F g w ad ls) (hb2 : BR F2 g2 w bd ms) (hn : ls.length ≤ 100000000) (hm : ms.length ≤ 100000000) :
    Calls Try.prog 21 #[.slice ad ls.length c, .slice bd ms.length d] w fun e w' => e = .returned (.bool (decide (ls = ms))) ∧ ∃ n, w' = w.drewN n := by
  have hbH := Lib.hid hb
  have hb2H := Lib.hid hb2
  clear hb hb2
  go_enter Try.func21, Try.ntmps21
  by_cases hlen : ls.length = ms.length
  · have hlen1 : ((ls.length : Int) != (ms.length : Int)) = false := by rw [bne_eq_false_iff_eq]; omega
    have hlenH := Lib.hid hlen
    clear hlen
    go_wp2_with fail
    go_loopw [5] (fun i wr => ∃ j n : Nat, i = .int .i64 j ∧ j ≤ ls.length ∧ ls.take j = ms.take j ∧ wr = w.drewN n) (fun i _ => ls.length - (intOf i).toNat)
    case atStart => exact ⟨0, 0, rfl, by omega, rfl, rfl⟩
    case round =>
      obtain ⟨j, n, rfl, hj, hjt, rfl⟩ := hrel
      have hjtH := Lib.hid hjt
      clear hjt
      by_cases hjl : j < ls.length
      · have hjl1 : (j : Int) < (ls.length : Int) := by omega
        have hjm : j < ms.length := by rw [← hlenH.out]; exact hjl
        have hjm1 : (j : Int) < (ms.length : Int) := by omega
        have hwrap : IntKind.i64.wrap ((j : Int) + 1) = (j : Int) + 1 := IntWalk.i64_in _ (by omega)
        obtain ⟨b1, o1, a1, e1, hae1, hc1, hy1⟩ := hbH.out.get hjl
        obtain ⟨b2, o2, a2, e2, hae2, hc2, hy2⟩ := hb2H.out.get hjm
        subst hae1 hae2
        obtain ⟨l, hle⟩ : ∃ l, l = ls[j] := ⟨_, rfl⟩
        obtain ⟨m, hme⟩ : ∃ m, m = ms[j] := ⟨_, rfl⟩
        rw [← hle] at hc1 hy1
        rw [← hme] at hc2 hy2
        have hv1 := hy1.step (T := []) (g := g) (Step.drewN w (n + 1)) (fun _ _ _ h => by cases h)
        have hv2 := hy2.step (T := []) (g := g) (Step.drewN w (n + 1)) (fun _ _ _ h => by cases h)
        have k1 := hv1.conv 9 rfl
        have k2 := hv2.conv 9 rfl
        have hleH := Lib.hid hle
        have hmeH := Lib.hid hme
        clear hle hme hy1 hy2 hv1 hv2
        have hbl : ((strOf l).toList == (strOf m).toList) = decide (l = m) := by
          rw [ByteArray.toList_eq, ByteArray.toList_eq]
          show (l == m) = _
          by_cases h : l = m
          · simp [h]
          · simp [h]
        by_cases hlm : l = m
        · have hbl2 : ((strOf l).toList == (strOf m).toList) = true := by rw [hbl]; simp [hlm]
          have hlmH := Lib.hid hlm
          clear hbl hlm
          go_wp2_with fail
          go_region
          go_wp2_with fail
          refine ⟨⟨j + 1, n + 1, by simp, hjl, ?_, rfl⟩, by simp only [intOf]; omega⟩
          rw [List.take_succ_eq_append_getElem hjl, List.take_succ_eq_append_getElem hjm, hjtH.out, ← hleH.out, ← hmeH.out, hlmH.out]
        · have hbl2 : ((strOf l).toList == (strOf m).toList) = false := by rw [hbl]; simp [hlm]
          have hlmH := Lib.hid hlm
          clear hbl hlm
          go_wp2_with fail
          go_region
          go_wp2_with fail
          go_ret
          refine ⟨?_, n + 1, rfl⟩
          have hne : ls ≠ ms := fun e => hlmH.out (by rw [hleH.out, hmeH.out]; simp only [e])
          simp [hne]
      · have hjl1 : ¬ (j : Int) < (ls.length : Int) := by omega
        go_wp2_with fail
        go_ret
        refine ⟨?_, n, rfl⟩
        have h := hjtH.out
        rw [List.take_of_length_le (by omega), List.take_of_length_le (by rw [← hlenH.out]; omega)] at h
        simp [h]
  · have hlen1 : ((ls.length : Int) != (ms.length : Int)) = true := by rw [bne_iff_ne]; omega
    have hlenH := Lib.hid hlen
    clear hlen
    go_wp2_with fail
    go_ret
    refine ⟨?_, 0, rfl⟩
    have : ls ≠ ms := fun e => hlenH.out (by rw [e])
    simp [this]
end
end Go.Proofs.Ytlppoimdfclbaaa
