/- container/heap over disk's numbers: what is kept is a permutation. -/
import Derived.Test.YtlppoimdfclbaaaNums
set_option linter.unusedVariables false
set_option linter.unusedSimpArgs false
namespace Go.Proofs.Ytlppoimdfclbaaa
open Go.RowKit

def SomeBool (e : Ending) : Prop := ∃ b : Bool, e = .returned (.bool b)

theorem NumsAt.step {T : List Nat} {g g1 : Nat → Nat} {w w1 : World} {r bf : Nat} {sv : Value} {l : List Int} (h : NumsAt g w r bf sv l) (hs : Step T g g1 w w1) (hr : r ∉ T) : NumsAt g1 w1 r bf sv l :=
  ⟨hs.at h.blk (by rw [h.own]; exact hr), h.row.step hs (fun k hk => by rw [h.own2 k hk]; exact hr), by rw [hs.own_at h.blk (by rw [h.own]; exact hr)]; exact h.own,
   fun k hk => by
    have hlt := (World.ownsRow.lt h.row k hk).2
    rw [(hs.keep k hlt (by rw [h.own2 k hk]; exact hr)).1]; exact h.own2 k hk, h.ne⟩

theorem NumsAt.lt {g : Nat → Nat} {w : World} {r bf : Nat} {sv : Value} {l : List Int} (h : NumsAt g w r bf sv l) : bf < w.heap.size := lt_of_block h.blk

theorem meth_of {name : String} {f : Nat} (h : (Try.prog.info? 66).bind (fun i => (i.methods.find? (·.name == name)).map fun m => (m.path.toList, m.func)) = some ([], some (f, false)))
    (a : Addr) (w : World) (v : Value) (hc : w.cell? a = some v) : (method 234 66 (.pointer (some a)) name).run Try.prog w = .ok (f, v) w := by
  unfold method
  obtain ⟨i, m, h1, h2, h3, h4⟩ : ∃ i m, Try.prog.info? 66 = some i ∧ i.methods.find? (·.name == name) = some m ∧ m.path = #[] ∧ m.func = some (f, false) := by
    cases hi : Try.prog.info? 66 with
    | none => rw [hi] at h; cases h
    | some i =>
      rw [hi] at h
      simp only [Option.bind_some] at h
      cases hm : i.methods.find? (·.name == name) with
      | none => rw [hm] at h; cases h
      | some m =>
        rw [hm] at h
        simp only [Option.map_some, Option.some.injEq, Prod.mk.injEq] at h
        exact ⟨i, m, rfl, hm, by simpa using h.1, h.2⟩
  have h5 : ∀ (x : ByteArray), (Builtin.ssaWrapNilChk_ #[66] 66 #[.pointer (some a), .string ByteArray.empty, .string x]).run Try.prog w = .ok (.pointer (some a)) w := fun _ => by kernel_rfl
  have h6 : (loadVar 67 a).run Try.prog w = .ok v w := by go_simp
  simp [typeInfo, h1, h2, h3, h4, follow, receiverAt, Place.get, run_underlying Try.underlying66, strVal, h5, asAddr, h6]
theorem meth_less (a : Addr) (w : World) (v : Value) (hc : w.cell? a = some v) : (method 234 66 (.pointer (some a)) "Less").run Try.prog w = .ok (90, v) w := meth_of (by kernel_rfl) a w v hc
theorem meth_len (a : Addr) (w : World) (v : Value) (hc : w.cell? a = some v) : (method 234 66 (.pointer (some a)) "Len").run Try.prog w = .ok (64, v) w := meth_of (by kernel_rfl) a w v hc
theorem meth_swap (a : Addr) (w : World) (v : Value) (hc : w.cell? a = some v) : (method 234 66 (.pointer (some a)) "Swap").run Try.prog w = .ok (93, v) w := meth_of (by kernel_rfl) a w v hc
theorem meth_push (a : Addr) (w : World) : (method 234 66 (.pointer (some a)) "Push").run Try.prog w = .ok (92, .pointer (some a)) w := by kernel_rfl
theorem meth_pop (a : Addr) (w : World) : (method 234 66 (.pointer (some a)) "Pop").run Try.prog w = .ok (91, .pointer (some a)) w := by kernel_rfl

theorem nums_less' (l : List Int) (n g cap : Nat) (i j : Int) (w : World) (hn : l.length = n) (hi0 : 0 ≤ i) (hi : i < n) (hj0 : 0 ≤ j) (hj : j < n) (hr : IRow w (.slice (some ⟨g, 0, none⟩) n cap) l) :
    Calls Try.prog 90 #[.slice (some ⟨g, 0, none⟩) n cap, .int .i64 i, .int .i64 j] w fun e w' => ∃ (b : Bool) (m : Nat), e = .returned (.bool b) ∧ w' = w.drewN m := by
  subst hn
  obtain ⟨i, rfl⟩ := Int.eq_ofNat_of_zero_le hi0
  obtain ⟨j, rfl⟩ := Int.eq_ofNat_of_zero_le hj0
  exact (nums_less l g cap i j w (by omega) (by omega) hr).mono fun e w' ⟨n, h1, h2⟩ => ⟨_, n, h1, h2⟩
theorem nums_swap' (l : List Int) (n g cap : Nat) (i j : Int) (w : World) (hn : l.length = n) (hi0 : 0 ≤ i) (hi : i < n) (hj0 : 0 ≤ j) (hj : j < n) (hr : IRow w (.slice (some ⟨g, 0, none⟩) n cap) l) :
    Calls Try.prog 93 #[.slice (some ⟨g, 0, none⟩) n cap, .int .i64 i, .int .i64 j] w fun e w' => e = .returned (.tuple #[]) ∧ ∃ l', l'.Perm l ∧ IRow w' (.slice (some ⟨g, 0, none⟩) n cap) l' ∧ w.grownBy w' (some g) := by
  subst hn
  obtain ⟨i, rfl⟩ := Int.eq_ofNat_of_zero_le hi0
  obtain ⟨j, rfl⟩ := Int.eq_ofNat_of_zero_le hj0
  exact (nums_swap l g cap i j w (by omega) (by omega) hr).mono fun e w' ⟨h1, h2, h3, _⟩ => ⟨h1, _, List.set_set_perm (by omega) (by omega), h2, h3⟩
/-- What a draw, and a swap, leave of the numbers. -/
theorem NumsAt.swapped {g : Nat → Nat} {w w1 : World} {r bf gb n cap : Nat} {l l' : List Int} (h : NumsAt g w r bf (.slice (some ⟨gb, 0, none⟩) n cap) l) (hr : IRow w1 (.slice (some ⟨gb, 0, none⟩) n cap) l') (hg : w.grownBy w1 (some gb)) :
    NumsAt g w1 r bf (.slice (some ⟨gb, 0, none⟩) n cap) l' ∧ Step [r] g g w w1 :=
  ⟨⟨by rw [hg.block bf h.lt (fun e => h.ne e.symm)]; exact h.blk, hr, h.own, h.own2, h.ne⟩, .grown hg (fun k hk => by cases hk; rw [h.own2 gb rfl]; exact List.mem_singleton.2 rfl)⟩
theorem NumsAt.drewN {g : Nat → Nat} {w : World} {r bf : Nat} {sv : Value} {l : List Int} (h : NumsAt g w r bf sv l) (n : Nat) : NumsAt g (w.drewN n) r bf sv l := ⟨h.blk, h.row, h.own, h.own2, h.ne⟩

set_option maxRecDepth 100000 in
set_option maxHeartbeats 1000000 in
theorem heap_up (g : Nat → Nat) (r bf : Nat) (sv : Value) (l : List Int) (j : Nat) (w : World) (hn : NumsAt g w r bf sv l) (hl : l.length ≤ 1000000) (hj : j < l.length) :
    Calls Try.prog 68 #[.iface 66 (.pointer (some ⟨bf, 0, none⟩)), .int .i64 j] w fun e w' => e = .returned (.tuple #[]) ∧ ∃ l', l'.Perm l ∧ NumsAt g w' r bf sv l' ∧ Step [r] g g w w' := by
  have hnH := Lib.hid hn; clear hn
  go_enter Try.func68, Try.ntmps68
  go_wp2_with fail
  go_loopw [1, 4] (fun j' _ wr => ∃ (j : Nat) (l' : List Int), j' = .int .i64 j ∧ j < l'.length ∧ l'.Perm l ∧ NumsAt g wr r bf sv l' ∧ Step [r] g g w wr) (fun j' _ _ => (intOf j').toNat)
  case atStart => exact ⟨j, l, rfl, hj, .refl _, hnH.out, .refl _ _ _⟩
  case round =>
    obtain ⟨j, l', rfl, hj, hp, hn, hs⟩ := hrel
    have hpl2 : l'.length ≤ 1000000 := by rw [hp.length_eq]; exact hl
    have hnH2 := Lib.hid hn; clear hn
    have hsH := Lib.hid hs; clear hs
    have hpH := Lib.hid hp; clear hp
    cases j with
    | zero =>
      go_wp2_with fail
      go_end0
      exact ⟨rfl, l', hpH.out, hnH2.out, hsH.out⟩
    | succ k =>
      have e2 : (((k : Int) / 2) == ((k : Int) + 1)) = false := by rw [beq_eq_false_iff_ne]; omega
      obtain ⟨gb, cap, rfl⟩ := hnH2.out.row.form (by intro h; rw [h] at hj; simp at hj)
      have c0 := cell_blk hnH2.out.blk (i := 0) rfl
      have ml := meth_less _ _ _ c0
      have hrow := hnH2.out.row
      have hfm := hrow.len
      go_wp2_with fail
      refine (nums_less' l' l'.length gb cap _ _ _ rfl (by omega) (by omega) (by omega) (by omega) hrow).mono ?_
      rintro e w1 ⟨b, m, rfl, rfl⟩
      cases b with
      | false =>
        go_wp2_with fail
        go_end0
        exact ⟨rfl, l', hpH.out, hnH2.out.drewN m, hsH.out.tail (.drewN _ _)⟩
      | true =>
        have ms := meth_swap _ (wr.drewN m) _ c0
        go_wp2_with fail
        refine (nums_swap' l' l'.length gb cap _ _ _ rfl (by omega) (by omega) (by omega) (by omega) (hnH2.out.drewN m).row).mono ?_
        rintro e w2 ⟨rfl, l2, hp2, hr2, hg2⟩
        have hsw := (hnH2.out.drewN m).swapped hr2 hg2
        go_wp2_with fail
        go_roundw
        case rel =>
          refine ⟨k / 2, l2, by go_num, ?_, hp2.trans hpH.out, hsw.1, (hsH.out.tail (.drewN _ _)).tail hsw.2⟩
          rw [hp2.length_eq]; omega
        case measure => simp [intOf]; omega
set_option maxRecDepth 100000 in
set_option maxHeartbeats 2000000 in
theorem heap_down (g : Nat → Nat) (r bf : Nat) (sv : Value) (l : List Int) (n : Nat) (w : World) (hn : NumsAt g w r bf sv l) (hl : l.length ≤ 1000000) (hj : n ≤ l.length) :
    Calls Try.prog 69 #[.iface 66 (.pointer (some ⟨bf, 0, none⟩)), .int .i64 0, .int .i64 n] w fun e w' => SomeBool e ∧ ∃ l', l'.Perm l ∧ NumsAt g w' r bf sv l' ∧ Step [r] g g w w' := by
  have hnH := Lib.hid hn; clear hn
  go_enter Try.func69, Try.ntmps69
  go_wp2_with fail
  go_loopw [7, 8, 9, 10] (fun i' _ _ _ wr => ∃ (i : Nat) (l' : List Int), i' = .int .i64 i ∧ i ≤ 1000000 ∧ l'.Perm l ∧ NumsAt g wr r bf sv l' ∧ Step [r] g g w wr) (fun i' _ _ _ _ => n - (intOf i').toNat)
  case atStart => exact ⟨0, l, rfl, by omega, .refl _, hnH.out, .refl _ _ _⟩
  case round =>
    obtain ⟨i, l', rfl, hi, hp, hn, hs⟩ := hrel
    have hpl2 : l'.length ≤ 1000000 := by rw [hp.length_eq]; exact hl
    have hpl3 : n ≤ l'.length := by rw [hp.length_eq]; exact hj
    have hnH2 := Lib.hid hn; clear hn
    have hsH := Lib.hid hs; clear hs
    have hpH := Lib.hid hp; clear hp
    by_cases hj1 : 2 * i + 1 < n
    · obtain ⟨gb, cap, rfl⟩ := hnH2.out.row.form (by intro h; rw [h] at hpl3; simp at hpl3; omega)
      have c0 := cell_blk hnH2.out.blk (i := 0) rfl
      have ml := meth_less _ _ _ c0
      have hrow := hnH2.out.row
      by_cases hj2 : 2 * i + 2 < n
      · go_wp2_with fail
        refine (nums_less' l' l'.length gb cap _ _ _ rfl (by omega) (by omega) (by omega) (by omega) hrow).mono ?_
        rintro e w1 ⟨b, m, rfl, rfl⟩
        have ml1 := meth_less _ (wr.drewN m) _ c0
        cases b with
        | true =>
          go_wp2_with fail
          clear hrow
          obtain ⟨w0, hw0⟩ : ∃ w0, w0 = wr.drewN m := ⟨_, rfl⟩
          have hn1 : NumsAt g w0 r bf (.slice (some ⟨gb, 0, none⟩) l'.length cap) l' := by rw [hw0]; exact hnH2.out.drewN m
          have hs1 : Step [r] g g w w0 := by rw [hw0]; exact hsH.out.tail (.drewN _ _)
          rw [← hw0]
          clear hw0 c0 ml ml1
          have c0 := cell_blk hn1.blk (i := 0) rfl
          have hn1H := Lib.hid hn1; clear hn1
          have hs1H := Lib.hid hs1; clear hs1
          refine (nums_less' l' l'.length gb cap _ _ w0 rfl (by omega) (by omega) (by omega) (by omega) hn1H.out.row).mono ?_
          rintro e w2 ⟨b2, m2, rfl, rfl⟩
          cases b2 with
          | false =>
            go_wp2_with fail
            go_ret
            exact ⟨⟨_, rfl⟩, l', hpH.out, hn1H.out.drewN m2, hs1H.out.tail (.drewN _ _)⟩
          | true =>
            have ms := meth_swap _ (w0.drewN m2) _ c0
            go_wp2_with fail
            refine (nums_swap' l' l'.length gb cap _ _ _ rfl (by omega) (by omega) (by omega) (by omega) (hn1H.out.drewN m2).row).mono ?_
            rintro e w3 ⟨rfl, l2, hp2, hr2, hg2⟩
            have hsw := (hn1H.out.drewN m2).swapped hr2 hg2
            go_wp2_with fail
            go_roundw
            case rel => exact ⟨2 * i + 2, l2, by go_num, by omega, hp2.trans hpH.out, hsw.1, (hs1H.out.tail (.drewN _ _)).tail hsw.2⟩
            case measure => simp [intOf]; omega
        | false =>
          go_wp2_with fail
          clear hrow
          obtain ⟨w0, hw0⟩ : ∃ w0, w0 = wr.drewN m := ⟨_, rfl⟩
          have hn1 : NumsAt g w0 r bf (.slice (some ⟨gb, 0, none⟩) l'.length cap) l' := by rw [hw0]; exact hnH2.out.drewN m
          have hs1 : Step [r] g g w w0 := by rw [hw0]; exact hsH.out.tail (.drewN _ _)
          rw [← hw0]
          clear hw0 c0 ml ml1
          have c0 := cell_blk hn1.blk (i := 0) rfl
          have hn1H := Lib.hid hn1; clear hn1
          have hs1H := Lib.hid hs1; clear hs1
          refine (nums_less' l' l'.length gb cap _ _ w0 rfl (by omega) (by omega) (by omega) (by omega) hn1H.out.row).mono ?_
          rintro e w2 ⟨b2, m2, rfl, rfl⟩
          cases b2 with
          | false =>
            go_wp2_with fail
            go_ret
            exact ⟨⟨_, rfl⟩, l', hpH.out, hn1H.out.drewN m2, hs1H.out.tail (.drewN _ _)⟩
          | true =>
            have ms := meth_swap _ (w0.drewN m2) _ c0
            go_wp2_with fail
            refine (nums_swap' l' l'.length gb cap _ _ _ rfl (by omega) (by omega) (by omega) (by omega) (hn1H.out.drewN m2).row).mono ?_
            rintro e w3 ⟨rfl, l2, hp2, hr2, hg2⟩
            have hsw := (hn1H.out.drewN m2).swapped hr2 hg2
            go_wp2_with fail
            go_roundw
            case rel => exact ⟨2 * i + 1, l2, by go_num, by omega, hp2.trans hpH.out, hsw.1, (hs1H.out.tail (.drewN _ _)).tail hsw.2⟩
            case measure => simp [intOf]; omega
      · go_wp2_with fail
        clear hrow
        obtain ⟨w0, hw0⟩ : ∃ w0, w0 = wr := ⟨_, rfl⟩
        have hn1 : NumsAt g w0 r bf (.slice (some ⟨gb, 0, none⟩) l'.length cap) l' := by rw [hw0]; exact hnH2.out
        have hs1 : Step [r] g g w w0 := by rw [hw0]; exact hsH.out
        rw [← hw0]
        clear hw0 c0 ml
        have c0 := cell_blk hn1.blk (i := 0) rfl
        have hn1H := Lib.hid hn1; clear hn1
        have hs1H := Lib.hid hs1; clear hs1
        refine (nums_less' l' l'.length gb cap _ _ w0 rfl (by omega) (by omega) (by omega) (by omega) hn1H.out.row).mono ?_
        rintro e w2 ⟨b2, m2, rfl, rfl⟩
        cases b2 with
        | false =>
          go_wp2_with fail
          go_ret
          exact ⟨⟨_, rfl⟩, l', hpH.out, hn1H.out.drewN m2, hs1H.out.tail (.drewN _ _)⟩
        | true =>
          have ms := meth_swap _ (w0.drewN m2) _ c0
          go_wp2_with fail
          refine (nums_swap' l' l'.length gb cap _ _ _ rfl (by omega) (by omega) (by omega) (by omega) (hn1H.out.drewN m2).row).mono ?_
          rintro e w3 ⟨rfl, l2, hp2, hr2, hg2⟩
          have hsw := (hn1H.out.drewN m2).swapped hr2 hg2
          go_wp2_with fail
          go_roundw
          case rel => exact ⟨2 * i + 1, l2, by go_num, by omega, hp2.trans hpH.out, hsw.1, (hs1H.out.tail (.drewN _ _)).tail hsw.2⟩
          case measure => simp [intOf]; omega
    · go_wp2_with fail
      go_ret
      exact ⟨⟨_, rfl⟩, l', hpH.out, hnH2.out, hsH.out⟩
end Go.Proofs.Ytlppoimdfclbaaa
