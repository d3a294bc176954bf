/- bson: which kinds are known, how each is read; documents. -/
import Derived.Test.YtbkmnhogfegmcaaDoorBsG4
set_option linter.unusedVariables false
set_option linter.unusedSimpArgs false
namespace Go.Proofs.YtbkmnhogfegmcaaDoor
open Go.RowKit

theorem known_cases {c : UInt8} (h : known c = true) : c = 255 ∨ c = 10 ∨ c = 16 ∨ c = 18 ∨ c = 2 ∨ c = 3 ∨ c = 4 ∨ c = 5 ∨ c = 7 ∨ c = 8 ∨ c = 9 ∨ c = 127 ∨ c = 1 ∨ c = 19 := by
  unfold known at h
  simpa using h
/-- The function that reads a kind. -/
def wayF (c : UInt8) : FuncId :=
  if c = 2 then 76 else if c = 3 then 77 else if c = 4 then 78 else if c = 5 then 79
  else if c = 7 then 80 else if c = 8 then 81 else if c = 9 then 82 else if c = 16 then 83
  else if c = 18 then 84 else if c = 1 then 85 else if c = 19 then 86 else if c = 255 then 87
  else if c = 127 then 88 else 89

set_option maxRecDepth 100000 in
set_option maxHeartbeats 4000000 in
theorem bs_known (c : UInt8) (w : World) : Calls Tryd.prog 48 #[.int .i64 (c.toNat : Int)] w fun e w' => e = .returned (.bool (known c)) ∧ w = w' := by
  by_cases h1 : c = 1
  · subst h1
    go_enter Tryd.func48, Tryd.ntmps48
    go_wp2
    go_ret
    exact ⟨rfl, rfl⟩
  have i1 : ¬ ((c.toNat : Int) = 1) := fun e => h1 (UInt8.toNat_inj.1 (by simp; omega))
  by_cases h2 : c = 2
  · subst h2
    go_enter Tryd.func48, Tryd.ntmps48
    go_wp2
    go_ret
    exact ⟨rfl, rfl⟩
  have i2 : ¬ ((c.toNat : Int) = 2) := fun e => h2 (UInt8.toNat_inj.1 (by simp; omega))
  by_cases h3 : c = 3
  · subst h3
    go_enter Tryd.func48, Tryd.ntmps48
    go_wp2
    go_ret
    exact ⟨rfl, rfl⟩
  have i3 : ¬ ((c.toNat : Int) = 3) := fun e => h3 (UInt8.toNat_inj.1 (by simp; omega))
  by_cases h4 : c = 4
  · subst h4
    go_enter Tryd.func48, Tryd.ntmps48
    go_wp2
    go_ret
    exact ⟨rfl, rfl⟩
  have i4 : ¬ ((c.toNat : Int) = 4) := fun e => h4 (UInt8.toNat_inj.1 (by simp; omega))
  by_cases h5 : c = 5
  · subst h5
    go_enter Tryd.func48, Tryd.ntmps48
    go_wp2
    go_ret
    exact ⟨rfl, rfl⟩
  have i5 : ¬ ((c.toNat : Int) = 5) := fun e => h5 (UInt8.toNat_inj.1 (by simp; omega))
  by_cases h7 : c = 7
  · subst h7
    go_enter Tryd.func48, Tryd.ntmps48
    go_wp2
    go_ret
    exact ⟨rfl, rfl⟩
  have i7 : ¬ ((c.toNat : Int) = 7) := fun e => h7 (UInt8.toNat_inj.1 (by simp; omega))
  by_cases h8 : c = 8
  · subst h8
    go_enter Tryd.func48, Tryd.ntmps48
    go_wp2
    go_ret
    exact ⟨rfl, rfl⟩
  have i8 : ¬ ((c.toNat : Int) = 8) := fun e => h8 (UInt8.toNat_inj.1 (by simp; omega))
  by_cases h9 : c = 9
  · subst h9
    go_enter Tryd.func48, Tryd.ntmps48
    go_wp2
    go_ret
    exact ⟨rfl, rfl⟩
  have i9 : ¬ ((c.toNat : Int) = 9) := fun e => h9 (UInt8.toNat_inj.1 (by simp; omega))
  by_cases h10 : c = 10
  · subst h10
    go_enter Tryd.func48, Tryd.ntmps48
    go_wp2
    go_ret
    exact ⟨rfl, rfl⟩
  have i10 : ¬ ((c.toNat : Int) = 10) := fun e => h10 (UInt8.toNat_inj.1 (by simp; omega))
  by_cases h16 : c = 16
  · subst h16
    go_enter Tryd.func48, Tryd.ntmps48
    go_wp2
    go_ret
    exact ⟨rfl, rfl⟩
  have i16 : ¬ ((c.toNat : Int) = 16) := fun e => h16 (UInt8.toNat_inj.1 (by simp; omega))
  by_cases h18 : c = 18
  · subst h18
    go_enter Tryd.func48, Tryd.ntmps48
    go_wp2
    go_ret
    exact ⟨rfl, rfl⟩
  have i18 : ¬ ((c.toNat : Int) = 18) := fun e => h18 (UInt8.toNat_inj.1 (by simp; omega))
  by_cases h19 : c = 19
  · subst h19
    go_enter Tryd.func48, Tryd.ntmps48
    go_wp2
    go_ret
    exact ⟨rfl, rfl⟩
  have i19 : ¬ ((c.toNat : Int) = 19) := fun e => h19 (UInt8.toNat_inj.1 (by simp; omega))
  by_cases h255 : c = 255
  · subst h255
    go_enter Tryd.func48, Tryd.ntmps48
    go_wp2
    go_ret
    exact ⟨rfl, rfl⟩
  have i255 : ¬ ((c.toNat : Int) = 255) := fun e => h255 (UInt8.toNat_inj.1 (by simp; omega))
  by_cases h127 : c = 127
  · subst h127
    go_enter Tryd.func48, Tryd.ntmps48
    go_wp2
    go_ret
    exact ⟨rfl, rfl⟩
  have i127 : ¬ ((c.toNat : Int) = 127) := fun e => h127 (UInt8.toNat_inj.1 (by simp; omega))
  have hk : known c = false := by
    unfold known
    simp [h1, h2, h3, h4, h5, h7, h8, h9, h10, h16, h18, h19, h255, h127]
  rw [hk]
  generalize (c.toNat : Int) = C at *
  clear hk h1 h2 h3 h4 h5 h7 h8 h9 h10 h16 h18 h19 h255 h127
  go_enter Tryd.func48, Tryd.ntmps48
  go_wp2
  go_ret
  exact ⟨rfl, rfl⟩

set_option maxRecDepth 100000 in
set_option maxHeartbeats 4000000 in
theorem bs_way (c : UInt8) (h : known c = true) (w : World) : Calls Tryd.prog 51 #[.int .i64 (c.toNat : Int)] w fun e w' => e = .returned (.func (.func (wayF c)) #[] #[]) ∧ w = w' := by
  rcases known_cases h with rfl | rfl | rfl | rfl | rfl | rfl | rfl | rfl | rfl | rfl | rfl | rfl | rfl | rfl
  all_goals
    clear h
    go_enter Tryd.func51, Tryd.ntmps51
    go_wp2
    go_ret
    exact ⟨rfl, rfl⟩
theorem way_call (c : UInt8) (h : known c = true) (args : Array Value) (w : World) : (callFunc (wayF c) args).run Tryd.prog w = .ok (.enter (wayF c) args) w := by
  rcases known_cases h with rfl | rfl | rfl | rfl | rfl | rfl | rfl | rfl | rfl | rfl | rfl | rfl | rfl | rfl
  all_goals simp [wayF, go_sem]

/-- How the reading of fields ends. -/
def DecFP (w : World) (R B o c : Nat) (b : Bs) : Res (List (Bs × Val)) → Ending → World → Prop
  | .ok f a', e, w' => Step [R] id id w w' ∧ ∃ ad cap, e = .returned (.slice ad f.length cap) ∧ FIs (fun k => w.heap.size ≤ k) w' f ad 0 ∧ f.length ≤ cap ∧ (ad = none → cap = 0) ∧ Rd w' R B o c b a'
  | .bad n, e, w' => Step [R] id id w w' ∧ e = broke n
def RdF (fuel : Nat) : Prop := ∀ (P : Nat → Prop) (w : World) (R B o c : Nat) (b : Bs) (a deep : Nat) (items : Bool), 34 ≤ fuel + deep → deep ≤ 1000 → Rd w R B o c b a → Tabs P w → ¬ P R →
  Calls Tryd.prog 27 #[.pointer (some ⟨R, 0, none⟩), .int .i64 deep, .bool items] w (DecFP w R B o c b (decDoc b fuel deep items a))

theorem dec_len {b : Bs} {fuel deep : Nat} {items : Bool} {a a' : Nat} {f : List (Bs × Val)} (h : decDoc b fuel deep items a = .ok f a') : f.length ≤ b.length := by
  obtain ⟨h1, _⟩ := decDoc_sound b _ _ _ _ _ _ h
  have h2 := h1.le
  rw [wrapDoc_length] at h2
  have := encFs_len f
  omega

set_option maxRecDepth 100000 in
set_option maxHeartbeats 4000000 in
theorem rd_doc {P : Nat → Prop} {w : World} {R B o c a fuel deep : Nat} {b : Bs} (hF : RdF fuel) (hfu : 34 ≤ fuel + (deep + 1)) (hdp : deep + 1 ≤ 1000) (h : Rd w R B o c b a) (ht : Tabs P w) (hPR : ¬ P R) :
    Calls Tryd.prog 77 #[.pointer (some ⟨R, 0, none⟩), .int .i64 deep] w (DecP w R B o c b (decV b (fun items a => decDoc b fuel (deep + 1) items a) 3 a)) := by
  have hd : decV b (fun items a => decDoc b fuel (deep + 1) items a) 3 a = (decDoc b fuel (deep + 1) false a).bind fun f a => .ok (.doc f) a := rfl
  rw [hd]
  clear hd
  have hle := h.le
  have hB := h.blt
  have hR := lt_of_block h.cell
  have hne : w.heap.size ≠ R := by omega
  have hsm := h.small
  have hd1 := Lib.hid (show (deep : Int) + 1 = ((deep + 1 : Nat) : Int) by push_cast; rfl)
  have hg0 := World.grownBy_alloc w (.cells #[.int .i64 0, .int .i64 0, (.string ⟨#[]⟩), (.slice none 0 0), (.slice none 0 0), (.slice none 0 0)] 27) none
  have hc := hF P _ R B o c b a (deep + 1) false hfu hdp (h.step (Step.alloc (.cells #[.int .i64 0, .int .i64 0, (.string ⟨#[]⟩), (.slice none 0 0), (.slice none 0 0), (.slice none 0 0)] 27))) (ht.grown hg0) hPR
  cases hr : decDoc b fuel (deep + 1) false a with
  | bad n =>
    rw [hr] at hc
    have hcH := Lib.hid hc
    simp only [Res.bind]
    clear hc hr h ht hg0
    go_enter Tryd.func77, Tryd.ntmps77
    go_wp2_with (go_at_call 27; rw [hd1.out]; refine hcH.out.mono ?_; rintro e w1 ⟨hs1, rfl⟩; have hs1H := Lib.hid hs1; clear hs1)
    exact ⟨rfl, (Step.alloc _).tail hs1H.out, rfl⟩
  | ok f a' =>
    rw [hr] at hc
    have hfl := dec_len hr
    have hcH := Lib.hid hc
    simp only [Res.bind]
    clear hc hr h ht hg0
    obtain ⟨n, hn⟩ : ∃ n, n = f.length := ⟨_, rfl⟩
    have hnH := Lib.hid hn
    clear hn
    go_enter Tryd.func77, Tryd.ntmps77
    go_wp2_with (go_at_call 27; rw [hd1.out]; refine hcH.out.mono ?_; rintro e w1 ⟨hs1, ad, cap, rfl, hFI, hcap, hnil, hr1⟩; rw [← hnH.out] at hcap ⊢; have hvb := hs1.at (heap_alloc_new w _) (by simp; exact hne); have p0 := cell_blk hvb (i := 0) rfl; have p1 := cell_blk hvb (i := 1) rfl; have p2 := cell_blk hvb (i := 2) rfl; have p3 := cell_blk hvb (i := 3) rfl; have p4 := cell_blk hvb (i := 4) rfl; have p5 := cell_blk hvb (i := 5) rfl; have pf := free_blk hvb; have hvbH := Lib.hid hvb; have hs1H := Lib.hid hs1; have hFIH := Lib.hid hFI; have hr1H := Lib.hid hr1; have hcapH := Lib.hid hcap; have hnilH := Lib.hid hnil; clear hs1 hFI hr1 hvb hcap hnil)
    change bodyPost _ _ _ _ _ (set6 w1 w.heap.size (.int .i64 6) (.int .i64 0) (.string ⟨#[]⟩) (.slice none 0 0) (.slice ad n cap) (.slice none 0 0))
    refine bodyPost_ret (results_cell4 rfl rfl (set6_heap hvbH.out)) rfl (dec_fin hs1H.out hr1H.out hne hB ?_)
    have hn2 : n = f.length := hnH.out
    have hcap2 : n ≤ cap := hcapH.out
    subst hn2
    refine VIs.mk ⟨.slice none 0 0, ad, cap, none, 0, rfl, .inl ⟨none, 0, rfl, rfl, fun _ => rfl⟩, ⟨hcap2, by simp [Val.doc, Val.l], hnilH.out, fun _ => rfl⟩, ⟨by simp [Val.doc, Val.kind], by simp [Val.doc, Val.kind], by simp [Val.doc, Val.num], by simp [Val.doc, Val.num]⟩, ⟨by simp [Val.doc, Val.s], by simp [Val.doc, Val.b], ?_, by simp [Val.doc, Val.l]⟩, ?_, by simp [Val.doc, Val.l, LIs]⟩
    · simp only [Val.doc, Val.f]; omega
    · exact FIs.keep (fun k hk => by simp only [World.size_alloc] at hk; omega) (fun _ _ _ => rfl) _ _ _ hFIH.out
end Go.Proofs.YtbkmnhogfegmcaaDoor
