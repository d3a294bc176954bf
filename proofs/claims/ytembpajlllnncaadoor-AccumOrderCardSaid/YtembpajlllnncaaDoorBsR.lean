/- Documents, plain: what bytes say is encoded to the same bytes. -/
import Derived.Test.YtembpajlllnncaaDoorBsD
set_option linter.unusedVariables false
set_option linter.unusedSimpArgs false
namespace Go.Proofs.YtembpajlllnncaaDoor

theorem leBytes_leVal : ∀ l : Bs, leBytes l.length (leVal l) = l
  | [] => rfl
  | c :: l => by
    have h := c.toNat_lt
    simp only [List.length_cons, leBytes, leVal]
    rw [show (c.toNat + 256 * leVal l) / 256 = leVal l by omega, leBytes_leVal l]
    congr 1
    apply UInt8.toNat_inj.1; rw [UInt8.toNat_ofNat']; omega
theorem leVal_inj {x y : Bs} (hl : x.length = y.length) (h : leVal x = leVal y) : x = y := by
  rw [← leBytes_leVal x, h, hl, leBytes_leVal y]
theorem lay4_signed {x : Bs} (hx : x.length = 4) : layI 4 (signed 4 (leVal x)) = x := by
  have h1 := leVal_lt x
  rw [hx] at h1
  refine leVal_inj (by rw [layI_length, hx]) ?_
  rw [leVal_layI]
  unfold signed
  simp only [show (256 : Nat) ^ 4 = 4294967296 from rfl, show 8 * 4 - 1 = 31 from rfl, show 8 * 4 = 32 from rfl, show (2 : Nat) ^ 31 = 2147483648 from rfl, show (2 : Int) ^ 32 = 4294967296 from rfl] at h1 ⊢
  split <;> omega
theorem lay8_signed {x : Bs} (hx : x.length = 8) : layI 8 (signed 8 (leVal x)) = x := by
  have h1 := leVal_lt x
  rw [hx] at h1
  refine leVal_inj (by rw [layI_length, hx]) ?_
  rw [leVal_layI]
  unfold signed
  simp only [show (256 : Nat) ^ 8 = 18446744073709551616 from rfl, show 8 * 8 - 1 = 63 from rfl, show 8 * 8 = 64 from rfl, show (2 : Nat) ^ 63 = 9223372036854775808 from rfl, show (2 : Int) ^ 64 = 18446744073709551616 from rfl] at h1 ⊢
  split <;> omega
theorem lay1_val {x : Bs} (hx : x.length = 1) : layI 1 (leVal x) = x := by
  have h1 := leVal_lt x
  rw [hx] at h1
  refine leVal_inj (by rw [layI_length, hx]) ?_
  rw [leVal_layI]
  simp only [show (256 : Nat) ^ 1 = 256 from rfl] at h1 ⊢
  omega
theorem signed4_in {x : Bs} (hx : x.length = 4) : -2147483648 ≤ signed 4 (leVal x) ∧ signed 4 (leVal x) ≤ 2147483647 := by
  have h1 := leVal_lt x
  rw [hx] at h1
  unfold signed
  simp only [show (256 : Nat) ^ 4 = 4294967296 from rfl, show 8 * 4 - 1 = 31 from rfl, show 8 * 4 = 32 from rfl, show (2 : Nat) ^ 31 = 2147483648 from rfl, show (2 : Int) ^ 32 = 4294967296 from rfl] at h1 ⊢
  split <;> omega
theorem signed8_in {x : Bs} (hx : x.length = 8) : -9223372036854775808 ≤ signed 8 (leVal x) ∧ signed 8 (leVal x) ≤ 9223372036854775807 := by
  have h1 := leVal_lt x
  rw [hx] at h1
  unfold signed
  simp only [show (256 : Nat) ^ 8 = 18446744073709551616 from rfl, show 8 * 8 - 1 = 63 from rfl, show 8 * 8 = 64 from rfl, show (2 : Nat) ^ 63 = 9223372036854775808 from rfl, show (2 : Int) ^ 64 = 18446744073709551616 from rfl] at h1 ⊢
  split <;> omega

section
variable {b x y : Bs} {a : Nat}
theorem At.of {n : Nat} (h : a + n ≤ b.length) : At b a ((b.drop a).take n) :=
  ⟨b.take a, (b.drop a).drop n, by rw [List.take_append_drop, List.take_append_drop], by rw [List.length_take]; omega⟩
theorem take_len {n : Nat} (h : a + n ≤ b.length) : ((b.drop a).take n).length = n := by
  rw [List.length_take, List.length_drop]; omega
theorem At.join (h1 : At b a x) (h2 : At b (a + x.length) y) : At b a (x ++ y) := by
  obtain ⟨p1, q1, e1, rfl⟩ := h1
  obtain ⟨p2, q2, e2, l2⟩ := h2
  have e : (p1 ++ x) ++ q1 = p2 ++ (y ++ q2) := by rw [List.append_assoc, ← e1, e2]
  have := (List.append_inj e (by rw [List.length_append]; exact l2)).2
  exact ⟨p1, q2, by rw [e1, this]; simp, rfl⟩
theorem At.one {c : UInt8} (h : b[a]? = some c) : At b a [c] := by
  obtain ⟨hl, rfl⟩ := List.getElem?_eq_some_iff.1 h
  refine ⟨b.take a, b.drop (a + 1), ?_, by rw [List.length_take]; omega⟩
  rw [List.singleton_append, ← List.drop_eq_getElem_cons hl, List.take_append_drop]
theorem At.last {i : Nat} (h : (b.drop a).getD i 1 = 0) : At b (a + i) [0] := by
  refine At.one ?_
  rw [List.getD_eq_getElem?_getD, List.getElem?_drop] at h
  cases hc : b[a + i]? with
  | none => rw [hc] at h; simp at h
  | some c => rw [hc] at h; simpa using h
end
theorem encFs_namedR : ∀ (i : Nat) (l : List Val), encFs (named i l) = encLs i l
  | i, [] => by simp [named, encFs, encLs]
  | i, v :: r => by simp [named, encFs, encLs, encFs_namedR (i + 1) r]

/-- A document's fields lie there. -/
def DocIs (b : Bs) (deep : Nat) (items : Bool) (a : Nat) (f : List (Bs × Val)) (a' : Nat) : Prop :=
  At b a (wrapDoc (encFs f)) ∧ a' = a + (wrapDoc (encFs f)).length ∧ deep ≤ 32 ∧ (items = false → okFs deep [] f = true) ∧ (items = true → f = named 0 (f.map (·.2)) ∧ okLs deep (f.map (·.2)) = true)
def ValIs (b : Bs) (deep : Nat) (kind : UInt8) (a : Nat) (v : Val) (a' : Nat) : Prop :=
  At b a (encV v) ∧ a' = a + (encV v).length ∧ codeOf v.kind = kind ∧ okV deep v = true

theorem decV_sound {b : Bs} {rec_ : Bool → Nat → Res (List (Bs × Val))} {deep : Nat} (hrec : ∀ items a f a', rec_ items a = .ok f a' → DocIs b (deep + 1) items a f a')
    {kind : UInt8} {a : Nat} {v : Val} {a' : Nat} (ha : a ≤ b.length) (h : decV b rec_ kind a = .ok v a') : ValIs b deep kind a v a' := by
  unfold decV at h
  by_cases k2 : kind = 2
  · subst k2
    rw [if_pos rfl] at h
    split at h
    · cases h
    rename_i h1
    dsimp only at h
    split at h
    · cases h
    rename_i h2
    split at h
    · cases h
    rename_i h3
    split at h
    · cases h
    rename_i h4
    split at h
    · rename_i h5
      cases h
      have t4 : At b a ((b.drop a).take 4) := At.of (by omega)
      have l4 : ((b.drop a).take 4).length = 4 := take_len (by omega)
      have e4 := lay4_signed l4
      rw [show leVal ((b.drop a).take 4) = numAt b a 4 from rfl] at e4
      obtain ⟨n, hn⟩ : ∃ n : Nat, signed 4 (numAt b a 4) = (n : Int) + 1 := ⟨(signed 4 (numAt b a 4) - 1).toNat, by omega⟩
      rw [hn] at h2 h3 h4 h5 e4 ⊢
      have hnn : ((n : Int) + 1).toNat = n + 1 := by omega
      rw [hnn] at h4 h5 ⊢
      simp only [Nat.add_sub_cancel] at h4 h5 ⊢
      have ts : At b (a + 4) ((b.drop (a + 4)).take n) := At.of (by omega)
      have ls : ((b.drop (a + 4)).take n).length = n := take_len (by omega)
      have t0 : At b (a + 4 + n) [0] := At.last (by simpa using h4)
      obtain ⟨s, hs⟩ : ∃ s, s = (b.drop (a + 4)).take n := ⟨_, rfl⟩
      rw [← hs] at ts ls h5 ⊢
      refine ⟨?_, ?_, by simp [Val.kind, codeOf], ?_⟩
      · simp only [encV]
        rw [ls]
        simp only [show ¬ (5 : Int) = 3 by decide, show ¬ (5 : Int) = 4 by decide, show ¬ (5 : Int) = 11 by decide, show ¬ (5 : Int) = 10 by decide, if_false, if_true]
        have e5 : layI 4 ((n + 1 : Nat) : Int) = (b.drop a).take 4 := by rw [← e4]; push_cast; rfl
        rw [e5]
        refine t4.join ?_
        rw [l4]
        refine ts.join ?_
        rw [ls]; exact t0
      · simp [encV, layI_length, ls]; omega
      · simp [okV, Val.plain, codeOf, h5]
    · cases h
  rw [if_neg k2] at h
  by_cases k3 : kind = 3
  · subst k3
    rw [if_pos rfl] at h
    cases hr : rec_ false a with
    | bad e => rw [hr] at h; simp [Res.bind] at h
    | ok f a1 =>
      rw [hr] at h
      simp only [Res.bind, Res.ok.injEq] at h
      obtain ⟨rfl, rfl⟩ := h
      obtain ⟨h1, h2, h3, h4, h5⟩ := hrec _ _ _ _ hr
      have e : encV (Val.doc f) = wrapDoc (encFs f) := by simp [Val.doc, encV]
      refine ⟨by rw [e]; exact h1, by rw [e]; exact h2, rfl, ?_⟩
      simp [Val.doc, okV, Val.plain, codeOf, h4 rfl, h3]
  rw [if_neg k3] at h
  by_cases k4 : kind = 4
  · subst k4
    rw [if_pos rfl] at h
    cases hr : rec_ true a with
    | bad e => rw [hr] at h; simp [Res.bind] at h
    | ok f a1 =>
      rw [hr] at h
      simp only [Res.bind, Res.ok.injEq] at h
      obtain ⟨rfl, rfl⟩ := h
      obtain ⟨h1, h2, h3, h4, h5⟩ := hrec _ _ _ _ hr
      obtain ⟨h6, h7⟩ := h5 rfl
      have e : encV (Val.list (f.map (·.2))) = wrapDoc (encFs f) := by
        conv => rhs; rw [h6]
        rw [encFs_namedR]
        simp [Val.list, encV]
      refine ⟨by rw [e]; exact h1, by rw [e]; exact h2, rfl, ?_⟩
      simp [Val.list, okV, Val.plain, codeOf, h7, h3]
  rw [if_neg k4] at h
  by_cases k5 : kind = 5
  · subst k5
    rw [if_pos rfl] at h
    split at h
    · cases h
    rename_i h1
    dsimp only at h
    split at h
    · cases h
    rename_i h2
    split at h
    · cases h
    rename_i h3
    split at h
    · cases h
    rename_i h4
    cases h
    have t4 : At b a ((b.drop a).take 4) := At.of (by omega)
    have l4 : ((b.drop a).take 4).length = 4 := take_len (by omega)
    have e4 := lay4_signed l4
    rw [show leVal ((b.drop a).take 4) = numAt b a 4 from rfl] at e4
    obtain ⟨n, hn⟩ : ∃ n : Nat, signed 4 (numAt b a 4) = (n : Int) := ⟨(signed 4 (numAt b a 4)).toNat, by omega⟩
    rw [hn] at h2 h4 e4 ⊢
    have hnn : ((n : Int)).toNat = n := by omega
    rw [hnn]
    have t1 : At b (a + 4) ((b.drop (a + 4)).take 1) := At.of (by omega)
    have l1 : ((b.drop (a + 4)).take 1).length = 1 := take_len (by omega)
    have e1 := lay1_val l1
    have h3' : leVal ((b.drop (a + 4)).take 1) = 0 := by
      have : ¬ numAt b (a + 4) 1 ≠ 0 := h3
      unfold numAt at this
      omega
    rw [h3'] at e1
    rw [← e1] at t1
    have ts : At b (a + 5) ((b.drop (a + 5)).take n) := At.of (by omega)
    have ls : ((b.drop (a + 5)).take n).length = n := take_len (by omega)
    obtain ⟨s, hs⟩ : ∃ s, s = (b.drop (a + 5)).take n := ⟨_, rfl⟩
    rw [← hs] at ts ls ⊢
    refine ⟨?_, ?_, by simp [Val.kind, codeOf], ?_⟩
    · have : encV (.mk 8 0 [] s [] []) = layI 4 (n : Int) ++ ([0] ++ s) := by simp [encV, ls]
      rw [this, e4]
      refine t4.join ?_
      rw [l4]
      exact At.join t1 ts
    · simp [encV, layI_length, ls]; omega
    · simp [okV, Val.plain, codeOf]
  rw [if_neg k5] at h
  by_cases k7 : kind = 7
  · subst k7
    rw [if_pos rfl] at h
    split at h
    · cases h
    rename_i h1
    cases h
    have ts : At b a ((b.drop a).take 12) := At.of (by omega)
    have ls : ((b.drop a).take 12).length = 12 := take_len (by omega)
    obtain ⟨s, hs⟩ : ∃ s, s = (b.drop a).take 12 := ⟨_, rfl⟩
    rw [← hs] at ts ls ⊢
    refine ⟨by simpa [encV] using ts, by simp [encV, ls], by simp [Val.kind, codeOf], by simp [okV, Val.plain, codeOf, ls]⟩
  rw [if_neg k7] at h
  by_cases k8 : kind = 8
  · subst k8
    rw [if_pos rfl] at h
    split at h
    · cases h
    rename_i h1
    split at h
    · rename_i h2
      cases h
      have t1 : At b a ((b.drop a).take 1) := At.of (by omega)
      have l1 : ((b.drop a).take 1).length = 1 := take_len (by omega)
      have e1 := lay1_val l1
      rw [show leVal ((b.drop a).take 1) = numAt b a 1 from rfl] at e1
      have : encV (.mk 10 (numAt b a 1) [] [] [] []) = (b.drop a).take 1 := by rw [← e1]; simp [encV]
      refine ⟨by rw [this]; exact t1, by rw [this, l1], by simp [Val.kind, codeOf], ?_⟩
      have h3 : numAt b a 1 = 0 ∨ numAt b a 1 = 1 := by omega
      rcases h3 with h3 | h3 <;> rw [h3] <;> simp [okV, Val.plain, codeOf]
    · cases h
  rw [if_neg k8] at h
  by_cases k9 : kind = 9
  · subst k9
    rw [if_pos rfl] at h
    split at h
    · cases h
    rename_i h1
    cases h
    have t1 : At b a ((b.drop a).take 8) := At.of (by omega)
    have l1 : ((b.drop a).take 8).length = 8 := take_len (by omega)
    have e1 := lay8_signed l1
    have r1 := signed8_in l1
    rw [show leVal ((b.drop a).take 8) = numAt b a 8 from rfl] at e1 r1
    have : encV (.mk 11 (signed 8 (numAt b a 8)) [] [] [] []) = (b.drop a).take 8 := by rw [← e1]; simp [encV]
    refine ⟨by rw [this]; exact t1, by rw [this, l1], by simp [Val.kind, codeOf], by simp [okV, Val.plain, codeOf, r1]⟩
  rw [if_neg k9] at h
  by_cases k10 : kind = 10
  · subst k10
    rw [if_pos rfl] at h
    cases h
    refine ⟨⟨b.take a, b.drop a, by simp [Val.bare, encV], ?_⟩, by simp [Val.bare, encV], by decide, by simp [Val.bare, okV, Val.plain, codeOf]⟩
    rw [List.length_take]; omega
  rw [if_neg k10] at h
  by_cases k16 : kind = 16
  · subst k16
    rw [if_pos rfl] at h
    split at h
    · cases h
    rename_i h1
    cases h
    have t1 : At b a ((b.drop a).take 4) := At.of (by omega)
    have l1 : ((b.drop a).take 4).length = 4 := take_len (by omega)
    have e1 := lay4_signed l1
    have r1 := signed4_in l1
    rw [show leVal ((b.drop a).take 4) = numAt b a 4 from rfl] at e1 r1
    have : encV (.mk 3 (signed 4 (numAt b a 4)) [] [] [] []) = (b.drop a).take 4 := by rw [← e1]; simp [encV]
    refine ⟨by rw [this]; exact t1, by rw [this, l1], by simp [Val.kind, codeOf], by simp [okV, Val.plain, codeOf, r1]⟩
  rw [if_neg k16] at h
  by_cases k18 : kind = 18
  · subst k18
    rw [if_pos rfl] at h
    split at h
    · cases h
    rename_i h1
    cases h
    have t1 : At b a ((b.drop a).take 8) := At.of (by omega)
    have l1 : ((b.drop a).take 8).length = 8 := take_len (by omega)
    have e1 := lay8_signed l1
    have r1 := signed8_in l1
    rw [show leVal ((b.drop a).take 8) = numAt b a 8 from rfl] at e1 r1
    have : encV (.mk 4 (signed 8 (numAt b a 8)) [] [] [] []) = (b.drop a).take 8 := by rw [← e1]; simp [encV]
    refine ⟨by rw [this]; exact t1, by rw [this, l1], by simp [Val.kind, codeOf], by simp [okV, Val.plain, codeOf, r1]⟩
  rw [if_neg k18] at h
  by_cases k1 : kind = 1
  · subst k1
    rw [if_pos rfl] at h
    split at h <;> cases h
  rw [if_neg k1] at h
  by_cases k19 : kind = 19
  · subst k19
    rw [if_pos rfl] at h
    split at h <;> cases h
  rw [if_neg k19] at h
  by_cases k255 : kind = 255
  · subst k255
    rw [if_pos rfl] at h
    cases h
    refine ⟨⟨b.take a, b.drop a, by simp [Val.bare, encV], ?_⟩, by simp [Val.bare, encV], by decide, by simp [Val.bare, okV, Val.plain, codeOf]⟩
    rw [List.length_take]; omega
  rw [if_neg k255] at h
  by_cases k127 : kind = 127
  · subst k127
    rw [if_pos rfl] at h
    cases h
    refine ⟨⟨b.take a, b.drop a, by simp [Val.bare, encV], ?_⟩, by simp [Val.bare, encV], by decide, by simp [Val.bare, okV, Val.plain, codeOf]⟩
    rw [List.length_take]; omega
  rw [if_neg k127] at h
  cases h

theorem decFs_sound {b : Bs} {rec_ : Bool → Nat → Res (List (Bs × Val))} {deep : Nat} (hrec : ∀ items a f a', rec_ items a = .ok f a' → DocIs b (deep + 1) items a f a') (items : Bool) :
    ∀ (fuel : Nat) (acc : List (Bs × Val)) (a : Nat) (f : List (Bs × Val)) (a' : Nat), decFs b rec_ items fuel acc a = .ok f a' →
      ∃ r, f = acc ++ r ∧ At b a (encFs r ++ [0]) ∧ a' = a + (encFs r).length + 1 ∧ (items = false → okFs deep (acc.map (·.1)).reverse r = true) ∧ (items = true → r = named acc.length (r.map (·.2)) ∧ okLs deep (r.map (·.2)) = true)
  | 0, acc, a, f, a', h => by rw [decFs] at h; cases h
  | fuel + 1, acc, a, f, a', h => by
    rw [decFs] at h
    cases hk : b[a]? with
    | none => rw [hk] at h; cases h
    | some kind =>
      rw [hk] at h
      have hal : a < b.length := (List.getElem?_eq_some_iff.1 hk).1
      dsimp only at h
      by_cases h0 : kind = 0
      · subst h0
        rw [if_pos rfl] at h
        cases h
        exact ⟨[], by simp, by simpa [encFs] using At.one hk, by simp [encFs], fun _ => by simp [okFs], fun _ => by simp [named, okLs]⟩
      rw [if_neg h0] at h
      split at h
      · cases h
      cases hz : zeroFrom b (a + 1) with
      | none => rw [hz] at h; cases h
      | some n =>
        rw [hz] at h
        dsimp only at h
        obtain ⟨z1, z2, z3⟩ := zeroFrom_some hz
        obtain ⟨s, hs⟩ : ∃ s, s = (b.drop (a + 1)).take n := ⟨_, rfl⟩
        rw [← hs] at h z3
        have hsl : s.length = n := by rw [hs]; exact take_len (by omega)
        have hsA : At b (a + 1) s := by rw [hs]; exact At.of (by omega)
        split at h
        · cases h
        rename_i c1
        split at h
        · cases h
        rename_i c2
        split at h
        · cases h
        rename_i c3
        split at h
        · cases h
        rename_i c4
        cases hv : decV b rec_ kind (a + 1 + n + 1) with
        | bad e => rw [hv] at h; cases h
        | ok v a1 =>
          rw [hv] at h
          simp only [Res.bind] at h
          obtain ⟨v1, v2, v3, v4⟩ := decV_sound hrec (by omega) hv
          obtain ⟨r, r1, r2, r3, r4, r5⟩ := decFs_sound hrec items fuel _ _ _ _ h
          have hname : nameOk s = true := by
            unfold nameOk
            simp only [Bool.and_eq_true, decide_eq_true_eq]
            exact ⟨⟨by simpa using c1, by omega⟩, z3⟩
          refine ⟨(s, v) :: r, by rw [r1]; simp, ?_, ?_, ?_, ?_⟩
          · rw [encFs, v3]
            have e : (kind :: (s ++ 0 :: (encV v ++ encFs r))) ++ [0] = [kind] ++ (s ++ ([0] ++ (encV v ++ (encFs r ++ [0])))) := by simp
            rw [e]
            refine (At.one hk).join ?_
            refine hsA.join ?_
            rw [hsl]
            refine (At.last z2).join ?_
            refine v1.join ?_
            rw [← v2]; exact r2
          · rw [encFs, r3, v2]
            simp only [List.length_cons, List.length_append, hsl]; omega
          · intro hi
            rw [okFs, hname, v4]
            have := r4 hi
            rw [List.map_append, List.reverse_append] at this
            simp only [Bool.true_and, Bool.and_true, Bool.and_eq_true, decide_eq_true_eq]
            refine ⟨?_, this⟩
            rw [List.mem_reverse]; exact c4
          · intro hi
            obtain ⟨q1, q2⟩ := r5 hi
            have hsn : s = itoa acc.length := by
              rcases Classical.em (s = itoa acc.length) with e | e
              · exact e
              · exact absurd ⟨hi, e⟩ c3
            refine ⟨?_, by simp [okLs, v4, q2]⟩
            rw [List.length_append, List.length_singleton] at q1
            rw [List.map_cons, named, ← q1, hsn]

theorem decDoc_sound (b : Bs) : ∀ (fuel deep : Nat) (items : Bool) (a : Nat) (f : List (Bs × Val)) (a' : Nat), decDoc b fuel deep items a = .ok f a' → DocIs b deep items a f a'
  | 0, _, _, _, _, _, h => by rw [decDoc] at h; cases h
  | fuel + 1, deep, items, a, f, a', h => by
    rw [decDoc] at h
    split at h
    · cases h
    rename_i h1
    split at h
    · cases h
    rename_i h2
    dsimp only at h
    split at h
    · cases h
    rename_i h3
    cases hf : decFs b (fun items a => decDoc b fuel (deep + 1) items a) items (b.length + 1) [] (a + 4) with
    | bad e => rw [hf] at h; cases h
    | ok l a1 =>
      rw [hf] at h
      simp only [Res.bind] at h
      split at h
      · rename_i h4
        cases h
        obtain ⟨r, r1, r2, r3, r4, r5⟩ := decFs_sound (fun items a f a' h => decDoc_sound b fuel (deep + 1) items a f a' h) items _ _ _ _ _ hf
        rw [List.nil_append] at r1
        rw [r1]
        have t4 : At b a ((b.drop a).take 4) := At.of (by omega)
        have l4 : ((b.drop a).take 4).length = 4 := take_len (by omega)
        have e4 := lay4_signed l4
        rw [show leVal ((b.drop a).take 4) = numAt b a 4 from rfl, ← h4, r3] at e4
        have e5 : layI 4 (((encFs r).length + 5 : Nat) : Int) = (b.drop a).take 4 := by
          rw [← e4]; congr 1; push_cast; omega
        refine ⟨?_, ?_, by omega, fun hi => by simpa using r4 hi, fun hi => by simpa using r5 hi⟩
        · unfold wrapDoc
          rw [e5]
          refine t4.join ?_
          rw [l4]; exact r2
        · rw [wrapDoc_length, r3]; omega
      · cases h

theorem At.all {b x : Bs} (h : At b 0 x) (hl : x.length = b.length) : x = b := by
  obtain ⟨pre, post, rfl, hp⟩ := h
  have h1 : pre = [] := List.eq_nil_of_length_eq_zero hp.symm
  subst h1
  simp only [List.nil_append, List.length_append] at hl
  have h2 : post = [] := List.eq_nil_of_length_eq_zero (by omega)
  subst h2; simp

/-- What is decoded is encoded to the same bytes. -/
theorem decode_sound {b : Bs} {v : Val} {a : Nat} (h : decode b = .ok v a) : encode v = some b ∧ okDoc v = true ∧ (wrapDoc (encFs v.f)).length = b.length := by
  unfold decode at h
  split at h
  · cases h
  rename_i h1
  split at h
  · cases h
  rename_i h2
  split at h
  · cases h
  rename_i h3
  split at h
  · cases h
  rename_i h4
  cases hf : decDoc b 34 1 false 0 with
  | bad e => rw [hf] at h; cases h
  | ok f a1 =>
    rw [hf] at h
    simp only [Res.bind, Res.ok.injEq] at h
    obtain ⟨rfl, rfl⟩ := h
    obtain ⟨d1, d2, d3, d4, d5⟩ := decDoc_sound b _ _ _ _ _ _ hf
    have hle := d1.le
    have hn : signed 4 (numAt b 0 4) = (((encFs f).length + 5 : Nat) : Int) := by
      rw [wrapDoc_length] at hle
      unfold wrapDoc at d1
      rw [d1.left.num (layI_length _ _), signed_lay4 (by omega) (by omega)]
    have hlen : (wrapDoc (encFs f)).length = b.length := by
      rw [wrapDoc_length]
      have : signed 4 (numAt b 0 4) = b.length := by
        rcases Classical.em (signed 4 (numAt b 0 4) = b.length) with e | e
        · exact e
        · exact absurd e h4
      omega
    have hall := d1.all hlen
    have hok : okDoc (Val.doc f) = true := by
      have hp : (Val.doc f).plain = true := by simp [Val.doc, Val.plain]
      have hl2 : (wrapDoc (encFs f)).length ≤ 65536 := by rw [hlen]; omega
      unfold okDoc
      rw [hp]
      simp [Val.doc, Val.kind, Val.f, d4 rfl, hl2]
    refine ⟨?_, hok, hlen⟩
    unfold encode
    rw [if_pos hok]
    exact congrArg some hall
end Go.Proofs.YtembpajlllnncaaDoor
