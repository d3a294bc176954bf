/- Documents, plain: what is encoded is decoded as it was. -/
import Derived.Test.YtbkmnhogfegmcaaDoorBsL
set_option linter.unusedVariables false
set_option linter.unusedSimpArgs false
namespace Go.Proofs.YtbkmnhogfegmcaaDoor

/-- x lies at a in b. -/
def At (b : Bs) (a : Nat) (x : Bs) : Prop := ∃ pre post, b = pre ++ (x ++ post) ∧ a = pre.length
section
variable {b x y : Bs} {a : Nat}
theorem At.le (h : At b a x) : a + x.length ≤ b.length := by
  obtain ⟨pre, post, rfl, rfl⟩ := h
  simp only [List.length_append]; omega
theorem At.left (h : At b a (x ++ y)) : At b a x := by
  obtain ⟨pre, post, rfl, rfl⟩ := h
  exact ⟨pre, y ++ post, by simp, rfl⟩
theorem At.right (h : At b a (x ++ y)) : At b (a + x.length) y := by
  obtain ⟨pre, post, rfl, rfl⟩ := h
  exact ⟨pre ++ x, post, by simp, by simp⟩
theorem At.head {c : UInt8} (h : At b a (c :: x)) : b[a]? = some c := by
  obtain ⟨pre, post, rfl, rfl⟩ := h
  rw [List.getElem?_append_right (Nat.le_refl _), Nat.sub_self]; rfl
theorem At.tail {c : UInt8} (h : At b a (c :: x)) : At b (a + 1) x := At.right (x := [c]) h
theorem At.num (h : At b a x) {w : Nat} (hw : x.length = w) : numAt b a w = leVal x := by
  obtain ⟨pre, post, rfl, rfl⟩ := h
  exact numAt_at rfl hw
theorem At.bytes (h : At b a x) {n : Nat} (hn : x.length = n) : (b.drop a).take n = x := by
  obtain ⟨pre, post, rfl, rfl⟩ := h
  subst hn
  rw [List.drop_append, List.drop_of_length_le (Nat.le_refl _), List.nil_append, Nat.sub_self, List.drop_zero, List.take_append_of_le_length (Nat.le_refl _), List.take_of_length_le (Nat.le_refl _)]
theorem At.get (h : At b a x) {i : Nat} (hi : i < x.length) (d : UInt8) : (b.drop a).getD i d = x[i] := by
  obtain ⟨pre, post, rfl, rfl⟩ := h
  rw [List.drop_append, List.drop_of_length_le (Nat.le_refl _), List.nil_append, Nat.sub_self, List.drop_zero, List.getD_eq_getElem?_getD, List.getElem?_append_left hi, List.getElem?_eq_getElem hi]; rfl
theorem At.zero {nm : Bs} (h : At b a (nm ++ (0 :: x))) (h0 : (0 : UInt8) ∉ nm) : zeroFrom b a = some nm.length := by
  obtain ⟨pre, post, rfl, rfl⟩ := h
  have := zeroFrom_at (pre := pre) (nm := nm) (post := x ++ post) rfl h0
  simpa using this
theorem At.refl (b : Bs) : At b 0 b := ⟨[], [], by simp, rfl⟩
end

theorem wrapDoc_length (body : Bs) : (wrapDoc body).length = body.length + 5 := by
  unfold wrapDoc
  rw [List.length_append, layI_length, List.length_append, List.length_singleton]; omega
theorem codeOf_known {k : Int} (h : codeOf k ≠ 0) : (k = 1 ∨ k = 2 ∨ k = 3 ∨ k = 4 ∨ k = 5 ∨ k = 6 ∨ k = 7 ∨ k = 8 ∨ k = 9 ∨ k = 10 ∨ k = 11 ∨ k = 12) ∧ known (codeOf k) = true := by
  unfold codeOf at h ⊢
  by_cases h1 : k = 1; · subst h1; exact ⟨by omega, by decide⟩
  by_cases h2 : k = 2; · subst h2; exact ⟨by omega, by decide⟩
  by_cases h3 : k = 3; · subst h3; exact ⟨by omega, by decide⟩
  by_cases h4 : k = 4; · subst h4; exact ⟨by omega, by decide⟩
  by_cases h5 : k = 5; · subst h5; exact ⟨by omega, by decide⟩
  by_cases h6 : k = 6; · subst h6; exact ⟨by omega, by decide⟩
  by_cases h7 : k = 7; · subst h7; exact ⟨by omega, by decide⟩
  by_cases h8 : k = 8; · subst h8; exact ⟨by omega, by decide⟩
  by_cases h9 : k = 9; · subst h9; exact ⟨by omega, by decide⟩
  by_cases h10 : k = 10; · subst h10; exact ⟨by omega, by decide⟩
  by_cases h11 : k = 11; · subst h11; exact ⟨by omega, by decide⟩
  by_cases h12 : k = 12; · subst h12; exact ⟨by omega, by decide⟩
  simp [h1, h2, h3, h4, h5, h6, h7, h8, h9, h10, h11, h12] at h

theorem nameOk_parts {s : Bs} (h : nameOk s = true) : utf8 s = true ∧ s.length ≤ 120 ∧ (0 : UInt8) ∉ s := by
  unfold nameOk at h
  simp only [Bool.and_eq_true, decide_eq_true_eq] at h
  exact ⟨h.1.1, h.1.2, h.2⟩

/-- A list's items as fields. -/
def named : Nat → List Val → List (Bs × Val)
  | _, [] => []
  | i, v :: r => (itoa i, v) :: named (i + 1) r
theorem named_snd : ∀ (i : Nat) (l : List Val), (named i l).map (·.2) = l
  | _, [] => rfl
  | i, v :: r => by simp [named, named_snd (i + 1) r]

/-- One field is read. -/
theorem decFs_one {b : Bs} {rec_ : Bool → Nat → Res (List (Bs × Val))} {items : Bool} {fuel : Nat} {acc : List (Bs × Val)} {a : Nat} {nm rest : Bs} {v : Val} {kind : UInt8} {n : Nat}
    (hk : known kind = true) (hk0 : kind ≠ 0) (h : At b a (kind :: (nm ++ (0 :: rest)))) (hnm : nameOk nm = true) (hit : items = true → nm = itoa acc.length) (hno : nm ∉ acc.map (·.1))
    (hv : decV b rec_ kind (a + 1 + nm.length + 1) = .ok v n) : decFs b rec_ items (fuel + 1) acc a = decFs b rec_ items fuel (acc ++ [(nm, v)]) n := by
  obtain ⟨h1, h2, h3⟩ := nameOk_parts hnm
  rw [decFs, h.head]
  simp only
  rw [if_neg hk0, hk, h.tail.zero h3]
  simp only [Bool.true_eq_false, if_false]
  rw [h.tail.left.bytes rfl, h1]
  simp only [Bool.true_eq_false, if_false]
  rw [if_neg (by omega), if_neg (fun e => e.2 (hit e.1)), if_neg hno, hv]
  rfl

theorem decFs_end {b : Bs} {rec_ : Bool → Nat → Res (List (Bs × Val))} {items : Bool} {fuel : Nat} {acc : List (Bs × Val)} {a : Nat} {rest : Bs} (h : At b a (0 :: rest)) : decFs b rec_ items (fuel + 1) acc a = .ok acc (a + 1) := by
  rw [decFs, h.head]
  simp

/-- A document is read, its fields are. -/
theorem decDoc_of {b : Bs} {fuel deep : Nat} {items : Bool} {a : Nat} {body : Bs} {l : List (Bs × Val)} (hd : deep ≤ 32) (h : At b a (wrapDoc body)) (hb : body.length ≤ 65536)
    (hf : decFs b (fun items a => decDoc b fuel (deep + 1) items a) items (b.length + 1) [] (a + 4) = .ok l (a + 4 + body.length + 1)) : decDoc b (fuel + 1) deep items a = .ok l (a + (wrapDoc body).length) := by
  have hle := h.le
  rw [wrapDoc_length] at hle ⊢
  have hnum : signed 4 (numAt b a 4) = (body.length : Int) + 5 := by
    unfold wrapDoc at h
    rw [h.left.num (layI_length _ _), signed_lay4 (by omega) (by omega)]; push_cast; rfl
  rw [decDoc, if_neg (by omega), if_neg (by omega)]
  simp only [hnum]
  rw [if_neg (by omega), hf]
  simp only [Res.bind]
  rw [if_pos (by push_cast; omega)]
  congr 1
  omega

theorem plain_parts {k n : Int} {s b : Bs} {f : List (Bs × Val)} {l : List Val} (h : (Val.mk k n s b f l).plain = true) :
    (¬ (k = 3 ∨ k = 4 ∨ k = 10 ∨ k = 11) → n = 0) ∧ (k ≠ 5 → s = []) ∧ (¬ (k = 8 ∨ k = 9) → b = []) ∧ (k ≠ 6 → f = []) ∧ (k ≠ 7 → l = []) := by
  unfold Val.plain at h
  simp only [Bool.and_eq_true, Bool.or_eq_true, decide_eq_true_eq, List.isEmpty_iff] at h
  obtain ⟨⟨⟨⟨h1, h2⟩, h3⟩, h4⟩, h5⟩ := h
  exact ⟨fun e => h1.resolve_left e, fun e => h2.resolve_left e, fun e => h3.resolve_left e, fun e => h4.resolve_left e, fun e => h5.resolve_left e⟩

theorem encFs_len : ∀ f : List (Bs × Val), f.length ≤ (encFs f).length
  | [] => by simp [encFs]
  | (nm, v) :: r => by
    have := encFs_len r
    simp [encFs]; omega
theorem encLs_len : ∀ (l : List Val) (i : Nat), l.length ≤ (encLs i l).length
  | [], _ => by simp [encLs]
  | v :: r, i => by
    have := encLs_len r (i + 1)
    simp [encLs]; omega

mutual
theorem dec_encV (b : Bs) : ∀ (v : Val) (fuel deep a : Nat), okV deep v = true → At b a (encV v) → (encV v).length ≤ 65536 → 33 ≤ fuel + deep →
    decV b (fun items a => decDoc b fuel (deep + 1) items a) (codeOf v.kind) a = .ok v (a + (encV v).length)
  | .mk k n s bs f l, fuel, deep, a, hok, hat, hlen, hfu => by
    have hle := hat.le
    rw [okV] at hok
    simp only [Bool.and_eq_true, decide_eq_true_eq] at hok
    obtain ⟨⟨hp, hc⟩, hk⟩ := hok
    obtain ⟨p1, p2, p3, p4, p5⟩ := plain_parts hp
    obtain ⟨hkk, _⟩ := codeOf_known hc
    simp only [Val.kind]
    rcases hkk with rfl | rfl | rfl | rfl | rfl | rfl | rfl | rfl | rfl | rfl | rfl | rfl
    · have e1 := p1 (by omega); have e2 := p2 (by omega); have e3 := p3 (by omega); have e4 := p4 (by omega); have e5 := p5 (by omega)
      subst e1 e2 e3 e4 e5
      simp [encV, codeOf, decV, Val.bare]
    · have e1 := p1 (by omega); have e2 := p2 (by omega); have e3 := p3 (by omega); have e4 := p4 (by omega); have e5 := p5 (by omega)
      subst e1 e2 e3 e4 e5
      simp [encV, codeOf, decV, Val.bare]
    · have e2 := p2 (by omega); have e3 := p3 (by omega); have e4 := p4 (by omega); have e5 := p5 (by omega)
      subst e2 e3 e4 e5
      simp at hk
      have he : encV (.mk 3 n [] [] [] []) = layI 4 n := by simp [encV]
      rw [he] at hat hle hlen ⊢
      rw [layI_length] at hle ⊢
      have hn := hat.num (layI_length 4 n)
      have hn2 := signed_lay4 hk.1 hk.2
      simp only [codeOf, decV]
      simp [hn, hn2]; omega
    · have e2 := p2 (by omega); have e3 := p3 (by omega); have e4 := p4 (by omega); have e5 := p5 (by omega)
      subst e2 e3 e4 e5
      simp at hk
      have he : encV (.mk 4 n [] [] [] []) = layI 8 n := by simp [encV]
      rw [he] at hat hle hlen ⊢
      rw [layI_length] at hle ⊢
      have hn := hat.num (layI_length 8 n)
      have hn2 := signed_lay8 hk.1 hk.2
      simp only [codeOf, decV]
      simp [hn, hn2]; omega
    · have e1 := p1 (by omega); have e3 := p3 (by omega); have e4 := p4 (by omega); have e5 := p5 (by omega)
      subst e1 e3 e4 e5
      simp at hk
      have he : encV (.mk 5 0 s [] [] []) = layI 4 (s.length + 1 : Nat) ++ (s ++ [0]) := by simp [encV]
      rw [he] at hat hle hlen ⊢
      simp only [List.length_append, layI_length, List.length_singleton] at hle hlen ⊢
      have hn := hat.left.num (layI_length 4 _)
      have hn2 := signed_lay4 (n := ((s.length + 1 : Nat) : Int)) (by omega) (by omega)
      have h2 := hat.right
      rw [layI_length] at h2
      have h3 := h2.left.bytes rfl
      have h4 := h2.get (i := s.length) (by simp) 1
      have hc5 : codeOf 5 = 2 := rfl
      have e6 : ((s.length + 1 : Nat) : Int).toNat = s.length + 1 := by omega
      rw [hc5]
      unfold decV
      rw [if_pos rfl, hn, if_neg (by omega)]
      simp only [hn2, e6, Nat.add_sub_cancel, h3, h4]
      rw [if_neg (by omega), if_neg (by omega)]
      simp [hk]; omega
    · have e1 := p1 (by omega); have e2 := p2 (by omega); have e3 := p3 (by omega); have e5 := p5 (by omega)
      subst e1 e2 e3 e5
      simp at hk
      have he : encV (.mk 6 0 [] [] f []) = wrapDoc (encFs f) := by simp [encV]
      rw [he] at hat hlen ⊢
      have hl2 := hlen
      rw [wrapDoc_length] at hl2
      obtain ⟨fu, rfl⟩ : ∃ fu, fuel = fu + 1 := ⟨fuel - 1, by omega⟩
      have hat2 : At b (a + 4) (encFs f ++ [0]) := by
        have := hat.right
        rw [layI_length] at this
        exact this
      have hle2 := hat2.le
      have hfl : f.length < b.length + 1 := by
        have := encFs_len f
        simp only [List.length_append] at hle2; omega
      have h := decDoc_of (fuel := fu) (deep := deep + 1) (items := false) (l := f) (by omega) hat (by omega) (by
        have := dec_encFs b f fu (deep + 1) (a + 4) (b.length + 1) [] [] hk.2 hat2 (by omega) (by omega) hfl (fun x hx => hx)
        simpa using this)
      simp only [codeOf, decV]
      simp [h, Res.bind, Val.doc]
    · have e1 := p1 (by omega); have e2 := p2 (by omega); have e3 := p3 (by omega); have e4 := p4 (by omega)
      subst e1 e2 e3 e4
      simp at hk
      have he : encV (.mk 7 0 [] [] [] l) = wrapDoc (encLs 0 l) := by simp [encV]
      rw [he] at hat hlen ⊢
      have hl2 := hlen
      rw [wrapDoc_length] at hl2
      obtain ⟨fu, rfl⟩ : ∃ fu, fuel = fu + 1 := ⟨fuel - 1, by omega⟩
      have hat2 : At b (a + 4) (encLs 0 l ++ [0]) := by
        have := hat.right
        rw [layI_length] at this
        exact this
      have hle2 := hat2.le
      have hll := encLs_len l 0
      have hfl : l.length < b.length + 1 := by
        simp only [List.length_append] at hle2; omega
      have h := decDoc_of (fuel := fu) (deep := deep + 1) (items := true) (l := named 0 l) (by omega) hat (by omega) (by
        have := dec_encLs b l fu (deep + 1) (a + 4) (b.length + 1) 0 [] hk.2 hat2 (by omega) (by omega) hfl (by omega) rfl
        simpa using this)
      simp only [codeOf, decV]
      simp [h, Res.bind, Val.list, named_snd]
    · have e1 := p1 (by omega); have e2 := p2 (by omega); have e4 := p4 (by omega); have e5 := p5 (by omega)
      subst e1 e2 e4 e5
      have he : encV (.mk 8 0 [] bs [] []) = layI 4 bs.length ++ ([0] ++ bs) := by simp [encV]
      rw [he] at hat hle hlen ⊢
      simp only [List.length_append, layI_length, List.length_singleton] at hle hlen ⊢
      have hn := hat.left.num (layI_length 4 _)
      have hn2 := signed_lay4 (n := (bs.length : Int)) (by omega) (by omega)
      have h2 := hat.right
      rw [layI_length] at h2
      have h3 := h2.left.num (w := 1) rfl
      have h4 := h2.right.bytes rfl
      have hc8 : codeOf 8 = 5 := rfl
      have e6 : (bs.length : Int).toNat = bs.length := by omega
      have e7 : a + 4 + [(0 : UInt8)].length = a + 5 := rfl
      rw [e7] at h4
      have h5 : leVal [(0 : UInt8)] = 0 := rfl
      rw [hc8]
      unfold decV
      rw [if_neg (by decide), if_neg (by decide), if_neg (by decide), if_pos rfl, hn, if_neg (by omega)]
      simp only [hn2, e6, h3, h4, h5]
      rw [if_neg (by omega), if_neg (by decide), if_neg (by omega)]
      simp; omega
    · have e1 := p1 (by omega); have e2 := p2 (by omega); have e4 := p4 (by omega); have e5 := p5 (by omega)
      subst e1 e2 e4 e5
      simp at hk
      have he : encV (.mk 9 0 [] bs [] []) = bs := by simp [encV]
      rw [he] at hat hle hlen ⊢
      have h4 := hat.bytes hk
      simp only [codeOf, decV]
      simp [h4, hk]; omega
    · have e2 := p2 (by omega); have e3 := p3 (by omega); have e4 := p4 (by omega); have e5 := p5 (by omega)
      subst e2 e3 e4 e5
      simp at hk
      have he : encV (.mk 10 n [] [] [] []) = layI 1 n := by simp [encV]
      rw [he] at hat hle hlen ⊢
      rw [layI_length] at hle ⊢
      have hn := hat.num (layI_length 1 n)
      have hn2 := leVal_lay1 (n := n) (by omega) (by omega)
      have hc10 : codeOf 10 = 8 := rfl
      have e6 : (n.toNat : Int) = n := by omega
      rw [hc10]
      unfold decV
      rw [if_neg (by decide), if_neg (by decide), if_neg (by decide), if_neg (by decide), if_neg (by decide), if_pos rfl, if_neg (by omega), hn, hn2, if_pos (by omega), e6]
    · have e2 := p2 (by omega); have e3 := p3 (by omega); have e4 := p4 (by omega); have e5 := p5 (by omega)
      subst e2 e3 e4 e5
      simp at hk
      have he : encV (.mk 11 n [] [] [] []) = layI 8 n := by simp [encV]
      rw [he] at hat hle hlen ⊢
      rw [layI_length] at hle ⊢
      have hn := hat.num (layI_length 8 n)
      have hn2 := signed_lay8 hk.1 hk.2
      simp only [codeOf, decV]
      simp [hn, hn2]; omega
    · have e1 := p1 (by omega); have e2 := p2 (by omega); have e3 := p3 (by omega); have e4 := p4 (by omega); have e5 := p5 (by omega)
      subst e1 e2 e3 e4 e5
      simp [encV, codeOf, decV, Val.bare]
theorem dec_encFs (b : Bs) : ∀ (r : List (Bs × Val)) (fuel deep a fl : Nat) (seen : List Bs) (acc : List (Bs × Val)), okFs deep seen r = true → At b a (encFs r ++ [0]) → (encFs r).length ≤ 65536 → 33 ≤ fuel + deep →
    r.length < fl → (∀ x, x ∈ acc.map (·.1) → x ∈ seen) → decFs b (fun items a => decDoc b fuel (deep + 1) items a) false fl acc a = .ok (acc ++ r) (a + (encFs r).length + 1)
  | [], fuel, deep, a, fl + 1, seen, acc, hok, hat, hlen, hfu, hfl, hacc => by
    rw [decFs_end hat]
    simp [encFs]
  | (nm, v) :: r, fuel, deep, a, fl + 1, seen, acc, hok, hat, hlen, hfu, hfl, hacc => by
    rw [okFs] at hok
    simp only [Bool.and_eq_true, decide_eq_true_eq] at hok
    obtain ⟨⟨⟨h1, h2⟩, h3⟩, h4⟩ := hok
    have he : encFs ((nm, v) :: r) ++ [0] = codeOf v.kind :: (nm ++ (0 :: (encV v ++ (encFs r ++ [0])))) := by simp [encFs]
    have hl : (encFs ((nm, v) :: r)).length = nm.length + (encV v).length + (encFs r).length + 2 := by simp [encFs]; omega
    rw [he] at hat
    rw [hl] at hlen ⊢
    obtain ⟨hk0, hkn⟩ : codeOf v.kind ≠ 0 ∧ known (codeOf v.kind) = true := by
      cases v with
      | mk k n s bs f l =>
        rw [okV] at h3
        simp only [Bool.and_eq_true, decide_eq_true_eq] at h3
        exact ⟨h3.1.2, (codeOf_known h3.1.2).2⟩
    have hatv : At b (a + 1 + nm.length + 1) (encV v ++ (encFs r ++ [0])) := hat.tail.right.tail
    have hv := dec_encV b v fuel deep _ h3 hatv.left (by omega) hfu
    rw [decFs_one hkn hk0 hat h1 (fun e => by cases e) (fun e => h2 (hacc _ e)) hv]
    rw [dec_encFs b r fuel deep _ fl (nm :: seen) (acc ++ [(nm, v)]) h4 hatv.right (by omega) hfu (by simp at hfl; omega) (fun x hx => by
      simp only [List.map_append, List.map_cons, List.map_nil, List.mem_append, List.mem_singleton] at hx
      rcases hx with hx | rfl
      · exact List.mem_cons_of_mem _ (hacc x hx)
      · exact List.mem_cons_self ..)]
    simp only [List.append_assoc, List.singleton_append]
    congr 1
    omega
theorem dec_encLs (b : Bs) : ∀ (r : List Val) (fuel deep a fl i : Nat) (acc : List (Bs × Val)), okLs deep r = true → At b a (encLs i r ++ [0]) → (encLs i r).length ≤ 65536 → 33 ≤ fuel + deep →
    r.length < fl → i + r.length < 10 ^ 20 → acc.map (·.1) = (List.range i).map itoa → decFs b (fun items a => decDoc b fuel (deep + 1) items a) true fl acc a = .ok (acc ++ named i r) (a + (encLs i r).length + 1)
  | [], fuel, deep, a, fl + 1, i, acc, hok, hat, hlen, hfu, hfl, hi, hacc => by
    rw [decFs_end hat]
    simp [encLs, named]
  | v :: r, fuel, deep, a, fl + 1, i, acc, hok, hat, hlen, hfu, hfl, hi, hacc => by
    rw [okLs] at hok
    simp only [Bool.and_eq_true] at hok
    obtain ⟨h3, h4⟩ := hok
    have he : encLs i (v :: r) ++ [0] = codeOf v.kind :: (itoa i ++ (0 :: (encV v ++ (encLs (i + 1) r ++ [0])))) := by simp [encLs]
    have hl : (encLs i (v :: r)).length = (itoa i).length + (encV v).length + (encLs (i + 1) r).length + 2 := by simp [encLs]; omega
    rw [he] at hat
    rw [hl] at hlen ⊢
    simp only [List.length_cons] at hi hfl
    obtain ⟨hk0, hkn⟩ : codeOf v.kind ≠ 0 ∧ known (codeOf v.kind) = true := by
      cases v with
      | mk k n s bs f l =>
        rw [okV] at h3
        simp only [Bool.and_eq_true, decide_eq_true_eq] at h3
        exact ⟨h3.1.2, (codeOf_known h3.1.2).2⟩
    have hatv : At b (a + 1 + (itoa i).length + 1) (encV v ++ (encLs (i + 1) r ++ [0])) := hat.tail.right.tail
    have hv := dec_encV b v fuel deep _ h3 hatv.left (by omega) hfu
    have hal : acc.length = i := by have := congrArg List.length hacc; simpa using this
    have hno : itoa i ∉ acc.map (·.1) := by
      rw [hacc]
      intro hm
      obtain ⟨j, hj, e⟩ := List.mem_map.1 hm
      have := itoa_inj e
      rw [List.mem_range] at hj; omega
    rw [decFs_one hkn hk0 hat (itoa_nameOk (by omega)) (fun _ => by rw [hal]) hno hv]
    rw [dec_encLs b r fuel deep _ fl (i + 1) (acc ++ [(itoa i, v)]) h4 hatv.right (by omega) hfu (by omega) (by omega) (by
      rw [List.map_append, hacc, List.range_succ, List.map_append]; rfl)]
    simp only [List.append_assoc, List.singleton_append, named]
    congr 1
    omega
end

/-- WHAT IS ENCODED IS DECODED AS IT WAS. -/
theorem decode_encode {v : Val} {c : Bs} (h : encode v = some c) : decode c = .ok v c.length := by
  unfold encode at h
  split at h
  · rename_i hok
    simp only [Option.some.injEq] at h
    subst h
    unfold okDoc at hok
    simp only [Bool.and_eq_true, decide_eq_true_eq] at hok
    obtain ⟨⟨⟨h1, h2⟩, h3⟩, h4⟩ := hok
    cases v with
    | mk k n s bs f l =>
      simp only [Val.kind, Val.f] at h1 h3 h4 ⊢
      subst h1
      obtain ⟨p1, p2, p3, _, p5⟩ := plain_parts h2
      have e1 := p1 (by omega); have e2 := p2 (by omega); have e3 := p3 (by omega); have e5 := p5 (by omega)
      subst e1 e2 e3 e5
      have hat := At.refl (wrapDoc (encFs f))
      have hl := wrapDoc_length (encFs f)
      have hnum : signed 4 (numAt (wrapDoc (encFs f)) 0 4) = ((wrapDoc (encFs f)).length : Int) := by
        have h5 : At (wrapDoc (encFs f)) 0 (layI 4 ((encFs f).length + 5 : Nat) ++ (encFs f ++ [0])) := hat
        rw [h5.left.num (layI_length _ _), signed_lay4 (by omega) (by omega), hl]
      have hat2 : At (wrapDoc (encFs f)) (0 + 4) (encFs f ++ [0]) := by
        have h5 : At (wrapDoc (encFs f)) 0 (layI 4 ((encFs f).length + 5 : Nat) ++ (encFs f ++ [0])) := hat
        have := h5.right
        rw [layI_length] at this
        exact this
      have hd := decDoc_of (fuel := 33) (deep := 1) (items := false) (l := f) (by omega) hat (by omega) (by
        have hle2 := hat2.le
        have hfl := encFs_len f
        simp only [List.length_append] at hle2
        have := dec_encFs (wrapDoc (encFs f)) f 33 1 (0 + 4) ((wrapDoc (encFs f)).length + 1) [] [] h3 hat2 (by omega) (by omega) (by omega) (fun x hx => hx)
        simpa using this)
      unfold decode
      rw [if_neg (by omega), if_neg (by omega), hnum, if_neg (by omega), if_neg (by simp), hd]
      simp [Res.bind, Val.doc]
  · cases h
end Go.Proofs.YtbkmnhogfegmcaaDoor
