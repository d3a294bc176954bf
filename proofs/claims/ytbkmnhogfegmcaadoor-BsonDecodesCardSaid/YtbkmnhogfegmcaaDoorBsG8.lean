/- bson: the reader reads fields. -/
import Derived.Test.YtbkmnhogfegmcaaDoorBsG7
import Derived.Test.YtbkmnhogfegmcaaDoorBsM
set_option linter.unusedVariables false
set_option linter.unusedSimpArgs false
namespace Go.Proofs.YtbkmnhogfegmcaaDoor
open Go.RowKit

/-- The state of the loop that reads fields. -/
def FRel (w : World) (R B o c bm : Nat) (b : Bs) (T : Res (List (Bs × Val))) (rec_ : Bool → Nat → Res (List (Bs × Val))) (items : Bool) (k : Nat) (l : Value) (wr : World) : Prop :=
  ∃ (acc : List (Bs × Val)) (p fl : Nat) (va : Option Addr) (vc : Nat) (xs : List Value) (es : Array MapEntry) (clock : Nat), l = .slice va acc.length vc ∧ k = b.length - p ∧ b.length + 1 ≤ fl + p ∧ acc.length ≤ p ∧ decFs b rec_ items fl acc p = T ∧
    wr.ownsRow 0 44 7 (.slice va acc.length vc) acc.length xs ∧ Flds (fun k => w.heap.size ≤ k ∧ k ≠ bm ∧ (Value.slice va acc.length vc).ownBlock ≠ some k) wr acc xs ∧ (∀ k, (Value.slice va acc.length vc).ownBlock = some k → w.heap.size ≤ k ∧ k ≠ bm) ∧
    wr.heap[bm]? = some (.map es clock) ∧ Names es.toList (acc.map (·.1)) ∧ Rd wr R B o c b p ∧ Step [R] id id w wr

theorem strOf_list (l : Bs) : (strOf l).toList = l := by simp [strOf, ByteArray.toList_eq]
theorem Rd.off {w w' : World} {R B o c a : Nat} {b : Bs} {T : List Nat} (h : Rd w R B o c b a) (hs : Step T id id w w') (hR : R ∉ T) (hB : B ∉ T) : Rd w' R B o c b a :=
  ⟨hs.at h.cell hR, fun i hi => by rw [cell_of_blk_eq (hs.keep B h.blt hB).2]; exact h.bytes i hi, h.le, h.cap, h.ne, h.small, hs.lt h.blt⟩
theorem Rd.grown {w w' : World} {R B o c a : Nat} {b : Bs} {row : Option Nat} (h : Rd w R B o c b a) (hg : w.grownBy w' row) (hr : ∀ k, row = some k → k ≠ R ∧ k ≠ B) : Rd w' R B o c b a := by
  cases row with
  | none => exact h.step (.grown hg (fun _ h => by cases h))
  | some V => exact h.kept hg (hr V rfl).1 (hr V rfl).2

set_option maxRecDepth 100000 in
set_option maxHeartbeats 8000000 in
theorem rd_fields (fuel : Nat) (hV : ∀ g, fuel = g + 1 → RdF g) : RdF fuel := by
  intro P w R B o c b a deep items hfu hdp h ht hPR
  have hmm := @run_makeMap Tryd.prog
  by_cases hdeep : 32 < deep
  · have hd : decDoc b fuel deep items a = .bad 7 := by
      cases fuel with
      | zero => rfl
      | succ g => rw [decDoc, if_pos hdeep]
    rw [hd]
    have hdi : ¬ (deep : Int) ≤ 32 := by omega
    have hdd := Lib.hid (decide_eq_false hdi)
    clear h ht hd
    go_enter Tryd.func27, Tryd.ntmps27
    go_wp2_with (go_at_call 25; (try rw [hdd.out]); refine (must_bad 7 _).mono ?_; rintro e w' ⟨rfl, rfl⟩)
    exact ⟨rfl, Step.refl _ _ _, rfl⟩
  obtain ⟨g, rfl⟩ : ∃ g, fuel = g + 1 := ⟨fuel - 1, by omega⟩
  have hVg := hV g rfl
  have hdi : (deep : Int) ≤ 32 := by omega
  obtain ⟨N, hN⟩ : ∃ N, signed 4 (numAt b a 4) = N := ⟨_, rfl⟩
  obtain ⟨rec_, hrec_⟩ : ∃ rec_ : Bool → Nat → Res (List (Bs × Val)), rec_ = (fun items a => decDoc b g (deep + 1) items a) := ⟨_, rfl⟩
  have hd : decDoc b (g + 1) deep items a = if b.length - a < 4 then .bad 2 else if N < 5 then .bad 4 else (decFs b rec_ items (b.length + 1) [] (a + 4)).bind fun l a' => if ((a' : Int) - a) = N then .ok l a' else .bad 4 := by
    rw [decDoc, if_neg hdeep, hN, hrec_]
  rw [hd]
  have hle := h.le
  have hsm := h.small
  have hR := lt_of_block h.cell
  have k1 := cell_blk h.cell (i := 1) rfl
  have hH := Lib.hid h
  have htH := Lib.hid ht
  have hNH := Lib.hid hN
  have hVH := Lib.hid hVg
  have hrecH := Lib.hid hrec_
  clear h ht hd hV hVg hrec_
  by_cases hsh : b.length - a < 4
  · rw [if_pos hsh]
    go_enter Tryd.func27, Tryd.ntmps27
    go_wp2_with (first | (go_at_call 25; (with_reducible refine (must_ok _ _).mono ?_); rintro e w' ⟨rfl, rfl⟩) | (go_at_call 26; refine (length_short _ hH.out.cell hsm hle (by omega)).mono ?_; rintro e w1 ⟨rfl, hs1⟩; have hs1H := Lib.hid hs1; clear hs1))
    exact ⟨rfl, hs1H.out.mono (fun _ h => by cases h), rfl⟩
  rw [if_neg hsh]
  have hn4 : a + 4 ≤ b.length := by omega
  by_cases hlow : N < 5
  · rw [if_pos hlow]
    go_enter Tryd.func27, Tryd.ntmps27
    go_wp2_with (first | (go_at_call 25; (with_reducible refine (must_ok _ _).mono ?_); rintro e w' ⟨rfl, rfl⟩) | (go_at_call 26; refine (length_bad 5 hH.out hn4 (by rw [hNH.out]; omega)).mono ?_; rintro e w1 ⟨rfl, hs1⟩; have hs1H := Lib.hid hs1; clear hs1))
    exact ⟨rfl, hs1H.out, rfl⟩
  rw [if_neg hlow]
  obtain ⟨T, hT⟩ : ∃ T, T = decFs b rec_ items (b.length + 1) [] (a + 4) := ⟨_, rfl⟩
  obtain ⟨RES, hRES⟩ : ∃ RES : Res (List (Bs × Val)), RES = (T.bind fun l a' => if ((a' : Int) - a) = N then .ok l a' else .bad 4) := ⟨_, rfl⟩
  rw [← hT, ← hRES]
  have hTH := Lib.hid hT
  have hRESH := Lib.hid hRES
  clear hT hRES hN
  go_enter Tryd.func27, Tryd.ntmps27
  go_wp2_with (first | (go_at_call 25; (with_reducible refine (must_ok _ _).mono ?_); rintro e w' ⟨rfl, rfl⟩) | (go_at_call 26; refine (length_ok 5 hH.out hn4 (by rw [hNH.out]; omega)).mono ?_; rintro e w1 ⟨rfl, hr1, hs1⟩; rw [hNH.out]; have hr1H := Lib.hid hr1; have hs1H := Lib.hid hs1; clear hr1 hs1))
  have hbm := hs1H.out.size
  have hlt1 := lt_of_block hr1H.out.cell
  go_loopg [9] (b.length - (a + 4)) (fun k l wr => FRel w R B o c w1.heap.size b T rec_ items k l wr)
  case atStart =>
    exact ⟨[], a + 4, b.length + 1, none, 0, [], #[], 0, rfl, rfl, by omega, by simp, hTH.out.symm, World.ownsRow_nil _ _ _ _, rfl, (fun _ h => by cases h), heap_alloc_new w1 _, by simp [Names], hr1H.out.step (Step.alloc _), hs1H.out.tail (Step.alloc _)⟩
  case round =>
    obtain ⟨acc, p, fl, va, vc, xs, es, clock, rfl, rfl, hfl, hap, hdec, hown, hflds, hnew, hmap, hnames, hrd, hst⟩ := hrel
    have hple := hrd.le
    have hRwr := lt_of_block hrd.cell
    have hbmR : w1.heap.size ≠ R := by omega
    have hbmlt := lt_of_block hmap
    have hdecH := Lib.hid hdec
    have hownH := Lib.hid hown
    have hfldsH := Lib.hid hflds
    have hnewH := Lib.hid hnew
    have hmapH := Lib.hid hmap
    have hnamesH := Lib.hid hnames
    have hrdH := Lib.hid hrd
    have hstH := Lib.hid hst
    have hbmH := Lib.hid hbm
    clear hdec hown hflds hnew hmap hnames hrd hst
    obtain ⟨fl, rfl⟩ : ∃ f, fl = f + 1 := ⟨fl - 1, by omega⟩
    by_cases hend : p = b.length
    · -- nothing is left
      have hbad : T = .bad 2 := by
        rw [← hdecH.out, decFs, List.getElem?_eq_none (by omega)]
      have hres : RES = .bad 2 := by rw [hRESH.out, hbad]; rfl
      rw [hres]
      clear hres hbad
      go_wp2_with (go_at_call 47; refine (number_bad 1 hrdH.out.cell hsm hple (by omega)).mono ?_; rintro e w2 ⟨rfl, hs2⟩; have hs2H := Lib.hid hs2; clear hs2)
      exact ⟨rfl, hstH.out.tail (hs2H.out.mono (fun _ h => by cases h)), rfl⟩
    have hpl : p < b.length := by omega
    obtain ⟨k0, hk0⟩ : ∃ k0, b[p]? = some k0 := ⟨_, List.getElem?_eq_getElem hpl⟩
    have hnum : numAt b p 1 = k0.toNat := by
      have h1 : (b.drop p).take 1 = [k0] := by
        obtain ⟨h2, h3⟩ := List.getElem?_eq_some_iff.1 hk0
        rw [List.drop_eq_getElem_cons hpl, List.take_succ_cons, List.take_zero, h3]
      unfold numAt
      rw [h1]; simp [leVal]
    obtain ⟨K, hK⟩ : ∃ K : Int, (k0.toNat : Int) = K := ⟨_, rfl⟩
    have hK1 := k0.toNat_lt
    have hwK : wrap64 K = K := wrap_id (by omega) (by omega)
    have hKH := Lib.hid hK
    have hnumH := Lib.hid hnum
    have hk0H := Lib.hid hk0
    have hn1 := Lib.hid (show (numAt b p 1 : Int) = K by rw [hnum]; exact hK)
    clear hnum
    by_cases hz : k0 = 0
    · -- the end
      have hKz : K = 0 := by rw [← hK, hz]; rfl
      have hok : T = .ok acc (p + 1) := by
        rw [← hdecH.out, decFs, hk0, hz]; simp
      have hK0 : (K == 0) = true := by rw [hKz]; rfl
      have hT2 := Lib.hid hok
      have hp1 : ((p : Int) + 1 - (a : Int) == N) = decide (((p + 1 : Nat) : Int) - (a : Int) = N) := by
        rw [Bool.eq_iff_iff]; simp
      have hwr : wrap64 ((p : Int) + 1 - (a : Int)) = (p : Int) + 1 - (a : Int) := wrap_id (by omega) (by omega)
      clear hK hk0 hz hok
      by_cases hN : ((p + 1 : Nat) : Int) - (a : Int) = N
      · have hres := Lib.hid (show RES = .ok acc (p + 1) by rw [hRESH.out, hT2.out]; simp only [Res.bind]; rw [if_pos hN])
        rw [decide_eq_true hN] at hp1
        have hNH2 := Lib.hid hN
        clear hN
        obtain ⟨na, hna⟩ : ∃ na, na = acc.length := ⟨_, rfl⟩
        rw [← hna] at hownH hfldsH hnewH ⊢
        have hnaH := Lib.hid hna
        clear hna
        go_wp2_with (first | (go_at_call 47; refine (number_ok 1 hrdH.out (by omega) (by omega) (by omega)).mono ?_; rintro e w2 ⟨rfl, hr2, hs2⟩; rw [hn1.out]; have c1 := cell_blk hr2.cell (i := 1) rfl; have hr2H := Lib.hid hr2; have hs2H := Lib.hid hs2; clear hr2 hs2) | (go_at_call 25; (with_reducible refine (must_ok _ _).mono ?_); rintro e w' ⟨rfl, rfl⟩))
        go_ret
        show DecFP w R B o c b RES _ w2
        rw [hres.out]
        have hna2 := hnaH.out
        subst hna2
        have hrow := ownsRow_step hownH.out hs2H.out (fun k hk => by have := (hnewH.out k hk).1; simp; omega)
        have hf2 := Flds.keep (P2 := fun k => w.heap.size ≤ k) (fun k hk => hk.1) (fun k hk hl => (hs2H.out.keep k hl (by have := hk.1; simp; omega)).2) _ _ hfldsH.out
        obtain ⟨f1, f2, f3⟩ := FIs.ofRow hf2 hrow (fun k hk => (hnewH.out k hk).1)
        exact ⟨hstH.out.tail hs2H.out, va, vc, rfl, f1, f2, f3, hr2H.out⟩
      · have hres := Lib.hid (show RES = .bad 4 by rw [hRESH.out, hT2.out]; simp only [Res.bind]; rw [if_neg hN])
        rw [decide_eq_false hN] at hp1
        clear hN
        go_wp2_with (first | (go_at_call 47; refine (number_ok 1 hrdH.out (by omega) (by omega) (by omega)).mono ?_; rintro e w2 ⟨rfl, hr2, hs2⟩; rw [hn1.out]; have c1 := cell_blk hr2.cell (i := 1) rfl; have hr2H := Lib.hid hr2; have hs2H := Lib.hid hs2; clear hr2 hs2) | (go_at_call 25; (with_reducible refine (must_ok _ _).mono ?_); rintro e w' ⟨rfl, rfl⟩) | (go_at_call 25; (with_reducible refine (must_bad _ _).mono ?_); rintro e w' ⟨rfl, rfl⟩))
        refine ⟨rfl, ?_⟩
        show DecFP w R B o c b RES _ w2
        rw [hres.out]
        exact ⟨hstH.out.tail hs2H.out, rfl⟩
    have hKz : ¬ K = 0 := fun e => hz (UInt8.toNat_inj.1 (by rw [← hK] at e; simpa using e))
    have hstep := decFs_step (rec_ := rec_) (items := items) (fl := fl) (acc := acc) hk0 hz
    rw [hdecH.out] at hstep
    have hstepH := Lib.hid hstep
    clear hstep hk0 hz
    cases hkn : known k0
    · have hres : RES = .bad 9 := by rw [hRESH.out, hstepH.out, if_pos hkn]; rfl
      rw [hres]
      have hknH := Lib.hid hkn
      clear hres hK hkn
      go_wp2_with (first | (go_at_call 47; refine (number_ok 1 hrdH.out (by omega) (by omega) (by omega)).mono ?_; rintro e w2 ⟨rfl, hr2, hs2⟩; rw [hn1.out]; have hr2H := Lib.hid hr2; have hs2H := Lib.hid hs2; clear hr2 hs2) | (go_at_call 48; have hkc := bs_known k0 w2; rw [hKH.out, hknH.out] at hkc; refine hkc.mono ?_; clear hkc; rintro e w' ⟨rfl, rfl⟩) | (go_at_call 25; (with_reducible refine (must_bad _ _).mono ?_); rintro e w' ⟨rfl, rfl⟩))
      exact ⟨rfl, hstH.out.tail hs2H.out, rfl⟩
    have hknH := Lib.hid hkn
    have hrec2 : ∀ items a f a', rec_ items a = .ok f a' → DocIs b (deep + 1) items a f a' := fun items a f a' h => by
      rw [hrecH.out] at h
      exact decDoc_sound b g (deep + 1) items a f a' h
    have hway := fun (args : Array Value) (w : World) => way_call k0 hkn args w
    have hstep2 := hstepH.out
    rw [hkn] at hstep2
    simp only [Bool.true_eq_false, if_false] at hstep2
    cases hnr : nameRes b (p + 1) with
    | bad er =>
      have hres : RES = .bad er := by rw [hRESH.out, hstep2, hnr]; rfl
      rw [hres]
      have hnrH := Lib.hid hnr
      clear hres hK hkn hnr hstep2 hway hrec2
      go_wp2_with (first | (go_at_call 47; refine (number_ok 1 hrdH.out (by omega) (by omega) (by omega)).mono ?_; rintro e w2 ⟨rfl, hr2, hs2⟩; rw [hn1.out]; have hr2H := Lib.hid hr2; have hs2H := Lib.hid hs2; clear hr2 hs2) | (go_at_call 48; have hkc := bs_known k0 w2; rw [hKH.out, hknH.out] at hkc; refine hkc.mono ?_; clear hkc; rintro e w' ⟨rfl, rfl⟩) | (go_at_call 25; (with_reducible refine (must_ok _ _).mono ?_); rintro e w' ⟨rfl, rfl⟩) | (go_at_call 49; refine (name_bad hr2H.out ((htH.out.one hstH.out hPR).one hs2H.out hPR) hPR hnrH.out).mono ?_; rintro e w3 ⟨rfl, hs3⟩; have hs3H := Lib.hid hs3; clear hs3))
      exact ⟨rfl, (hstH.out.tail hs2H.out).tail hs3H.out, rfl⟩
    | ok sn a1 =>
      rw [hnr] at hstep2
      simp only at hstep2
      obtain ⟨n, hzf, hsn, hu, hnl, ha1, hnb⟩ := nameRes_ok hnr
      have hsl : sn.length = n := by rw [hsn]; exact take_len (by omega)
      obtain ⟨ns, hns⟩ : ∃ ns, ns = acc.map (·.1) := ⟨_, rfl⟩
      rw [← hns] at hstep2 hnamesH
      obtain ⟨na, hna⟩ : ∃ na, na = acc.length := ⟨_, rfl⟩
      rw [← hna] at hstep2 hownH hfldsH hnewH hap ⊢
      have hlenn : na ≤ 65536 := by omega
      have hna2 : (na : Int) ≤ 9223372036854775807 := by omega
      have hzfH := Lib.hid hzf
      have hsnH := Lib.hid hsn
      have huH := Lib.hid hu
      have hslH := Lib.hid hsl
      have hnsH := Lib.hid hns
      have hnaH := Lib.hid hna
      have hstep2H := Lib.hid hstep2
      have ha1H := Lib.hid ha1
      have hrec2H := Lib.hid hrec2
      have hnbH := Lib.hid hnb
      have hu1 := Tryd.underlying87
      have hu2 := Tryd.underlying9
      have hu1H := Lib.hid hu1
      have hu2H := Lib.hid hu2
      clear hK hkn hnr hstep2 hzf hsn hu hsl hns hna ha1 hrec2 hnb hu1 hu2
      -- items: is it the name that it must have?
      by_cases hbadname : items = true ∧ sn ≠ itoa na
      · obtain ⟨rfl, hne⟩ := hbadname
        have hres := Lib.hid (show RES = .bad 4 by rw [hRESH.out, hstep2H.out, if_pos ⟨rfl, hne⟩]; rfl)
        have hcmp : ((strOf sn).toList == (strOf (itoa na)).toList) = false := by
          rw [strOf_list, strOf_list, beq_eq_false_iff_ne]; exact hne
        have hcmpH := Lib.hid hcmp
        obtain ⟨S1, hS1⟩ : ∃ S1, S1 = strOf sn := ⟨_, rfl⟩
        obtain ⟨S2, hS2⟩ : ∃ S2, S2 = strOf (itoa na) := ⟨_, rfl⟩
        rw [← hS1, ← hS2] at hcmp
        have hS1H := Lib.hid hS1
        have hS2H := Lib.hid hS2
        clear hne hS1 hS2 hway
        go_wp2_with (first | (go_at_call 47; refine (number_ok 1 hrdH.out (by omega) (by omega) (by omega)).mono ?_; rintro e w2 ⟨rfl, hr2, hs2⟩; rw [hn1.out]; have hr2H := Lib.hid hr2; have hs2H := Lib.hid hs2; clear hr2 hs2) | (go_at_call 48; have hkc := bs_known k0 w2; rw [hKH.out, hknH.out] at hkc; refine hkc.mono ?_; clear hkc; rintro e w' ⟨rfl, rfl⟩) | (go_at_call 25; (with_reducible refine (must_ok _ _).mono ?_); rintro e w' ⟨rfl, rfl⟩) | (go_at_call 49; refine (name_ok hr2H.out ((htH.out.one hstH.out hPR).one hs2H.out hPR) hPR hzfH.out (by rw [← hsnH.out]; exact huH.out) hnl).mono ?_; rintro e w3 ⟨rfl, hr3, hs3⟩; rw [← hsnH.out, ← hS1H.out]; rw [← ha1H.out] at hr3; have hmap3 := hs3.at (hs2H.out.at hmapH.out (by simp; exact hbmR)) (by simp; exact hbmR); have ht3 := ((htH.out.one hstH.out hPR).one hs2H.out hPR).one hs3 hPR;  have hr3H := Lib.hid hr3; have hs3H := Lib.hid hs3; have hmap3H := Lib.hid hmap3; have ht3H := Lib.hid ht3; clear hr3 hs3 hmap3 ht3) | (go_at_call 50; refine (bs_itoa na w3 (by omega) ht3H.out.pow).mono ?_; rintro e w4 ⟨rfl, hg4⟩; rw [← hS2H.out];  have hg4H := Lib.hid hg4; clear hg4) | (go_at_call 25; (with_reducible refine (must_bad _ _).mono ?_); rintro e w' ⟨rfl, rfl⟩))
        refine ⟨rfl, ?_⟩
        show DecFP w R B o c b RES _ w4
        rw [hres.out]
        exact ⟨((hstH.out.tail hs2H.out).tail hs3H.out).tail (.grown hg4H.out (fun _ h => by cases h)), rfl⟩
      have hok1 : items = false ∨ sn = itoa na := by
        cases items
        · exact .inl rfl
        · exact .inr (by rcases Classical.em (sn = itoa na) with e | e; exact e; exact absurd ⟨rfl, e⟩ hbadname)
      have hstep3 := hstep2H.out
      rw [if_neg hbadname] at hstep3
      clear hbadname
      obtain ⟨S1, hS1⟩ : ∃ S1, S1 = strOf sn := ⟨_, rfl⟩
      obtain ⟨S2, hS2⟩ : ∃ S2, S2 = strOf (itoa na) := ⟨_, rfl⟩
      have hS1H := Lib.hid hS1
      have hS2H := Lib.hid hS2
      have hcmp : items = true → (S1.toList == S2.toList) = true := fun hi => by
        rcases hok1 with h | h
        · rw [h] at hi; cases hi
        · rw [hS1, hS2, h, beq_self_eq_true]
      clear hS1 hS2 hok1
      by_cases htw : sn ∈ ns
      · have hres := Lib.hid (show RES = .bad 6 by rw [hRESH.out, hstep3, if_pos htw]; rfl)
        have htwH := Lib.hid (decide_eq_true htw)
        clear htw hstep3 hway
        cases items
        · clear hcmp
          go_wp2_with (first | (go_at_call 47; refine (number_ok 1 hrdH.out (by omega) (by omega) (by omega)).mono ?_; rintro e w2 ⟨rfl, hr2, hs2⟩; rw [hn1.out]; have hr2H := Lib.hid hr2; have hs2H := Lib.hid hs2; clear hr2 hs2) | (go_at_call 48; have hkc := bs_known k0 w2; rw [hKH.out, hknH.out] at hkc; refine hkc.mono ?_; clear hkc; rintro e w' ⟨rfl, rfl⟩) | (go_at_call 25; (with_reducible refine (must_ok _ _).mono ?_); rintro e w' ⟨rfl, rfl⟩) | (go_at_call 49; refine (name_ok hr2H.out ((htH.out.one hstH.out hPR).one hs2H.out hPR) hPR hzfH.out (by rw [← hsnH.out]; exact huH.out) hnl).mono ?_; rintro e w3 ⟨rfl, hr3, hs3⟩; rw [← hsnH.out, ← hS1H.out]; rw [← ha1H.out] at hr3; have hmap3 := hs3.at (hs2H.out.at hmapH.out (by simp; exact hbmR)) (by simp; exact hbmR); have ht3 := ((htH.out.one hstH.out hPR).one hs2H.out hPR).one hs3 hPR; have hlk := run_lookup_names (P := Tryd.prog) hu1H.out hu2H.out hmap3 (Tryd.zeroValue93 _) hnamesH.out sn; rw [htwH.out, ← hS1H.out] at hlk; (try (have hnin2 := hninH.out; have hup := run_update_names (P := Tryd.prog) (w := World.alloc w3 (.cells #[] 93)) hu1H.out hu2H.out (alloc_old hmap3) hnamesH.out hnin2; obtain ⟨W6, hW6⟩ : ∃ W6, W6 = putObj (World.alloc w3 (.cells #[] 93)) w1.heap.size (.map (es.push { key := .string (strOf sn), val := .agg #[], born := clock }) (clock + 1)) := ⟨_, rfl⟩; rw [← hW6, ← hS1H.out] at hup; have hs6 : Step [w1.heap.size] id id w3 W6 := ((Step.alloc (.cells #[] 93)).tail (by rw [hW6]; exact .grown (putObj_grown _ _) (fun k h => by cases h; simp))); have hmap6 := Lib.hid (show W6.heap[w1.heap.size]? = some (.map (es.push { key := .string (strOf sn), val := .agg #[], born := clock }) (clock + 1)) by rw [hW6]; exact putObj_same (alloc_old hmap3)); have hs6H := Lib.hid hs6; clear hnin2 hW6 hs6)); have hr3H := Lib.hid hr3; have hs3H := Lib.hid hs3; have hmap3H := Lib.hid hmap3; have ht3H := Lib.hid ht3; clear hr3 hs3 hmap3 ht3) | (go_at_call 25; (with_reducible refine (must_bad _ _).mono ?_); rintro e w' ⟨rfl, rfl⟩))
          refine ⟨rfl, ?_⟩
          rw [hres.out]
          exact ⟨((hstH.out.tail hs2H.out).tail hs3H.out).tail (Step.alloc _), rfl⟩
        · have hcmp := hcmp rfl
          go_wp2_with (first | (go_at_call 47; refine (number_ok 1 hrdH.out (by omega) (by omega) (by omega)).mono ?_; rintro e w2 ⟨rfl, hr2, hs2⟩; rw [hn1.out]; have hr2H := Lib.hid hr2; have hs2H := Lib.hid hs2; clear hr2 hs2) | (go_at_call 48; have hkc := bs_known k0 w2; rw [hKH.out, hknH.out] at hkc; refine hkc.mono ?_; clear hkc; rintro e w' ⟨rfl, rfl⟩) | (go_at_call 25; (with_reducible refine (must_ok _ _).mono ?_); rintro e w' ⟨rfl, rfl⟩) | (go_at_call 49; refine (name_ok hr2H.out ((htH.out.one hstH.out hPR).one hs2H.out hPR) hPR hzfH.out (by rw [← hsnH.out]; exact huH.out) hnl).mono ?_; rintro e w3 ⟨rfl, hr3, hs3⟩; rw [← hsnH.out, ← hS1H.out]; rw [← ha1H.out] at hr3; have hmap3 := hs3.at (hs2H.out.at hmapH.out (by simp; exact hbmR)) (by simp; exact hbmR); have ht3 := ((htH.out.one hstH.out hPR).one hs2H.out hPR).one hs3 hPR;  have hr3H := Lib.hid hr3; have hs3H := Lib.hid hs3; have hmap3H := Lib.hid hmap3; have ht3H := Lib.hid ht3; clear hr3 hs3 hmap3 ht3) | (go_at_call 50; refine (bs_itoa na w3 (by omega) ht3H.out.pow).mono ?_; rintro e w4 ⟨rfl, hg4⟩; rw [← hS2H.out]; have hmap4 := (hg4.block _ (lt_of_block hmap3H.out) (by simp)).trans hmap3H.out; have hlk := run_lookup_names (P := Tryd.prog) hu1H.out hu2H.out hmap4 (Tryd.zeroValue93 _) hnamesH.out sn; rw [htwH.out, ← hS1H.out] at hlk; (try (have hnin2 := hninH.out; have hup := run_update_names (P := Tryd.prog) (w := World.alloc w4 (.cells #[] 93)) hu1H.out hu2H.out (alloc_old hmap4) hnamesH.out hnin2; obtain ⟨W6, hW6⟩ : ∃ W6, W6 = putObj (World.alloc w4 (.cells #[] 93)) w1.heap.size (.map (es.push { key := .string (strOf sn), val := .agg #[], born := clock }) (clock + 1)) := ⟨_, rfl⟩; rw [← hW6, ← hS1H.out] at hup; have hs6 : Step [w1.heap.size] id id w4 W6 := ((Step.alloc (.cells #[] 93)).tail (by rw [hW6]; exact .grown (putObj_grown _ _) (fun k h => by cases h; simp))); have hmap6 := Lib.hid (show W6.heap[w1.heap.size]? = some (.map (es.push { key := .string (strOf sn), val := .agg #[], born := clock }) (clock + 1)) by rw [hW6]; exact putObj_same (alloc_old hmap4)); have hs6H := Lib.hid hs6; clear hnin2 hW6 hs6)); clear hmap4; have hg4H := Lib.hid hg4; clear hg4) | (go_at_call 25; (with_reducible refine (must_bad _ _).mono ?_); rintro e w' ⟨rfl, rfl⟩))
          refine ⟨rfl, ?_⟩
          rw [hres.out]
          exact ⟨(((hstH.out.tail hs2H.out).tail hs3H.out).tail (.grown hg4H.out (fun _ h => by cases h))).tail (Step.alloc _), rfl⟩
      rw [if_neg htw] at hstep3
      have hstep3H := Lib.hid hstep3
      have hninH := Lib.hid htw
      have htwH := Lib.hid (decide_eq_false htw)
      clear htw hstep3
      obtain ⟨BM, hBM⟩ : ∃ BM, BM = w1.heap.size := ⟨_, rfl⟩
      cases items
      · clear hcmp
        go_wp2_with (first | (go_at_call 47; refine (number_ok 1 hrdH.out (by omega) (by omega) (by omega)).mono ?_; rintro e w2 ⟨rfl, hr2, hs2⟩; rw [hn1.out]; have hr2H := Lib.hid hr2; have hs2H := Lib.hid hs2; clear hr2 hs2) | (go_at_call 48; have hkc := bs_known k0 w2; rw [hKH.out, hknH.out] at hkc; refine hkc.mono ?_; clear hkc; rintro e w' ⟨rfl, rfl⟩) | (go_at_call 25; (with_reducible refine (must_ok _ _).mono ?_); rintro e w' ⟨rfl, rfl⟩) | (go_at_call 49; refine (name_ok hr2H.out ((htH.out.one hstH.out hPR).one hs2H.out hPR) hPR hzfH.out (by rw [← hsnH.out]; exact huH.out) hnl).mono ?_; rintro e w3 ⟨rfl, hr3, hs3⟩; rw [← hsnH.out, ← hS1H.out]; rw [← ha1H.out] at hr3; have hmap3 := hs3.at (hs2H.out.at hmapH.out (by simp; exact hbmR)) (by simp; exact hbmR); have ht3 := ((htH.out.one hstH.out hPR).one hs2H.out hPR).one hs3 hPR; have hlk := run_lookup_names (P := Tryd.prog) hu1H.out hu2H.out hmap3 (Tryd.zeroValue93 _) hnamesH.out sn; rw [htwH.out, ← hS1H.out] at hlk; (try (have hnin2 := hninH.out; have hup := run_update_names (P := Tryd.prog) (w := World.alloc w3 (.cells #[] 93)) hu1H.out hu2H.out (alloc_old hmap3) hnamesH.out hnin2; obtain ⟨W6, hW6⟩ : ∃ W6, W6 = putObj (World.alloc w3 (.cells #[] 93)) w1.heap.size (.map (es.push { key := .string (strOf sn), val := .agg #[], born := clock }) (clock + 1)) := ⟨_, rfl⟩; rw [← hW6, ← hS1H.out] at hup; have hs6 : Step [w1.heap.size] id id w3 W6 := ((Step.alloc (.cells #[] 93)).tail (by rw [hW6]; exact .grown (putObj_grown _ _) (fun k h => by cases h; simp))); have hmap6 := Lib.hid (show W6.heap[w1.heap.size]? = some (.map (es.push { key := .string (strOf sn), val := .agg #[], born := clock }) (clock + 1)) by rw [hW6]; exact putObj_same (alloc_old hmap3)); have hs6H := Lib.hid hs6; clear hnin2 hW6 hs6)); have hr3H := Lib.hid hr3; have hs3H := Lib.hid hs3; have hmap3H := Lib.hid hmap3; have ht3H := Lib.hid ht3; clear hr3 hs3 hmap3 ht3) | (go_at_call 51; have hwc := bs_way k0 hknH.out W6; rw [hKH.out] at hwc; refine hwc.mono ?_; clear hwc; rintro e w' ⟨rfl, rfl⟩))
        have hbmP : ¬ P w1.heap.size := fun h => by have := htH.out.lt _ h; have := hbmH.out; omega
        have hBlt := hH.out.blt
        have hsW6 : Step [R, w1.heap.size] id id wr W6 := ((hs2H.out.tail hs3H.out).mono (by simp)).tail (hs6H.out.mono (by simp))
        have ht6 : Tabs P W6 := (htH.out.one hstH.out hPR).keep hsW6 (by simp; exact ⟨hPR, hbmP⟩)
        have hrd6 : Rd W6 R B o c b a1 := hr3H.out.off hs6H.out (by simp; omega) (by simp; omega)
        have hval := rd_value (P := P) (deep := deep) hVH.out (by omega) (by omega) hknH.out hrd6 ht6 hPR
        rw [← hrecH.out] at hval
        have ha1n := ha1H.out
        have hnbn := hnbH.out
        cases hdv : decV b rec_ k0 a1 with
        | bad er =>
          rw [hdv] at hval
          refine hval.mono ?_
          rintro e w7 ⟨hs7, rfl⟩
          have hres : RES = .bad er := by rw [hRESH.out, hstep3H.out, hdv]; rfl
          refine ⟨rfl, ?_⟩
          show DecFP w R B o c b RES _ w7
          rw [hres]
          exact ⟨hstH.out.tailNew (hsW6.tail (hs7.mono (by simp))) (by simp; omega), rfl⟩
        | ok v a2 =>
          rw [hdv] at hval
          obtain ⟨h12, h2b⟩ := decV_gt hrec2H.out (by omega) hdv
          have hT4 := hstep3H.out
          rw [hdv] at hT4
          simp only [Res.bind] at hT4
          have hT4H := Lib.hid hT4
          refine hval.mono ?_
          clear hval hdv hT4
          rintro e w7 ⟨hs7, cs, rfl, hx, hr7⟩
          have hone := hx.one
          have hlen7 := hx.len
          obtain ⟨s0, ba, bn, bc, fa, fn, fc, la2, ln, lc2, hcs, -⟩ := hx.six
          obtain ⟨kk, hkk⟩ : ∃ k, k = v.kind := ⟨_, rfl⟩
          obtain ⟨nn, hnn⟩ : ∃ k, k = v.num := ⟨_, rfl⟩
          rw [← hkk, ← hnn] at hcs
          have hxb := VIs.below v cs hx
          obtain ⟨W8, hW8⟩ : ∃ W8, W8 = w7.alloc (.cells #[.string S1, .int .i64 kk, .int .i64 nn, .string s0, .slice ba bn bc, .slice fa fn fc, .slice la2 ln lc2] 44) := ⟨_, rfl⟩
          have hg78 : w7.grownBy W8 none := by rw [hW8]; exact World.grownBy_alloc w7 _ none
          have hsrc : Src W8 7 (.slice (some ⟨w7.heap.size, 0, none⟩) 1 1) 1 (.string S1 :: cs) := by
            refine ⟨by simp [hlen7], .inr ⟨_, 1, rfl, fun t u ht => ?_⟩⟩
            rw [hcs] at ht
            rw [addr_add, Nat.zero_add, hW8]
            exact cell_blk (heap_alloc_new w7 _) (by rw [← ht]; simp)
          have hs8 : Step [R, w1.heap.size] id id wr W8 := (hsW6.tail (hs7.mono (by simp))).tail (.grown hg78 (fun _ h => by cases h))
          have hown8 : W8.ownsRow 0 44 7 (.slice va na vc) na xs := ownsRow_step hownH.out hs8 (fun k hk => by have := hnewH.out k hk; simp; omega)
          have hone1 : ∀ u ∈ (Value.string S1 :: cs), u.oneCell' = true := fun u hu => by
            rcases List.mem_cons.1 hu with rfl | hu
            · rfl
            · exact hone u hu
          have hmap7 := hs7.at hmap6.out (by simp; exact hbmR)
          have hmap8 := Lib.hid ((hg78.block _ (lt_of_block hmap7) (by simp)).trans hmap7)
          obtain ⟨i0, hi, hz0, hz1, hz2⟩ := info_split info_field
          have hiH := Lib.hid hi
          have hz0H := Lib.hid hz0
          have hz1H := Lib.hid hz1
          have hz2H := Lib.hid hz2
          have hsrcH := Lib.hid hsrc
          have hs8H := Lib.hid hs8
          have hown8H := Lib.hid hown8
          have hone1H := Lib.hid hone1
          have hs7H := Lib.hid hs7
          have hx7H := Lib.hid hxb
          have hr7H := Lib.hid hr7
          have hg78H := Lib.hid hg78
          have hW8H := Lib.hid hW8
          have hsW6H := Lib.hid hsW6
          have hcsH := Lib.hid hcs
          rw [hcs]
          have hwrW6 := hsW6.size
          have hW67 := hs7.size
          have hw78 := hg78.size
          clear hone hlen7 hkk hnn hxb hsrc hown8 hone1 hmap7 hi hz0 hz1 hz2 hs7 hs8 hr7 hg78 hW8 hx hsW6 ht6 hrd6 hcs
          go_wp2_with (at_builtin; rw [← hW8H.out]; refine wpList_app rfl _ _ 24 rfl 44 i0 _ 7 120 Tryd.underlying24 hiH.out hz0H.out hz1H.out hz2H.out rfl (by decide) (.slice va na vc) na xs (by rfl) hown8H.out (.slice (some ⟨w7.heap.size, 0, none⟩) 1 1) 1 (.string S1 :: cs) (by rfl) hsrcH.out (by exact hone1H.out) (by omega) (by omega) ?_; intro ad' c' w9 hown9 hgrow9 hnil9 hat9; have hown9H := Lib.hid hown9; have hgrow9H := Lib.hid hgrow9; have hat9H := Lib.hid hat9; clear hown9 hgrow9 hnil9 hat9)
          go_roundg (b.length - a2)
          case measure => omega
          case rel =>
            have hna2 := hnaH.out
            have hlen2 : (acc ++ [(sn, v)]).length = na + 1 := by rw [List.length_append, ← hna2]; rfl
            have hnew9 : ∀ k, (Value.slice ad' (na + 1) c').ownBlock = some k → (Value.slice va na vc).ownBlock = some k ∨ k = W8.heap.size := fun k hk => by
              rcases hat9H.out with h | h
              · exact .inl (by rw [← h]; exact hk)
              · rw [h] at hk; cases hk; exact .inr rfl
            have hown9b : ∀ k, (Value.slice ad' (na + 1) c').ownBlock = some k → w.heap.size ≤ k ∧ k ≠ w1.heap.size := fun k hk => by
              rcases hnew9 k hk with h | h
              · exact hnewH.out k h
              · have := hbmH.out; omega
            have hf1 := Flds.below _ _ hfldsH.out
            have hf2 := Flds.keep (w' := w9) (P2 := fun k => w.heap.size ≤ k ∧ k ≠ w1.heap.size ∧ (Value.slice ad' (na + 1) c').ownBlock ≠ some k) (fun k hk => ⟨hk.1.1, hk.1.2.1, fun e => by
              rcases hnew9 k e with h | h
              · exact hk.1.2.2 h
              · omega⟩) (fun k hk hl => (hgrow9H.out.block k (Nat.lt_of_lt_of_le hl hs8H.out.size) (fun e => hk.1.2.2 e.symm)).trans (hs8H.out.keep k hl (by simp; omega)).2) _ _ hf1
            have hx9 := (hx7H.out).keep (w' := w9) (P2 := fun k => w.heap.size ≤ k ∧ k ≠ w1.heap.size ∧ (Value.slice ad' (na + 1) c').ownBlock ≠ some k) (fun k hk => ⟨by omega, by omega, fun e => by
              rcases hnew9 k e with h | h
              · have h5 := (World.ownsRow.lt hownH.out k h).2; omega
              · omega⟩) (fun k hk hl => (hgrow9H.out.block k (by omega) (fun e => by have h5 := (World.ownsRow.lt hownH.out k e.symm).2; omega)).trans (hg78H.out.block k hl (by simp)))
            refine ⟨acc ++ [(sn, v)], a2, fl, ad', c', xs ++ (.string S1 :: cs), _, clock + 1, by rw [hlen2], rfl, by omega, by rw [hlen2]; omega, hT4H.out.symm, ?_, ?_, ?_, (hgrow9H.out.block _ (lt_of_block hmap8.out) (fun e => (hnewH.out _ e.symm).2 rfl)).trans hmap8.out, ?_, ?_, ?_⟩
            · rw [hlen2]; exact hown9H.out
            · rw [hlen2, hS1H.out]
              exact Flds.snoc (by rw [hslH.out]; omega) hx9 _ _ hf2
            · rw [hlen2]; exact hown9b
            · have h5 := hnamesH.out.push (s := sn) (c := clock)
              rw [List.map_append, ← hnsH.out]; exact h5
            · exact (hr7H.out.step (.grown hg78H.out (fun _ h => by cases h))).grown hgrow9H.out (fun k hk => by have := (hnewH.out k hk).1; omega)
            · refine (hstH.out.tailNew hs8H.out (by simp; omega)).tailNew (T2 := (Value.slice va na vc).ownBlock.toList) (.grown hgrow9H.out (fun k hk => by rw [hk]; simp)) (fun r hr => ?_)
              rw [Option.mem_toList] at hr
              exact .inr (hnewH.out r hr).1
      · have hcmp := hcmp rfl
        go_wp2_with (first | (go_at_call 47; refine (number_ok 1 hrdH.out (by omega) (by omega) (by omega)).mono ?_; rintro e w2 ⟨rfl, hr2, hs2⟩; rw [hn1.out]; have hr2H := Lib.hid hr2; have hs2H := Lib.hid hs2; clear hr2 hs2) | (go_at_call 48; have hkc := bs_known k0 w2; rw [hKH.out, hknH.out] at hkc; refine hkc.mono ?_; clear hkc; rintro e w' ⟨rfl, rfl⟩) | (go_at_call 25; (with_reducible refine (must_ok _ _).mono ?_); rintro e w' ⟨rfl, rfl⟩) | (go_at_call 49; refine (name_ok hr2H.out ((htH.out.one hstH.out hPR).one hs2H.out hPR) hPR hzfH.out (by rw [← hsnH.out]; exact huH.out) hnl).mono ?_; rintro e w3 ⟨rfl, hr3, hs3⟩; rw [← hsnH.out, ← hS1H.out]; rw [← ha1H.out] at hr3; have hmap3 := hs3.at (hs2H.out.at hmapH.out (by simp; exact hbmR)) (by simp; exact hbmR); have ht3 := ((htH.out.one hstH.out hPR).one hs2H.out hPR).one hs3 hPR;  have hr3H := Lib.hid hr3; have hs3H := Lib.hid hs3; have hmap3H := Lib.hid hmap3; have ht3H := Lib.hid ht3; clear hr3 hs3 hmap3 ht3) | (go_at_call 50; refine (bs_itoa na w3 (by omega) ht3H.out.pow).mono ?_; rintro e w4 ⟨rfl, hg4⟩; rw [← hS2H.out]; have hmap4 := (hg4.block _ (lt_of_block hmap3H.out) (by simp)).trans hmap3H.out; have hlk := run_lookup_names (P := Tryd.prog) hu1H.out hu2H.out hmap4 (Tryd.zeroValue93 _) hnamesH.out sn; rw [htwH.out, ← hS1H.out] at hlk; (try (have hnin2 := hninH.out; have hup := run_update_names (P := Tryd.prog) (w := World.alloc w4 (.cells #[] 93)) hu1H.out hu2H.out (alloc_old hmap4) hnamesH.out hnin2; obtain ⟨W6, hW6⟩ : ∃ W6, W6 = putObj (World.alloc w4 (.cells #[] 93)) w1.heap.size (.map (es.push { key := .string (strOf sn), val := .agg #[], born := clock }) (clock + 1)) := ⟨_, rfl⟩; rw [← hW6, ← hS1H.out] at hup; have hs6 : Step [w1.heap.size] id id w4 W6 := ((Step.alloc (.cells #[] 93)).tail (by rw [hW6]; exact .grown (putObj_grown _ _) (fun k h => by cases h; simp))); have hmap6 := Lib.hid (show W6.heap[w1.heap.size]? = some (.map (es.push { key := .string (strOf sn), val := .agg #[], born := clock }) (clock + 1)) by rw [hW6]; exact putObj_same (alloc_old hmap4)); have hs6H := Lib.hid hs6; clear hnin2 hW6 hs6)); clear hmap4; have hg4H := Lib.hid hg4; clear hg4) | (go_at_call 51; have hwc := bs_way k0 hknH.out W6; rw [hKH.out] at hwc; refine hwc.mono ?_; clear hwc; rintro e w' ⟨rfl, rfl⟩))
        have hbmP : ¬ P w1.heap.size := fun h => by have := htH.out.lt _ h; have := hbmH.out; omega
        have hBlt := hH.out.blt
        have hsW6 : Step [R, w1.heap.size] id id wr W6 := (((hs2H.out.tail hs3H.out).mono (by simp)).tail (.grown hg4H.out (fun _ h => by cases h))).tail (hs6H.out.mono (by simp))
        have ht6 : Tabs P W6 := (htH.out.one hstH.out hPR).keep hsW6 (by simp; exact ⟨hPR, hbmP⟩)
        have hrd6 : Rd W6 R B o c b a1 := (hr3H.out.step (.grown hg4H.out (fun _ h => by cases h))).off hs6H.out (by simp; omega) (by simp; omega)
        have hval := rd_value (P := P) (deep := deep) hVH.out (by omega) (by omega) hknH.out hrd6 ht6 hPR
        rw [← hrecH.out] at hval
        have ha1n := ha1H.out
        have hnbn := hnbH.out
        cases hdv : decV b rec_ k0 a1 with
        | bad er =>
          rw [hdv] at hval
          refine hval.mono ?_
          rintro e w7 ⟨hs7, rfl⟩
          have hres : RES = .bad er := by rw [hRESH.out, hstep3H.out, hdv]; rfl
          refine ⟨rfl, ?_⟩
          show DecFP w R B o c b RES _ w7
          rw [hres]
          exact ⟨hstH.out.tailNew (hsW6.tail (hs7.mono (by simp))) (by simp; omega), rfl⟩
        | ok v a2 =>
          rw [hdv] at hval
          obtain ⟨h12, h2b⟩ := decV_gt hrec2H.out (by omega) hdv
          have hT4 := hstep3H.out
          rw [hdv] at hT4
          simp only [Res.bind] at hT4
          have hT4H := Lib.hid hT4
          refine hval.mono ?_
          clear hval hdv hT4
          rintro e w7 ⟨hs7, cs, rfl, hx, hr7⟩
          have hone := hx.one
          have hlen7 := hx.len
          obtain ⟨s0, ba, bn, bc, fa, fn, fc, la2, ln, lc2, hcs, -⟩ := hx.six
          obtain ⟨kk, hkk⟩ : ∃ k, k = v.kind := ⟨_, rfl⟩
          obtain ⟨nn, hnn⟩ : ∃ k, k = v.num := ⟨_, rfl⟩
          rw [← hkk, ← hnn] at hcs
          have hxb := VIs.below v cs hx
          obtain ⟨W8, hW8⟩ : ∃ W8, W8 = w7.alloc (.cells #[.string S1, .int .i64 kk, .int .i64 nn, .string s0, .slice ba bn bc, .slice fa fn fc, .slice la2 ln lc2] 44) := ⟨_, rfl⟩
          have hg78 : w7.grownBy W8 none := by rw [hW8]; exact World.grownBy_alloc w7 _ none
          have hsrc : Src W8 7 (.slice (some ⟨w7.heap.size, 0, none⟩) 1 1) 1 (.string S1 :: cs) := by
            refine ⟨by simp [hlen7], .inr ⟨_, 1, rfl, fun t u ht => ?_⟩⟩
            rw [hcs] at ht
            rw [addr_add, Nat.zero_add, hW8]
            exact cell_blk (heap_alloc_new w7 _) (by rw [← ht]; simp)
          have hs8 : Step [R, w1.heap.size] id id wr W8 := (hsW6.tail (hs7.mono (by simp))).tail (.grown hg78 (fun _ h => by cases h))
          have hown8 : W8.ownsRow 0 44 7 (.slice va na vc) na xs := ownsRow_step hownH.out hs8 (fun k hk => by have := hnewH.out k hk; simp; omega)
          have hone1 : ∀ u ∈ (Value.string S1 :: cs), u.oneCell' = true := fun u hu => by
            rcases List.mem_cons.1 hu with rfl | hu
            · rfl
            · exact hone u hu
          have hmap7 := hs7.at hmap6.out (by simp; exact hbmR)
          have hmap8 := Lib.hid ((hg78.block _ (lt_of_block hmap7) (by simp)).trans hmap7)
          obtain ⟨i0, hi, hz0, hz1, hz2⟩ := info_split info_field
          have hiH := Lib.hid hi
          have hz0H := Lib.hid hz0
          have hz1H := Lib.hid hz1
          have hz2H := Lib.hid hz2
          have hsrcH := Lib.hid hsrc
          have hs8H := Lib.hid hs8
          have hown8H := Lib.hid hown8
          have hone1H := Lib.hid hone1
          have hs7H := Lib.hid hs7
          have hx7H := Lib.hid hxb
          have hr7H := Lib.hid hr7
          have hg78H := Lib.hid hg78
          have hW8H := Lib.hid hW8
          have hsW6H := Lib.hid hsW6
          have hcsH := Lib.hid hcs
          rw [hcs]
          have hwrW6 := hsW6.size
          have hW67 := hs7.size
          have hw78 := hg78.size
          clear hone hlen7 hkk hnn hxb hsrc hown8 hone1 hmap7 hi hz0 hz1 hz2 hs7 hs8 hr7 hg78 hW8 hx hsW6 ht6 hrd6 hcs
          go_wp2_with (at_builtin; rw [← hW8H.out]; refine wpList_app rfl _ _ 24 rfl 44 i0 _ 7 120 Tryd.underlying24 hiH.out hz0H.out hz1H.out hz2H.out rfl (by decide) (.slice va na vc) na xs (by rfl) hown8H.out (.slice (some ⟨w7.heap.size, 0, none⟩) 1 1) 1 (.string S1 :: cs) (by rfl) hsrcH.out (by exact hone1H.out) (by omega) (by omega) ?_; intro ad' c' w9 hown9 hgrow9 hnil9 hat9; have hown9H := Lib.hid hown9; have hgrow9H := Lib.hid hgrow9; have hat9H := Lib.hid hat9; clear hown9 hgrow9 hnil9 hat9)
          go_roundg (b.length - a2)
          case measure => omega
          case rel =>
            have hna2 := hnaH.out
            have hlen2 : (acc ++ [(sn, v)]).length = na + 1 := by rw [List.length_append, ← hna2]; rfl
            have hnew9 : ∀ k, (Value.slice ad' (na + 1) c').ownBlock = some k → (Value.slice va na vc).ownBlock = some k ∨ k = W8.heap.size := fun k hk => by
              rcases hat9H.out with h | h
              · exact .inl (by rw [← h]; exact hk)
              · rw [h] at hk; cases hk; exact .inr rfl
            have hown9b : ∀ k, (Value.slice ad' (na + 1) c').ownBlock = some k → w.heap.size ≤ k ∧ k ≠ w1.heap.size := fun k hk => by
              rcases hnew9 k hk with h | h
              · exact hnewH.out k h
              · have := hbmH.out; omega
            have hf1 := Flds.below _ _ hfldsH.out
            have hf2 := Flds.keep (w' := w9) (P2 := fun k => w.heap.size ≤ k ∧ k ≠ w1.heap.size ∧ (Value.slice ad' (na + 1) c').ownBlock ≠ some k) (fun k hk => ⟨hk.1.1, hk.1.2.1, fun e => by
              rcases hnew9 k e with h | h
              · exact hk.1.2.2 h
              · omega⟩) (fun k hk hl => (hgrow9H.out.block k (Nat.lt_of_lt_of_le hl hs8H.out.size) (fun e => hk.1.2.2 e.symm)).trans (hs8H.out.keep k hl (by simp; omega)).2) _ _ hf1
            have hx9 := (hx7H.out).keep (w' := w9) (P2 := fun k => w.heap.size ≤ k ∧ k ≠ w1.heap.size ∧ (Value.slice ad' (na + 1) c').ownBlock ≠ some k) (fun k hk => ⟨by omega, by omega, fun e => by
              rcases hnew9 k e with h | h
              · have h5 := (World.ownsRow.lt hownH.out k h).2; omega
              · omega⟩) (fun k hk hl => (hgrow9H.out.block k (by omega) (fun e => by have h5 := (World.ownsRow.lt hownH.out k e.symm).2; omega)).trans (hg78H.out.block k hl (by simp)))
            refine ⟨acc ++ [(sn, v)], a2, fl, ad', c', xs ++ (.string S1 :: cs), _, clock + 1, by rw [hlen2], rfl, by omega, by rw [hlen2]; omega, hT4H.out.symm, ?_, ?_, ?_, (hgrow9H.out.block _ (lt_of_block hmap8.out) (fun e => (hnewH.out _ e.symm).2 rfl)).trans hmap8.out, ?_, ?_, ?_⟩
            · rw [hlen2]; exact hown9H.out
            · rw [hlen2, hS1H.out]
              exact Flds.snoc (by rw [hslH.out]; omega) hx9 _ _ hf2
            · rw [hlen2]; exact hown9b
            · have h5 := hnamesH.out.push (s := sn) (c := clock)
              rw [List.map_append, ← hnsH.out]; exact h5
            · exact (hr7H.out.step (.grown hg78H.out (fun _ h => by cases h))).grown hgrow9H.out (fun k hk => by have := (hnewH.out k hk).1; omega)
            · refine (hstH.out.tailNew hs8H.out (by simp; omega)).tailNew (T2 := (Value.slice va na vc).ownBlock.toList) (.grown hgrow9H.out (fun k hk => by rw [hk]; simp)) (fun r hr => ?_)
              rw [Option.mem_toList] at hr
              exact .inr (hnewH.out r hr).1

/-- THE READER's CONTRACT. -/
theorem rd_all : ∀ fuel, RdF fuel := by
  intro fuel
  induction fuel with
  | zero => exact rd_fields 0 (fun g hg => by cases hg)
  | succ n ih => exact rd_fields (n + 1) (fun g hg => by cases hg; exact ih)
end Go.Proofs.YtbkmnhogfegmcaaDoor
