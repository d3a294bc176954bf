/- The disk: Look and Read. -/
import Derived.Test.YtlppoimdfclbaaaDisk
set_option linter.unusedVariables false
set_option linter.unusedSimpArgs false
namespace Go.Proofs.Ytlppoimdfclbaaa
open Go.RowKit

section
variable {T : List Nat} {g g1 : Nat → Nat} {w w1 : World} {r : Nat} {D : Dk} {bm bf : Nat} {sv lv : Value} {es : Array MapEntry} {clock : Nat} {ents : List (Int × Value × List UInt8)} {free : List Int} {fl : List (Int × Int)} {high ops since : Int}

theorem keysVals_append (a b : List (Int × Value × List UInt8)) : keysVals (a ++ b) = keysVals a ++ keysVals b := by simp [keysVals]
theorem keysVals_cons (t : Int × Value × List UInt8) (b : List (Int × Value × List UInt8)) : keysVals (t :: b) = (t.1, t.2.1) :: keysVals b := rfl

/-- A page in use, among the entries. -/
theorem DiskRaw.split (h : DiskRaw g w r D bm bf sv lv es clock ents free fl high ops since) {n : Int} {pg : List UInt8} (hm : (n, pg) ∈ D.pages) :
    ∃ pre v post, ents = pre ++ (n, v, pg) :: post ∧ (∀ t ∈ pre, t.1 ≠ n) ∧ (∀ t ∈ post, t.1 ≠ n) := by
  rw [h.pg] at hm
  simp only [keysPages, List.mem_map] at hm
  obtain ⟨t, ht, he⟩ := hm
  obtain ⟨pre, post, rfl⟩ := List.append_of_mem ht
  obtain ⟨n', v, pg'⟩ := t
  simp only [Prod.mk.injEq] at he
  obtain ⟨rfl, rfl⟩ := he
  have hnd := h.nodup
  simp only [keysOf, List.map_append, List.map_cons] at hnd
  have hnd2 := (List.nodup_append.1 hnd).1
  rw [List.nodup_append] at hnd2
  refine ⟨pre, v, post, rfl, fun t ht e => ?_, fun t ht e => ?_⟩
  · exact hnd2.2.2 t.1 (List.mem_map_of_mem ht) n' (List.mem_cons_self ..) e
  · exact (List.nodup_cons.1 hnd2.2.1).1 (by rw [← e]; exact List.mem_map_of_mem ht)

/-- What the map's lookup comes to. -/
theorem DiskRaw.look (h : DiskRaw g w r D bm bf sv lv es clock ents free fl high ops since) {n : Int} {pg : List UInt8} (hm : (n, pg) ∈ D.pages) :
    ∃ b cap, (Instr.lookup 65 (.map (some bm)) (.int .i64 n) true).run Try.prog w = .ok (.tuple #[.slice (some ⟨b, 0, none⟩) pg.length cap, .bool true]) w ∧ Row w (.slice (some ⟨b, 0, none⟩) pg.length cap) pg ∧ pg.length = D.page ∧ g b = r := by
  obtain ⟨pre, v, post, rfl, h1, h2⟩ := h.split hm
  have hp := h.rows (n, v, pg) (by simp)
  obtain ⟨k, hk, hg⟩ := hp.own
  simp only at hk hg
  rcases hp.row.2 with ⟨hv, _⟩ | ⟨b, cap, cur, hv, _⟩
  · simp only at hv; rw [hv] at hk; cases hk
  · simp only at hv
    subst hv
    obtain rfl : b = k := by simpa [Value.ownBlock] using hk
    refine ⟨b, cap, ?_, hp.row, hp.len, hg⟩
    have he := h.es
    rw [keysVals_append, keysVals_cons] at he
    exact run_lookup_found Try.underlying65 Try.underlying3 h.map he (fun t ht => by
      rw [keysVals, List.mem_map] at ht
      obtain ⟨t', ht', rfl⟩ := ht
      exact h1 t' ht')

theorem Row.page {v : Value} {l : List UInt8} {n : Nat} (h : Row w v l) (hn : l.length = n) (h0 : 0 < n) : ∃ b cap, v = .slice (some ⟨b, 0, none⟩) n cap ∧ n ≤ cap ∧ b < w.heap.size ∧ ∀ i (h : i < l.length), w.cell? ⟨b, i, none⟩ = some (.int .u8 (l[i].toNat : Int)) := by
  rcases h.bytes with ⟨rfl, rfl⟩ | ⟨b, o, cap, rfl, hc, hb, hcell⟩
  · simp at hn; omega
  · rcases h.2 with ⟨h', _⟩ | ⟨b', cap', cur, h', _⟩
    · cases h'
    · simp only [Value.slice.injEq, Option.some.injEq, Addr.mk.injEq, and_true] at h'
      obtain ⟨⟨rfl, rfl⟩, _, rfl⟩ := h'
      exact ⟨b, cap, by rw [hn], by omega, hb, fun i hi => by have := hcell i hi; rwa [Nat.zero_add] at this⟩

set_option maxRecDepth 100000 in
set_option maxHeartbeats 400000 in
theorem disk_look (h : DiskRaw g w r D bm bf sv lv es clock ents free fl high ops since) (n : Int) (pg : List UInt8) (hm : (n, pg) ∈ D.pages) :
    Calls Try.prog 70 #[.pointer (some ⟨r, 0, none⟩), .int .i64 n] w fun e w' => ∃ v k, e = .returned (.tuple #[v, .bool true]) ∧ Row w' v pg ∧ w.grownBy w' none ∧ v.ownBlock = some k ∧ w.heap.size ≤ k := by
  obtain ⟨b, cap, hlk, hrow, hlen, hgb⟩ := h.look hm
  have c2 : w.cell? ⟨r, 2, none⟩ = some (.map (some bm)) := h.cell rfl
  have hv := h.valid.hi
  have hH := Lib.hid h; clear h
  have hrowH := Lib.hid hrow; clear hrow
  have hlenH := Lib.hid hlen; clear hlen
  go_enter Try.func70, Try.ntmps70
  go_wp2_with (go_at_call 46; refine (disk_made hH.out).mono ?_; rintro e w' ⟨rfl, rfl⟩)
  refine (bytes_clone pg b 0 cap w (by rw [hlenH.out]; omega) hrowH.out.bytes).mono ?_
  rintro e w1 ⟨v, k, rfl, hr1, hg1, hk, hk1⟩
  go_wp2_with fail
  go_ret2
  exact ⟨v, k, rfl, hr1, hg1, hk, hk1⟩

/-- A page whose first bit is another. -/
def flip0 (pg : List UInt8) : List UInt8 := pg.set 0 (pg.headD 0 ^^^ 1)

theorem Row.stored {v : Value} {l : List UInt8} {b : Nat} (h : Row w v l) (hb : v.ownBlock = some b) (j : Nat) (c : UInt8) : Row (w.setCell ⟨b, j, none⟩ (.int .u8 (c.toNat : Int))) v (l.set j c) := by
  rcases h.2 with ⟨rfl, _⟩ | ⟨b', cap, cur, rfl, _⟩
  · cases hb
  · obtain rfl : b' = b := by simpa [Value.ownBlock] using hb
    have h1 := (World.ownsRow.stored h j (.int .u8 (c.toNat : Int))).1
    unfold Row
    rw [List.length_set, show byteVals (l.set j c) = (byteVals l).set j (.int .u8 (c.toNat : Int)) by simp [byteVals, List.map_set]]
    exact h1

/-- What Read brings. -/
inductive ReadOut (D : Dk) (pg : List UInt8) (w w' : World) : Ending → Prop where
  | io (h : D.clean = false) : ReadOut D pg w w' (.returned (.tuple #[.slice none 0 0, .int .i64 16]))
  | ok (v : Value) (k : Nat) (q : List UInt8) (hq : q = pg ∨ (D.clean = false ∧ q = flip0 pg)) (hr : Row w' v q) (hk : v.ownBlock = some k) (hk1 : w.heap.size ≤ k) : ReadOut D pg w w' (.returned (.tuple #[v, .int .i64 0]))

theorem DiskRaw.now (h : DiskRaw g w r D bm bf sv lv es clock ents free fl high ops since) (kind : Int) :
    Calls Try.prog 48 #[.agg #[.pointer (some ⟨r, 0, none⟩), lv], .int .i64 kind] w fun e w' => SomeBoolF fl e ∧ w.grownBy w' none :=
  (plan_now fl r lv since kind w h.flt h.fln (h.cell rfl)).mono fun e w' ⟨he, hg⟩ => ⟨⟨_, he, fun hl => by rw [hl]; simp⟩, hg⟩
theorem DiskRaw.nowD (h : DiskRaw g w r D bm bf sv lv es clock ents free fl high ops since) (kind : Int) :
    Calls Try.prog 48 #[.agg #[.pointer (some ⟨r, 0, none⟩), lv], .int .i64 kind] w fun e w' => e = .returned (.bool (decide ((since, kind) ∈ fl))) ∧ w.grownBy w' none :=
  plan_now fl r lv since kind w h.flt h.fln (h.cell rfl)

set_option maxRecDepth 100000 in
set_option maxHeartbeats 1000000 in
theorem disk_read (h : DiskAt g w r D) (hw : GWf g w) (n : Int) (pg : List UInt8) (hm : (n, pg) ∈ D.pages) :
    Calls Try.prog 66 #[.pointer (some ⟨r, 0, none⟩), .int .i64 n] w fun e w' => ReadOut D pg w w' e ∧ DiskAt g w' r D ∧ Step [r] g g w w' := by
  have hrlt := h.lt
  obtain ⟨bm, bf, sv, lv, es, clock, ents, free, fl, high, ops, since, h⟩ := h
  have hlenD : pg.length = D.page := (h.look hm).choose_spec.choose_spec.2.2.1
  have hpg0 := h.valid.lo
  have hlenH := Lib.hid hlenD; clear hlenD
  have hwH := Lib.hid hw; clear hw
  have hH := Lib.hid h; clear h
  go_enter Try.func66, Try.ntmps66
  go_wp2_with fail
  refine (disk_made hH.out).mono ?_
  rintro e w' ⟨rfl, rfl⟩
  go_wp2_with fail
  refine (disk_op hH.out).mono ?_
  rintro e w1 ⟨rfl, h1, hs1, _⟩
  have c8 : w1.cell? ⟨r, 8, none⟩ = some (.func (.func 48) #[.agg #[.pointer (some ⟨r, 0, none⟩), lv]] #[]) := h1.cell rfl
  have h1H := Lib.hid h1; clear h1
  have hs1H := Lib.hid hs1; clear hs1
  go_wp2_with fail
  refine (h1H.out.now 1).mono ?_
  rintro e w2 ⟨⟨b, rfl, hb⟩, hg2⟩
  have hs2 : Step [] g g w1 w2 := .grown hg2 (fun _ h => by cases h)
  have h2 := h1H.out.step hs2 (by simp)
  have hs2' := Lib.hid (hs1H.out.tail (hs2.mono (fun _ h => by cases h)))
  clear c8 hg2 hs2
  cases b with
  | true =>
    have hcl : D.clean = false := by
      cases hc : D.clean with
      | false => rfl
      | true => exact absurd (hb (h2.clean hc)) (by simp)
    clear hb
    have h2H := Lib.hid h2; clear h2
    go_wp2_with fail
    go_ret2
    exact ⟨.io hcl, ⟨_, _, _, _, _, _, _, _, _, _, _, _, h2H.out⟩, hs2'.out⟩
  | false =>
    clear hb
    have h2H := Lib.hid h2; clear h2
    go_wp2_with fail
    refine (disk_look h2H.out n pg hm).mono ?_
    rintro e w3 ⟨v, k, rfl, hr3, hg3, hk, hk3⟩
    have hs3 : Step [] g g w2 w3 := .grown hg3 (fun _ h => by cases h)
    have h3 := h2H.out.step hs3 (by simp)
    have hs3' := Lib.hid (hs2'.out.tail (hs3.mono (fun _ h => by cases h)))
    have hk3' : w.heap.size ≤ k := Nat.le_trans hs2'.out.size hk3
    clear hg3 hs3 hk3
    have c8 : w3.cell? ⟨r, 8, none⟩ = some (.func (.func 48) #[.agg #[.pointer (some ⟨r, 0, none⟩), lv]] #[]) := h3.cell rfl
    have h3H := Lib.hid h3; clear h3
    go_wp2_with fail
    refine (h3H.out.now 4).mono ?_
    rintro e w4 ⟨⟨b, rfl, hb⟩, hg4⟩
    have hs4 : Step [] g g w3 w4 := .grown hg4 (fun _ h => by cases h)
    have h4 := h3H.out.step hs4 (by simp)
    have hs4' := Lib.hid (hs3'.out.tail (hs4.mono (fun _ h => by cases h)))
    have hr4 : Row w4 v pg := hr3.step hs4 (fun _ _ h => by cases h)
    clear c8 hg4 hs4 hr3
    cases b with
    | true =>
      have hcl : D.clean = false := by
        cases hc : D.clean with
        | false => rfl
        | true => exact absurd (hb (h4.clean hc)) (by simp)
      clear hb
      have h4H := Lib.hid h4; clear h4
      obtain ⟨b, cap, rfl, hcap, hblt, hcell⟩ := hr4.page hlenH.out (by omega)
      obtain rfl : b = k := by simpa [Value.ownBlock] using hk
      have hgb : g b = b := hwH.out.2 b hk3'
      have h0 : 0 < pg.length := by rw [hlenH.out]; omega
      have c0 := hcell 0 h0
      have f0 : w4.frozen? ⟨b, 0, none⟩ = false := by
        have hr := hr4
        unfold Row at hr; rw [hlenH.out] at hr
        exact World.ownsRow.frozenAt hr 0
      have hx := pg[0].toNat_lt
      have hxv : ((pg[0] ^^^ 1).toNat : Int) = bits .xor .u8 (pg[0].toNat : Int) 1 := by
        have := u8_xor_nat pg[0].toNat 1 (by omega) (by omega)
        rw [show ((1 : Nat) : Int) = 1 from rfl] at this
        rw [this, UInt8.toNat_xor]; rfl
      have hhd : pg.headD 0 = pg[0] := by
        cases pg with
        | nil => simp at h0
        | cons c l => rfl
      have hst := Row.stored hr4 (b := b) rfl 0 (pg[0] ^^^ 1)
      rw [hxv] at hst
      have hr4H := Lib.hid hr4
      have hstH := Lib.hid hst
      have hhdH := Lib.hid hhd
      generalize pg[0].toNat = x0 at *
      clear hr4 hst hcell hhd hxv
      have i1 : (0 : Int) < (D.page : Int) := by omega
      go_wp2_with fail
      go_ret2
      have hs5 : Step [b] g g w4 (w4.setCell ⟨b, 0, none⟩ (.int .u8 (bits .xor .u8 (x0 : Int) 1))) := .set _ _ (by rw [hgb]; exact List.mem_singleton.2 rfl)
      refine ⟨.ok _ b (flip0 pg) (.inr ⟨hcl, rfl⟩) ?_ rfl hk3', ⟨_, _, _, _, _, _, _, _, _, _, _, _, h4H.out.step hs5 (by simp; omega)⟩, Step.transNew hwH.out hs4'.out hs5 (fun i hi => by rw [List.mem_singleton.1 hi]; exact .inr hk3')⟩
      unfold flip0; rw [hhdH.out]; exact hstH.out
    | false =>
      clear hb
      have h4H := Lib.hid h4; clear h4
      have hr4H := Lib.hid hr4; clear hr4
      go_wp2_with fail
      go_ret2
      exact ⟨.ok v k pg (.inl rfl) hr4H.out hk hk3', ⟨_, _, _, _, _, _, _, _, _, _, _, _, h4H.out⟩, hs4'.out⟩
end
end Go.Proofs.Ytlppoimdfclbaaa
