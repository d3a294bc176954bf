/- Two Writers on one disk. -/
import Derived.Test.YtlppoimdfclbaaaLawNeed
set_option linter.unusedVariables false
set_option linter.unusedSimpArgs false
namespace Go.Proofs.Ytlppoimdfclbaaa
open Go.RowKit

theorem WInv.keep {D D' : Dk} {W : Wr} {S : List UInt8} {o o' : List Int} (h : WInv D W S) (hd : DStep D D' o o') (hn : ∀ n ∈ W.pages, n ∉ o) : WInv D' W S := by
  have hr : room D' = room D := by unfold room; rw [hd.page]
  refine ⟨⟨h.1.nodup, fun n hm => ?_, h.1.none, by rw [hr]; exact h.1.lo, by rw [hr]; exact h.1.hi, by rw [hr]; exact h.1.data, fun i hi => ?_⟩, by rw [hr]; exact h.2⟩
  · obtain ⟨pg, hp⟩ := h.1.inD n hm
    exact ⟨pg, hd.keep _ hp (hn n hm)⟩
  · rw [hr, hd.page]
    exact hd.keep _ (h.1.full i hi) (hn _ (List.getElem_mem _))
theorem Laid.keep {D D' : Dk} {pages : List Int} {S : List UInt8} {o o' : List Int} (h : Laid D pages S) (hd : DStep D D' o o') (hn : ∀ n ∈ pages, n ∉ o) : Laid D' pages S := by
  have hr : room D' = room D := by unfold room; rw [hd.page]
  refine ⟨h.nodup, by rw [hr]; exact h.hi, by rw [hr]; exact h.lo, fun i hi => ?_⟩
  rw [hr, hd.page]
  exact hd.keep _ (h.lie i hi) (hn _ (List.getElem_mem _))
/-- Pages that are none of a Writer's stay none. -/
theorem DStep.stay {D D' : Dk} {o o' l : List Int} (hd : DStep D D' o o') (hl : ∀ n ∈ l, ∃ pg, (n, pg) ∈ D.pages) (hn : ∀ n ∈ l, n ∉ o) : ∀ n ∈ l, n ∉ o' := by
  intro n hm ho
  rcases hd.fresh n ho with h | h
  · exact hn n hm h
  · obtain ⟨pg, hp⟩ := hl n hm
    exact h _ hp rfl
/-- A Writer has no more pages than it needs. -/
theorem WInv.few {D : Dk} {W : Wr} {S : List UInt8} (h : WInv D W S) {n : Nat} (hn : S.length ≤ n * room D) (hr : 0 < room D) : W.pages.length ≤ n + 1 := by
  by_cases hp : W.pages = []
  · simp [hp]
  · have h1 := h.2 hp
    have h2 : (W.pages.length - 1) * room D < n * room D := Nat.lt_of_lt_of_le h1 hn
    have := Nat.lt_of_mul_lt_mul_right h2
    omega

/-- A Writer that is open. -/
structure WIn (g : Nat → Nat) (w : World) (rd rl : Nat) (D : Dk) (p : Nat) (W : Wr) (S : List UInt8) : Prop where
  wrt : WrAt g w p W
  rdE : W.rd = rd
  rlE : W.rl = rl
  over : W.over = false
  inv : WInv D W S

section
variable {T : List Nat} {g g1 g' : Nat → Nat} {w w1 wr : World} {rd rl p q i j : Nat} {D D' : Dk} {L : Led} {V W : Wr} {S : List UInt8} {us vs : List (List UInt8)} {ad bd : Option Addr}
theorem WIn.step (h : WIn g w rd rl D p W S) (hs : Step T g g1 w w1) (hp : p ∉ T) : WIn g1 w1 rd rl D p W S := ⟨h.wrt.step hs hp, h.rdE, h.rlE, h.over, h.inv⟩
theorem WIn.disk {o o' : List Int} (h : WIn g w rd rl D p W S) (hd : DStep D D' o o') (hn : ∀ n ∈ W.pages, n ∉ o) : WIn g w rd rl D' p W S := ⟨h.wrt, h.rdE, h.rlE, h.over, h.inv.keep hd hn⟩

/-- Records few and short. -/
structure Small (ls : List (List UInt8)) : Prop where
  many : ls.length ≤ 100
  sum : lenSum ls ≤ 10000
theorem Small.len {ls : List (List UInt8)} (h : Small ls) {l : List UInt8} (hl : l ∈ ls) : l.length ≤ 1048640 := by
  have := lenSum_mem hl
  have := h.sum
  omega
theorem Small.stream {ls : List (List UInt8)} (h : Small ls) : (streamOf ls).length ≤ 10400 := by
  rw [stream_len]
  have := h.sum
  have := h.many
  omega

structure TwoIn (g : Nat → Nat) (w : World) (rd rl : Nat) (us vs : List (List UInt8)) (p q : Nat) (wr : World) (g' : Nat → Nat) (D : Dk) (L : Led) (V W : Wr) (i j : Nat) : Prop where
  v : WIn g' wr rd rl D p V (streamOf (us.take i))
  u : WIn g' wr rd rl D q W (streamOf (vs.take j))
  vc : V.count = i
  uc : W.count = j
  apart : ∀ n ∈ V.pages, n ∉ W.pages
  disk : DiskAt g' wr rd D
  led : LedgerAt g' wr rl L
  held : L.held = 128
  many : D.pages.length = V.pages.length + W.pages.length
  page : D.page = 64
  most : D.most = 500
  clean : D.clean = true
  ne : p ≠ q ∧ p ≠ rd ∧ p ≠ rl ∧ q ≠ rd ∧ q ≠ rl ∧ rd ≠ rl
  new : w.heap.size ≤ rd ∧ w.heap.size ≤ rl ∧ w.heap.size ≤ p ∧ w.heap.size ≤ q
  step : Step [] g g' w wr

theorem TwoIn.swap (h : TwoIn g w rd rl us vs p q wr g' D L V W i j) : TwoIn g w rd rl vs us q p wr g' D L W V j i where
  v := h.u
  u := h.v
  vc := h.uc
  uc := h.vc
  apart := fun n h1 h2 => h.apart n h2 h1
  disk := h.disk
  led := h.led
  held := h.held
  many := by rw [h.many]; omega
  page := h.page
  most := h.most
  clean := h.clean
  ne := ⟨fun e => h.ne.1 e.symm, h.ne.2.2.2.1, h.ne.2.2.2.2.1, h.ne.2.1, h.ne.2.2.1, h.ne.2.2.2.2.2⟩
  new := ⟨h.new.1, h.new.2.1, h.new.2.2.2, h.new.2.2.1⟩
  step := h.step

theorem TwoIn.add (hg : GWf g w) (hb : BR [] g w ad us) (ha : Small us) (hbs : Small vs) (h : TwoIn g w rd rl us vs p q wr g' D L V W i j) (hi : i < us.length) :
    ∃ b o a ci, ad = some ⟨b, o, none⟩ ∧ wr.cell? ⟨b, o + i, none⟩ = some (.slice a us[i].length ci) ∧
      Calls Try.prog 15 #[.pointer (some ⟨p, 0, none⟩), .slice a us[i].length ci] wr fun e w4 => e = .returned (.int .i64 0) ∧ ∃ g4 D4 L4 V4, TwoIn g w rd rl us vs p q w4 g4 D4 L4 V4 W (i + 1) j := by
  obtain ⟨b, o, a, ci, hae, hcell, hby, hap⟩ := (hb.step h.step (by simp)).row i hi
  refine ⟨b, o, a, ci, hae, hcell, ?_⟩
  obtain ⟨hwrt, rfl, rfl, hov, hinv⟩ := h.v
  have hpage := h.page
  have hheld := h.held
  have hmany := ha.many
  have hroom : room D = 54 := by unfold room; rw [hpage]
  refine (tape_add (W := V) (streamOf (us.take i)) us[i] (h.step.wf hg) h.disk h.led hwrt hov h.ne.2.1 h.ne.2.2.1 h.ne.2.2.2.2.2 hinv (by rw [hpage, hheld]; decide) a ci (ha.len (List.getElem_mem _)) hby (by rw [h.vc]; omega) (by rw [h.vc]; omega)).mono ?_
  rintro e w4 ⟨g4, D4, L4, hout, hd4, hL4, hs4⟩
  have hsucc := stream_take_succ hi
  have hS4 : Step [] g g4 w w4 := Step.transNew hg h.step hs4 (fun r hr => by
    simp only [List.mem_cons, List.not_mem_nil, or_false] at hr
    rcases hr with rfl | rfl | rfl
    · exact .inr h.new.1
    · exact .inr h.new.2.1
    · exact .inr h.new.2.2.1)
  have hqT : q ∉ [V.rd, V.rl, p] := by
    simp only [List.mem_cons, List.not_mem_nil, or_false]
    rintro (e | e | e)
    · exact h.ne.2.2.2.1 e
    · exact h.ne.2.2.2.2.1 e
    · exact h.ne.1 e.symm
  cases hout with
  | @ok _ V4 hw4 hi4 hr4 hds4 =>
    have hst := hds4.stay (l := W.pages) h.u.inv.1.inD (fun n h1 h2 => h.apart n h2 h1)
    refine ⟨rfl, g4, D4, _, V4, ⟨⟨hw4, hr4.1, hr4.2.1, hr4.2.2.2, by rw [hsucc]; exact hi4⟩, (h.u.step hs4 hqT).disk hds4 (fun n h1 h2 => h.apart n h2 h1), by rw [hr4.2.2.1, h.vc]; simp, h.uc, fun n h1 h2 => hst n h2 h1, hd4, hL4, hheld, ?_, hds4.page.trans hpage, hds4.most.trans h.most, hds4.clean.trans h.clean, h.ne, h.new, hS4⟩⟩
    have h1 := hds4.count
    have h2 := h.many
    omega
  | bad r hr hds4 ho why =>
    exfalso
    obtain ⟨k, h1, h2⟩ := why h.clean
    have h3 := h.many
    have h4 := h.most
    have h5 := stream_take_le us (i + 1)
    have h6 := ha.stream
    have h7 := h.u.inv.few (n := 193) (by
      have h8 := stream_take_le vs j
      have h9 := hbs.stream
      rw [hroom]; omega) (by rw [hroom]; decide)
    rw [hsucc] at h5
    rw [hroom] at h2
    omega

/-- The first one is closed. -/
theorem TwoIn.close (hg : GWf g w) (h : TwoIn g w rd rl us vs p q wr g' D L V W us.length j) :
    Calls Try.prog 16 #[.pointer (some ⟨p, 0, none⟩)] wr fun e w4 => ∃ t g4 D4, e = .returned (.tuple #[.pointer (some ⟨t, 0, none⟩), .int .i64 0]) ∧ wr.heap.size ≤ t ∧ Laid D4 V.pages (streamOf us) ∧ DStep D D4 V.pages V.pages ∧ TpAt g4 w4 t ⟨rd, V.pages, us.length, false⟩ ∧
      DiskAt g4 w4 rd D4 ∧ LedgerAt g4 w4 rl ⟨L.budget, L.held - 64, L.high⟩ ∧ WIn g4 w4 rd rl D4 q W (streamOf (vs.take j)) ∧ Step [] g g4 w w4 := by
  obtain ⟨hwrt, rfl, rfl, hov, hinv⟩ := h.v
  have hpage := h.page
  have hheld := h.held
  rw [List.take_length] at hinv
  refine (tape_close (W := V) (streamOf us) (h.step.wf hg) h.disk h.led hwrt hov h.ne.2.1 h.ne.2.2.1 h.ne.2.2.2.2.2 hinv (by rw [hpage, hheld]; decide)).mono ?_
  rintro e w4 ⟨g4, D4, hout, hd4, hL4, ho4, hs4⟩
  have hS4 : Step [] g g4 w w4 := Step.transNew hg h.step hs4 (fun r hr => by
    simp only [List.mem_cons, List.not_mem_nil, or_false] at hr
    rcases hr with rfl | rfl | rfl
    · exact .inr h.new.1
    · exact .inr h.new.2.1
    · exact .inr h.new.2.2.1)
  have hqT : q ∉ [V.rd, V.rl, p] := by
    simp only [List.mem_cons, List.not_mem_nil, or_false]
    rintro (e | e | e)
    · exact h.ne.2.2.2.1 e
    · exact h.ne.2.2.2.2.1 e
    · exact h.ne.1 e.symm
  rw [hpage] at hL4
  cases hout with
  | ok t ht hl hds4 htp =>
    rw [h.vc] at htp
    exact ⟨t, g4, D4, rfl, ht, hl, hds4, htp, hd4, hL4, (h.u.step hs4 hqT).disk hds4 (fun n h1 h2 => h.apart n h2 h1), hS4⟩
  | io hc hds4 => rw [h.clean] at hc; cases hc

/-- A Writer is closed where there are no faults. -/
theorem WIn.close (hg : GWf g w) (h : WIn g w rd rl D q W (streamOf vs)) (hc : W.count = vs.length) (hd : DiskAt g w rd D) (hL : LedgerAt g w rl L) (hqd : q ≠ rd) (hql : q ≠ rl) (hdl : rd ≠ rl) (hcl : D.clean = true) (hheld : (D.page : Int) ≤ L.held) :
    Calls Try.prog 16 #[.pointer (some ⟨q, 0, none⟩)] w fun e w4 => ∃ t g4 D4, e = .returned (.tuple #[.pointer (some ⟨t, 0, none⟩), .int .i64 0]) ∧ w.heap.size ≤ t ∧ Laid D4 W.pages (streamOf vs) ∧ DStep D D4 W.pages W.pages ∧ TpAt g4 w4 t ⟨rd, W.pages, vs.length, false⟩ ∧
      DiskAt g4 w4 rd D4 ∧ LedgerAt g4 w4 rl ⟨L.budget, L.held - D.page, L.high⟩ ∧ Step [rd, rl, q] g g4 w w4 := by
  obtain ⟨hwrt, rfl, rfl, hov, hinv⟩ := h
  refine (tape_close (W := W) (streamOf vs) hg hd hL hwrt hov hqd hql hdl hinv hheld).mono ?_
  rintro e w4 ⟨g4, D4, hout, hd4, hL4, ho4, hs4⟩
  cases hout with
  | ok t ht hl hds4 htp =>
    rw [hc] at htp
    exact ⟨t, g4, D4, rfl, ht, hl, hds4, htp, hd4, hL4, hs4⟩
  | io hc hds4 => rw [hcl] at hc; cases hc

/-- A Reader that has read so many records. -/
structure RIn (g : Nat → Nat) (w : World) (p tp rl : Nat) (t : Tp) (D : Dk) (us : List (List UInt8)) (R : Rd) (j : Nat) : Prop where
  st : RdSt g w p t D R (streamOf us) (streamOf (us.take j)).length
  fld : R.tp = tp ∧ R.rl = rl ∧ R.left = (us.length : Int) - j ∧ R.over = false ∧ R.broken = false

theorem RIn.next {tp : Nat} {t : Tp} {R : Rd} (hg : GWf g w) (h : RIn g w p tp rl t D us R j) (hL : LedgerAt g w rl L) (hlaid : Laid D t.pages (streamOf us)) (hcl : D.clean = true) (hs : Small us) (hpd : p ≠ t.rd) (hpl : p ≠ rl) (hpt : p ≠ tp) (htd : tp ≠ t.rd) (htl : tp ≠ rl) (hdl : t.rd ≠ rl) (hheld : (D.page : Int) ≤ L.held) (hj : j < us.length) :
    Calls Try.prog 18 #[.pointer (some ⟨p, 0, none⟩)] w fun e w' => ∃ g' R' a c, e = .returned (.tuple #[.slice a us[j].length c, .bool true, .int .i64 0]) ∧ Row w' (.slice a us[j].length c) us[j] ∧ RIn g' w' p tp rl t D us R' (j + 1) ∧ LedgerAt g' w' rl L ∧ Step [t.rd, rl, p] g g' w w' := by
  obtain ⟨hst, rfl, rfl, hleft, hov, hbr⟩ := h
  have hlen := hs.many
  refine (rd_next us[j] (streamOf (us.drop (j + 1))) hg hst hL (hlaid.ok (hlaid.range hst.disk) hst.disk.valid) hpd hpl hpt htd htl hdl hheld hov hbr (by omega) (by omega) (by have := hs.stream; omega) (hs.len (List.getElem_mem _)) (stream_drop hj)).mono ?_
  rintro e w' ⟨g', L', hout, hd', ht', hL', hs'⟩
  cases hout with
  | ok v R' hv hk hst' hR =>
    obtain ⟨a, c, rfl⟩ := hv.len
    refine ⟨g', R', a, c, rfl, hv, ⟨?_, hR.1, hR.2.1, by rw [hR.2.2.1]; omega, hR.2.2.2.1.trans hov, hR.2.2.2.2.trans hbr⟩, hL', hs'⟩
    have hpos : (streamOf (us.take j)).length + 4 + us[j].length = (streamOf (us.take (j + 1))).length := by
      rw [stream_take_succ hj, List.length_append, recOf, List.length_append, leBytes_length]; omega
    rw [hpos] at hst'
    exact hst'
  | err r hr =>
    exfalso
    rcases hr with ⟨_, h⟩ | ⟨_, h | ⟨i, h⟩⟩
    · rw [hcl] at h; cases h
    · rw [hcl] at h; cases h
    · exact hlaid.notBad hst.disk.valid hst.disk.keys i h
end
end Go.Proofs.Ytlppoimdfclbaaa
