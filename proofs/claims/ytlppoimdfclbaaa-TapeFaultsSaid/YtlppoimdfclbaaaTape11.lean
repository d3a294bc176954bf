/- A Reader: take. -/
import Derived.Test.YtlppoimdfclbaaaTape10
set_option linter.unusedVariables false
set_option linter.unusedSimpArgs false
namespace Go.Proofs.Ytlppoimdfclbaaa
open Go.RowKit

def RPos (room : Nat) (S : List UInt8) (R : Rd) (pos : Nat) : Prop := pos ≤ S.length ∧ S.drop pos = R.data ++ S.drop (R.page * room)
structure PagesOk (D : Dk) (t : Tp) (S : List UInt8) : Prop where
  len : S.length ≤ t.pages.length * room D
  rng : ∀ n ∈ t.pages, 0 ≤ n ∧ n < 16384
  pg : ∀ i (h : i < t.pages.length), ∃ pg, (t.pages[i], pg) ∈ D.pages ∧ pg.length = D.page ∧ (pg = sealPage D.page (nextOf t.pages i) (chunk (room D) S i) ∨ (sumSaid pg ≠ sumIs pg ∧ D.clean = true))
def BadAt (D : Dk) (pages : List Int) (i : Nat) : Prop := ∃ (h : i < pages.length) (pg : List UInt8), (pages[i], pg) ∈ D.pages ∧ sumSaid pg ≠ sumIs pg

theorem chunk_len (R : Nat) (S : List UInt8) (i : Nat) : (chunk R S i).length ≤ R := by unfold chunk; rw [List.length_take]; omega
theorem chunk_drop (R : Nat) (S : List UInt8) (i : Nat) : S.drop (i * R) = chunk R S i ++ S.drop ((i + 1) * R) := by
  unfold chunk
  rw [Nat.add_mul, Nat.one_mul, ← List.drop_drop, List.take_append_drop]

section
variable {T : List Nat} {g g1 : Nat → Nat} {w w1 : World} {p rd rl : Nat} {t : Tp} {R : Rd} {pv dv : Value} {D : Dk} {L : Led} {S : List UInt8}

theorem RPos.turn {room pos : Nat} (h : RPos room S R pos) (hd : R.data = []) : RPos room S { R with page := R.page + 1, data := chunk room S R.page } pos := by
  refine ⟨h.1, ?_⟩
  rw [h.2, hd, List.nil_append]; exact chunk_drop room S R.page
theorem RPos.take {room pos : Nat} (h : RPos room S R pos) {k : Nat} (hk : k ≤ R.data.length) : RPos room S { R with data := R.data.drop k } (pos + k) ∧ (S.drop pos).take k = R.data.take k := by
  have h1 := congrArg List.length h.2
  rw [List.length_append, List.length_drop, List.length_drop] at h1
  refine ⟨⟨?_, ?_⟩, ?_⟩
  · have := h.1; omega
  · rw [← List.drop_drop, h.2, List.drop_append_of_le_length hk]
  · rw [h.2, List.take_append_of_le_length hk]

/-- A Reader that has read pos bytes of S. -/
structure RdSt (g : Nat → Nat) (w : World) (p : Nat) (t : Tp) (D : Dk) (R : Rd) (S : List UInt8) (pos : Nat) : Prop where
  tp : TpAt g w R.tp t
  rd : RdAt g w p R
  disk : DiskAt g w t.rd D
  pos : RPos (room D) S R pos
  le : R.page ≤ t.pages.length
  good : ∀ i, i < R.page → ¬ BadAt D t.pages i

/-- turn, of a tape that holds S. -/
inductive TurnS (D : Dk) (t : Tp) (R : Rd) (S : List UInt8) : Ending → Rd → Prop where
  | err (r : Int) (hr : (r = 16 ∧ D.clean = false) ∨ (r = 18 ∧ (D.clean = false ∨ ∃ i, BadAt D t.pages i))) : TurnS D t R S (.returned (.int .i64 r)) R
  | ok : TurnS D t R S (.returned (.int .i64 0)) { R with page := R.page + 1, data := chunk (room D) S R.page }

theorem rd_turnS {pos : Nat} (hg : GWf g w) (hs : RdSt g w p t D R S pos) (hok : PagesOk D t S) (hpd : p ≠ t.rd) (hpt : p ≠ R.tp) (htd : R.tp ≠ t.rd) (hd : R.data = []) (hi : pos < S.length) :
    Calls Try.prog 61 #[.pointer (some ⟨p, 0, none⟩)] w fun e w' => ∃ g' R', TurnS D t R S e R' ∧ RdSt g' w' p t D R' S pos ∧ Step [t.rd, p] g g' w w' := by
  have hlt : R.page < t.pages.length := by
    refine Nat.lt_of_not_le fun h => ?_
    have h1 := congrArg List.length hs.pos.2
    have h2 := Nat.mul_le_mul_right (room D) h
    have h3 := hok.len
    rw [hd, List.nil_append, List.length_drop, List.length_drop] at h1
    omega
  obtain ⟨pg, hm, hpl, hpg⟩ := hok.pg R.page hlt
  refine (rd_turn hg hs.disk hs.tp hs.rd hpd hpt htd hlt pg (chunk (room D) S R.page) hm (chunk_len _ _ _) hpg hpl hok.rng).mono ?_
  rintro e w' ⟨g', R', hout, hrd, hdisk, hst⟩
  have htp := hs.tp.step hst (by simp; exact ⟨htd, fun e => hpt e.symm⟩)
  cases hout with
  | err r hr =>
    refine ⟨g', R, .err r (hr.imp id (fun h => ⟨h.1, h.2.imp id (fun h => ⟨R.page, hlt, pg, hm, h⟩)⟩)), ⟨htp, hrd, hdisk, hs.pos, hs.le, hs.good⟩, hst⟩
  | ok hb =>
    refine ⟨g', _, .ok, ⟨htp, hrd, hdisk, hs.pos.turn hd, hlt, fun i hi hbad => ?_⟩, hst⟩
    by_cases e : i = R.page
    · subst e
      obtain ⟨_, q, hq, hs2⟩ := hbad
      rw [hs.disk.keys.inj hq hm] at hs2
      exact hb hs2
    · exact hs.good i (by simp only at hi; omega) hbad

/-- take's round. -/
structure TakeIn (g : Nat → Nat) (w : World) (p : Nat) (t : Tp) (D : Dk) (R : Rd) (S : List UInt8) (pos n : Nat) (b : Value) (wr : World) (g' : Nat → Nat) (R' : Rd) (bl : List UInt8) (ad : Option Addr) (cap : Nat) : Prop where
  beq : b = .slice ad bl.length cap
  le : bl.length ≤ n
  eq : bl = (S.drop pos).take bl.length
  row : Row wr b bl
  new : ∀ k, b.ownBlock = some k → w.heap.size ≤ k ∧ g' k = k
  st : RdSt g' wr p t D R' S (pos + bl.length)
  same : R'.tp = R.tp ∧ R'.rl = R.rl ∧ R'.left = R.left ∧ R'.over = R.over ∧ R'.broken = R.broken
  step : Step [t.rd, p] g g' w wr
def TakeRel (g : Nat → Nat) (w : World) (p : Nat) (t : Tp) (D : Dk) (R : Rd) (S : List UInt8) (pos n : Nat) (k : Nat) (b : Value) (wr : World) : Prop := ∃ g' R' bl ad cap, TakeIn g w p t D R S pos n b wr g' R' bl ad cap ∧ k = (n - bl.length) + (t.pages.length - R'.page)

theorem RdSt.drew {R' : Rd} {pos : Nat} (h : RdSt g w p t D R' S pos) : RdSt g w.drew p t D R' S pos :=
  ⟨h.tp.step (T := []) Step.drew (by simp), h.rd.step (T := []) Step.drew (by simp), h.disk.step (T := []) (g1 := g) (w1 := w.drew) Step.drew (by simp), h.pos, h.le, h.good⟩
theorem TakeRel.drew {wr : World} {b : Value} {pos n k : Nat} (h : TakeRel g w p t D R S pos n k b wr) : TakeRel g w p t D R S pos n k b wr.drew := by
  obtain ⟨g', R', bl, ad, cap, h, hk⟩ := h
  exact ⟨g', R', bl, ad, cap, ⟨h.beq, h.le, h.eq, h.row, h.new, h.st.drew, h.same, h.step.tail Step.drew⟩, hk⟩

theorem take_close {wr w3 : World} {R1 : Rd} {bl : List UInt8} {ad ad' : Option Addr} {pos n m cap c' bb bo dcap : Nat} (hg : GWf g w) (hst : RdSt g1 wr p t D R1 S (pos + bl.length)) (raw : RdRaw g1 wr p R1 (.slice (some ⟨bb, bo, none⟩) R1.data.length dcap))
    (hnew : ∀ k, (Value.slice ad bl.length cap).ownBlock = some k → w.heap.size ≤ k ∧ g1 k = k) (heq : bl = (S.drop pos).take bl.length) (hstep : Step [t.rd, p] g g1 w wr) (hsame : R1.tp = R.tp ∧ R1.rl = R.rl ∧ R1.left = R.left ∧ R1.over = R.over ∧ R1.broken = R.broken)
    (hm0 : 0 < m) (hmd : m ≤ R1.data.length) (hmn : bl.length + m ≤ n) (hcap : R1.data.length ≤ dcap)
    (hown : w3.ownsRow 0 5 1 (.slice ad' (bl.length + m) c') (bl.length + m) (byteVals bl ++ byteVals (R1.data.take m))) (hgrow : wr.grownBy w3 (Value.slice ad bl.length cap).ownBlock)
    (hat : (Value.slice ad' (bl.length + m) c').ownBlock = (Value.slice ad bl.length cap).ownBlock ∨ (Value.slice ad' (bl.length + m) c').ownBlock = some wr.heap.size)
    (hplt : p < w.heap.size) (htlt : R.tp < w.heap.size) (hdlt : t.rd < w.heap.size) (hpt : p ≠ R.tp) (hpd : p ≠ t.rd) :
    TakeRel g w p t D R S pos n ((n - (bl.length + m)) + (t.pages.length - R1.page)) (.slice ad' (bl.length + m) c') (w3.setCell ⟨p, 3, none⟩ (.slice (if dcap = m then some ⟨bb, bo, none⟩ else some ⟨bb, bo + m, none⟩) (R1.data.length - m) (dcap - m))) := by
  obtain ⟨ob, hob⟩ : ∃ ob, ob = (Value.slice ad bl.length cap).ownBlock := ⟨_, rfl⟩
  rw [← hob] at hgrow hat hnew
  have hg1 := hstep.wf hg
  have hs3 : Step ob.toList g1 g1 wr w3 := .grown hgrow (fun k hk => by rw [(hnew k hk).2, hk]; simp)
  have hsz := hstep.size
  have hpb : p ∉ ob.toList := by
    intro e; rw [Option.mem_toList] at e; have := (hnew p e).1; omega
  have hbb : g1 bb = p := raw.ownd bb rfl
  have hbp : bb ≠ p := fun e => raw.ne (by rw [← e]; rfl)
  have raw3 := raw.step hs3 hpb
  have hset : Step [p] g1 g1 w3 (w3.setCell ⟨p, 3, none⟩ (.slice (if dcap = m then some ⟨bb, bo, none⟩ else some ⟨bb, bo + m, none⟩) (R1.data.length - m) (dcap - m))) := .set _ _ (by rw [raw.own]; simp)
  have hs4 : Step (ob.toList ++ [p]) g1 g1 wr (w3.setCell ⟨p, 3, none⟩ (.slice (if dcap = m then some ⟨bb, bo, none⟩ else some ⟨bb, bo + m, none⟩) (R1.data.length - m) (dcap - m))) := (hs3.mono (fun r hr => List.mem_append_left _ hr)).trans hset (fun r hr => List.mem_append_right _ hr)
  have hno : ∀ r, r < w.heap.size → r ≠ p → r ∉ ob.toList ++ [p] := fun r h1 h2 e => by
    rw [List.mem_append, Option.mem_toList, List.mem_singleton] at e
    rcases e with e | e
    · have := (hnew r e).1; omega
    · exact h2 e
  have hdat : Bytes w3 (.slice (if dcap = m then some ⟨bb, bo, none⟩ else some ⟨bb, bo + m, none⟩) (R1.data.length - m) (dcap - m)) (R1.data.drop m) := by
    by_cases hc : dcap = m
    · have he : R1.data.drop m = [] := List.eq_nil_of_length_eq_zero (by rw [List.length_drop]; omega)
      rw [if_pos hc, he]
      rcases raw3.data with ⟨h, _⟩ | ⟨b', o', c'', h, hc', hbl, hcell⟩
      · cases h
      · cases h
        exact .inr ⟨_, _, _, by rw [show R1.data.length - m = 0 by omega]; rfl, by simp, hbl, fun i hi => by simp at hi⟩
    · rw [if_neg hc]
      have := raw3.data.drop (c2 := dcap - m) m hmd rfl
      rw [List.length_drop] at this; exact this
  have howb : (Value.slice (if dcap = m then some ⟨bb, bo, none⟩ else some ⟨bb, bo + m, none⟩) (R1.data.length - m) (dcap - m)).ownBlock = some bb := by split <;> rfl
  have hdat4 : Bytes (w3.setCell ⟨p, 3, none⟩ (.slice (if dcap = m then some ⟨bb, bo, none⟩ else some ⟨bb, bo + m, none⟩) (R1.data.length - m) (dcap - m))) (.slice (if dcap = m then some ⟨bb, bo, none⟩ else some ⟨bb, bo + m, none⟩) (R1.data.length - m) (dcap - m)) (R1.data.drop m) := by
    rcases hdat with h | ⟨b', o', c'', h, hc', hbl, hcell⟩
    · exact .inl h
    · refine .inr ⟨b', o', c'', h, hc', by simpa using hbl, fun i hi => ?_⟩
      have hb' : b' = bb := by
        have h1 := congrArg Value.ownBlock h
        rw [howb] at h1; cases h1; rfl
      rw [World.cell?_setCell_other _ _ _ _ (fun e => hbp (by rw [← hb']; exact (congrArg Addr.block e).symm))]
      exact hcell i hi
  have hrd4 : RdAt g1 (w3.setCell ⟨p, 3, none⟩ (.slice (if dcap = m then some ⟨bb, bo, none⟩ else some ⟨bb, bo + m, none⟩) (R1.data.length - m) (dcap - m))) p { R1 with data := R1.data.drop m } :=
    ⟨_, set_blk raw3.blk 3 _, raw.own, hdat4, fun k hk => by rw [howb] at hk; cases hk; exact hbb, fun e => by rw [howb] at e; cases e; exact hbp rfl⟩
  have htk := hst.pos.take (k := m) hmd
  have hlen : (bl ++ R1.data.take m).length = bl.length + m := by rw [List.length_append, List.length_take]; omega
  have hrow3 : Row w3 (.slice ad' (bl.length + m) c') (bl ++ R1.data.take m) := by
    unfold Row; rw [hlen]; simpa [byteVals] using hown
  have hrow4 := ownsRow_setOther hrow3 raw3.blk (by decide) (i := 3) (u := .slice (if dcap = m then some ⟨bb, bo, none⟩ else some ⟨bb, bo + m, none⟩) (R1.data.length - m) (dcap - m))
  refine ⟨g1, { R1 with data := R1.data.drop m }, bl ++ R1.data.take m, ad', c', ⟨by rw [hlen], by rw [hlen]; exact hmn, ?_, hrow4, fun k hk => ?_, ⟨?_, hrd4, hst.disk.step hs4 (hno _ hdlt (fun e => hpd e.symm)), ?_, hst.le, hst.good⟩, hsame, ?_⟩, by rw [hlen]⟩
  · rw [hlen, List.take_add, ← heq, List.drop_drop, htk.2]
  · rcases hat with h | h
    · exact hnew k (by rw [← h]; exact hk)
    · rw [h] at hk; cases hk; exact ⟨hsz, hg1.2 _ (Nat.le_refl _)⟩
  · have h1 : R1.tp = R.tp := hsame.1
    exact hst.tp.step hs4 (by rw [h1]; exact hno _ htlt (fun e => hpt e.symm))
  · have := htk.1
    rw [hlen, ← Nat.add_assoc]; exact this
  · refine Step.transNew hg hstep hs4 (fun r hr => ?_)
    rw [List.mem_append, Option.mem_toList, List.mem_singleton] at hr
    rcases hr with hr | hr
    · exact .inr (hnew r hr).1
    · left; rw [hr]; simp

inductive TakeOut (D : Dk) (t : Tp) (S : List UInt8) (pos n : Nat) (w w' : World) : Ending → Nat → Prop where
  | err (r : Int) (pos' : Nat) (hr : (r = 16 ∧ D.clean = false) ∨ (r = 18 ∧ (D.clean = false ∨ ∃ i, BadAt D t.pages i))) : TakeOut D t S pos n w w' (.returned (.tuple #[.slice none 0 0, .int .i64 r])) pos'
  | ok (v : Value) (hv : Row w' v ((S.drop pos).take n)) (hk : ∀ k, v.ownBlock = some k → w.heap.size ≤ k) : TakeOut D t S pos n w w' (.returned (.tuple #[v, .int .i64 0])) (pos + n)

set_option maxRecDepth 100000 in
set_option maxHeartbeats 4000000 in
theorem rd_take {pos : Nat} (n : Nat) (hg : GWf g w) (hs : RdSt g w p t D R S pos) (hok : PagesOk D t S) (hpd : p ≠ t.rd) (hpt : p ≠ R.tp) (htd : R.tp ≠ t.rd) (hn : pos + n ≤ S.length) (hS : S.length ≤ 1000000000) :
    Calls Try.prog 54 #[.pointer (some ⟨p, 0, none⟩), .int .i64 n] w fun e w' => ∃ g' R' pos', TakeOut D t S pos n w w' e pos' ∧ RdSt g' w' p t D R' S pos' ∧ (R'.tp = R.tp ∧ R'.rl = R.rl ∧ R'.left = R.left ∧ R'.over = R.over ∧ R'.broken = R.broken) ∧ Step [t.rd, p] g g' w w' := by
  have hrel0 : TakeRel g w p t D R S pos n (n + (t.pages.length - R.page)) (.slice none 0 0) w := ⟨g, R, [], none, 0, ⟨rfl, by simp, by simp, Row.nil _, fun k hk => (by cases hk), hs, ⟨rfl, rfl, rfl, rfl, rfl⟩, .refl _ _ _⟩, by simp⟩
  have hplt : p < w.heap.size := by obtain ⟨_, h⟩ := hs.rd; exact lt_of_block h.blk
  have htlt := hs.tp.lt
  have hdlt := hs.disk.lt
  have hrelH := Lib.hid hrel0
  have hgH := Lib.hid hg
  have hokH := Lib.hid hok
  clear hg hs hok hrel0
  go_enter Try.func54, Try.ntmps54
  go_wp2_with fail
  go_loopg [6] (n + (t.pages.length - R.page)) (fun k b wr => TakeRel g w p t D R S pos n k b wr)
  case atStart => exact hrelH.out
  case round =>
    obtain ⟨g1, R1, bl, ad, cap, hin, hk⟩ := hrel
    obtain ⟨rfl, hle, heq, hrow, hnew, hst, hsame, hstep⟩ := hin
    obtain ⟨dv, hrd⟩ := hst.rd
    obtain ⟨dad, dcap, rfl⟩ := hrd.data.len
    have c3 : wr.cell? ⟨p, 3, none⟩ = some (.slice dad R1.data.length dcap) := hrd.cell rfl
    have f0 := free_blk hrd.blk
    have hkH := Lib.hid hk
    have hrdH := Lib.hid hrd
    have heqH := Lib.hid heq
    have hrowH := Lib.hid hrow
    have hnewH := Lib.hid hnew
    have hstH := Lib.hid hst
    have hsameH := Lib.hid hsame
    have hstepH := Lib.hid hstep
    clear hk hrd heq hrow hnew hst hsame hstep
    by_cases hlt : bl.length < n
    · have hlt1 : (bl.length : Int) < (n : Int) := by omega
      by_cases hd0 : R1.data.length = 0
      · have hde : R1.data = [] := List.eq_nil_of_length_eq_zero hd0
        have hd1 : ((R1.data.length : Int) == 0) = true := by rw [beq_iff_eq]; omega
        clear hd0
        have hdeH := Lib.hid hde
        clear hde
        go_wp2_with fail
        refine (rd_turnS (hstepH.out.wf hgH.out) hstH.out hokH.out hpd (by rw [hsameH.out.1]; exact hpt) (by rw [hsameH.out.1]; exact htd) hdeH.out (by omega)).mono ?_
        rintro e w2 ⟨g2, R2, hout, hst2, hs2⟩
        have hS2 := hstepH.out.trans hs2 (fun _ h => h)
        have hap : ∀ k, (Value.slice ad bl.length cap).ownBlock = some k → g1 k ∉ [t.rd, p] := fun k hk e => by
          have h1 := hnewH.out k hk
          rw [h1.2] at e; simp at e; omega
        have hrow2 := hrowH.out.step hs2 hap
        have hnew2 : ∀ k, (Value.slice ad bl.length cap).ownBlock = some k → w.heap.size ≤ k ∧ g2 k = k := fun k hk => ⟨(hnewH.out k hk).1, own_step hs2 (Row.lt hrowH.out hk) (hnewH.out k hk).2 (by have := hap k hk; rw [(hnewH.out k hk).2] at this; exact this)⟩
        have hrow2H := Lib.hid hrow2
        have hnew2H := Lib.hid hnew2
        have hst2H := Lib.hid hst2
        have hS2H := Lib.hid hS2
        clear hap hrow2 hnew2 hst2 hs2 hS2 c3 f0
        have houtH := Lib.hid hout
        cases hout with
        | err r hr =>
          have hnr : (r == 0) = false := by rw [beq_eq_false_iff_ne]; omega
          have hnr2 : r ≠ 0 := by omega
          have hrH := Lib.hid hr
          clear hr
          go_wp2_with fail
          go_ret2
          exact ⟨g2, R1, pos + bl.length, .err r _ hrH.out, hst2H.out, hsameH.out, hS2H.out⟩
        | ok =>
          have hnext : TakeRel g w p t D R S pos n ((n - bl.length) + (t.pages.length - (R1.page + 1))) (.slice ad bl.length cap) w2 := ⟨g2, _, bl, ad, cap, ⟨rfl, hle, heqH.out, hrow2H.out, hnew2H.out, hst2H.out, hsameH.out, hS2H.out⟩, rfl⟩
          have hle2 : R1.page + 1 ≤ t.pages.length := hst2H.out.le
          have hnextH := Lib.hid hnext
          clear hnext
          go_wp2_with fail
          go_roundg ((n - bl.length) + (t.pages.length - (R1.page + 1)))
          case measure => have := hkH.out; omega
          case rel => exact hnextH.out
      · have hd1 : ((R1.data.length : Int) == 0) = false := by rw [beq_eq_false_iff_ne]; omega
        have hbb : ∃ bb bo, dad = some ⟨bb, bo, none⟩ ∧ R1.data.length ≤ dcap := by
          rcases hrdH.out.data with ⟨h1, _⟩ | ⟨bb, bo, c, h1, h2, _⟩
          · injection h1 with h1 h2 h3; omega
          · injection h1 with h1 h4 h3; exact ⟨bb, bo, h1, by rw [h3]; exact h2⟩
        obtain ⟨bb, bo, rfl, hcap⟩ := hbb
        obtain ⟨k, hkk⟩ : ∃ k : Nat, (n : Int) - (bl.length : Int) = (k : Int) := ⟨n - bl.length, by omega⟩
        obtain ⟨m, hm⟩ : ∃ m : Nat, m = min k R1.data.length := ⟨_, rfl⟩
        have hsrc : Src wr 1 (.slice (some ⟨bb, bo, none⟩) m dcap) m (byteVals (R1.data.take m)) := by
          have h := (hrdH.out.data.take m (by omega)).src
          rw [List.length_take, Nat.min_eq_left (by omega)] at h
          exact h
        have hsrcH := Lib.hid hsrc
        have hmH := Lib.hid hm
        have hpb : (Value.slice ad bl.length cap).ownBlock ≠ some p := fun e => by have := (hnewH.out p e).1; omega
        have hpbH := Lib.hid hpb
        have hplt2 : p < wr.heap.size := Nat.lt_of_lt_of_le hplt hstepH.out.size
        have hd0H := Lib.hid hd0
        clear hsrc hd0 hpb
        by_cases hmin : k ≤ R1.data.length
        · have hmin1 : (k : Int) ≤ (R1.data.length : Int) := by omega
          have hmin2 : (k : Int) ≤ (dcap : Int) := by omega
          have hmk : m = k := by omega
          subst hmk
          clear hm
          have hm0 : 0 < m := by omega
          have hmn : bl.length + m ≤ n := by omega
          have hm0H := Lib.hid hm0
          have hmnH := Lib.hid hmn
          clear hm0 hmn
          have hdr : R1.data.length ≤ 1000000000 := by have h1 := congrArg List.length hstH.out.pos.2; rw [List.length_append, List.length_drop] at h1; omega
          go_wp2_with (at_builtin; obtain ⟨i0, hi, hz0, hz1, hz2⟩ := info_parts info_u8; refine wpList_app rfl _ _ 35 rfl 5 i0 (.int .u8 0) 1 1 Try.underlying35 hi hz0 hz1 hz2 rfl (by decide) (.slice ad bl.length cap) bl.length (byteVals bl) (by rfl) hrowH.out (.slice (some ⟨bb, bo, none⟩) m dcap) m (byteVals (R1.data.take m)) (by rfl) hsrcH.out (byteVals_one _) (by omega) (by omega) ?_; clear hi hz0 hz1 hz2; intro ad' c' w3 hown hgrow hnil hat; have c6 : w3.cell? ⟨p, 3, none⟩ = some (.slice (some ⟨bb, bo, none⟩) R1.data.length dcap) := (World.cell?_of_block (hgrow.block p hplt2 (Ne.symm hpbH.out))).trans c3; have f6 : w3.frozen? ⟨p, 3, none⟩ = false := (World.frozen?_of_block (hgrow.block p hplt2 (Ne.symm hpbH.out))).trans (f0 3); have hownH := Lib.hid hown; have hgrowH := Lib.hid hgrow; have hatH := Lib.hid hat; clear hown hgrow hnil hat)
          all_goals
            go_roundg ((n - (bl.length + m)) + (t.pages.length - R1.page))
            case measure => have := hkH.out; have := hm0H.out; have := hmnH.out; omega
            case rel =>
              have hcl := take_close hgH.out hstH.out hrdH.out hnewH.out heqH.out hstepH.out hsameH.out hm0H.out hmin hmnH.out hcap hownH.out hgrowH.out hatH.out hplt htlt hdlt hpt hpd
              by_cases hdm : dcap = m
              · rw [if_pos hdm, hdm, Nat.sub_self] at hcl; first | exact hcl | (exfalso; omega)
              · rw [if_neg hdm] at hcl; first | exact hcl | (exfalso; omega)
        · have hmin1 : ¬ (k : Int) ≤ (R1.data.length : Int) := by omega
          have hmin2 : (R1.data.length : Int) ≤ (dcap : Int) := by omega
          have hmin3 : R1.data.length ≤ k := by omega
          have hmk : m = R1.data.length := by omega
          rw [hmk] at hsrcH
          clear hm hmk
          have hm0 : 0 < R1.data.length := by have := hd0H.out; omega
          have hmn : bl.length + R1.data.length ≤ n := by omega
          have hm0H := Lib.hid hm0
          have hmnH := Lib.hid hmn
          clear hm0 hmn
          have hdr : R1.data.length ≤ 1000000000 := by have h1 := congrArg List.length hstH.out.pos.2; rw [List.length_append, List.length_drop] at h1; omega
          go_wp2_with (at_builtin; obtain ⟨i0, hi, hz0, hz1, hz2⟩ := info_parts info_u8; refine wpList_app rfl _ _ 35 rfl 5 i0 (.int .u8 0) 1 1 Try.underlying35 hi hz0 hz1 hz2 rfl (by decide) (.slice ad bl.length cap) bl.length (byteVals bl) (by rfl) hrowH.out (.slice (some ⟨bb, bo, none⟩) R1.data.length dcap) R1.data.length (byteVals (R1.data.take R1.data.length)) (by rfl) hsrcH.out (byteVals_one _) (by omega) (by omega) ?_; clear hi hz0 hz1 hz2; intro ad' c' w3 hown hgrow hnil hat; have c6 : w3.cell? ⟨p, 3, none⟩ = some (.slice (some ⟨bb, bo, none⟩) R1.data.length dcap) := (World.cell?_of_block (hgrow.block p hplt2 (Ne.symm hpbH.out))).trans c3; have f6 : w3.frozen? ⟨p, 3, none⟩ = false := (World.frozen?_of_block (hgrow.block p hplt2 (Ne.symm hpbH.out))).trans (f0 3); have hownH := Lib.hid hown; have hgrowH := Lib.hid hgrow; have hatH := Lib.hid hat; clear hown hgrow hnil hat)
          all_goals
            go_roundg ((n - (bl.length + R1.data.length)) + (t.pages.length - R1.page))
            case measure => have := hkH.out; have := hm0H.out; have := hmnH.out; omega
            case rel =>
              have hcl := take_close (m := R1.data.length) hgH.out hstH.out hrdH.out hnewH.out heqH.out hstepH.out hsameH.out hm0H.out (Nat.le_refl _) hmnH.out hcap hownH.out hgrowH.out hatH.out hplt htlt hdlt hpt hpd
              rw [Nat.sub_self] at hcl
              by_cases hdm : dcap = R1.data.length
              · rw [if_pos hdm, hdm, Nat.sub_self] at hcl; first | exact hcl | (exfalso; omega)
              · rw [if_neg hdm] at hcl; first | exact hcl | (exfalso; omega)
    · have hlt1 : ¬ (bl.length : Int) < (n : Int) := by omega
      go_wp2_with fail
      all_goals go_outline
      go_ret2
      have hbn : bl.length = n := by omega
      refine ⟨g1, R1, pos + bl.length, ?_, hstH.out, hsameH.out, hstepH.out⟩
      have heq2 := heqH.out
      have hrow2 := hrowH.out
      have hnew2 := hnewH.out
      rw [hbn] at heq2 ⊢
      exact .ok _ (by rw [← heq2]; rw [hbn] at hrow2; exact hrow2) (fun k hk => by rw [hbn] at hnew2; exact (hnew2 k hk).1)
end
end Go.Proofs.Ytlppoimdfclbaaa
