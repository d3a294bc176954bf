/- A Writer: put. -/
import Derived.Test.YtlppoimdfclbaaaTapeL
set_option linter.unusedVariables false
set_option linter.unusedSimpArgs false
namespace Go.Proofs.Ytlppoimdfclbaaa
open Go.RowKit

section
variable {T : List Nat} {g g1 : Nat → Nat} {w w1 : World} {p : Nat} {W : Wr} {pv dv : Value} {D : Dk}

theorem Bytes.take {b o c : Nat} {l : List UInt8} (h : Bytes w (.slice (some ⟨b, o, none⟩) l.length c) l) (k : Nat) (hk : k ≤ l.length) : Bytes w (.slice (some ⟨b, o, none⟩) (l.take k).length c) (l.take k) := by
  rcases h with ⟨h, _⟩ | ⟨b', o', c', h, hc, hb, hcell⟩
  · cases h
  · cases h
    refine .inr ⟨_, _, _, rfl, by rw [List.length_take]; omega, hb, fun i hi => ?_⟩
    rw [List.length_take] at hi
    rw [List.getElem_take]; exact hcell i (by omega)
theorem Bytes.drop {b o c c2 : Nat} {l : List UInt8} (h : Bytes w (.slice (some ⟨b, o, none⟩) l.length c) l) (k : Nat) (hk : k ≤ l.length) (hc2 : c2 = c - k) : Bytes w (.slice (some ⟨b, o + k, none⟩) (l.drop k).length c2) (l.drop k) := by
  rcases h with ⟨h, _⟩ | ⟨b', o', c', h, hc, hb, hcell⟩
  · cases h
  · cases h
    refine .inr ⟨_, _, _, rfl, by rw [List.length_drop]; omega, hb, fun i hi => ?_⟩
    rw [List.length_drop] at hi
    rw [List.getElem_drop, Nat.add_assoc]; exact hcell (k + i) (by omega)

/-- Bytes are put behind those of a Writer. -/
theorem WrRaw.appendData (h : WrRaw g w p W pv dv) {c : List UInt8} {w1 : World} {ad' : Option Addr} {n' c' : Nat} (hn : n' = W.data.length + c.length)
    (hown : w1.ownsRow 0 5 1 (.slice ad' n' c') n' (byteVals W.data ++ byteVals c)) (hgw : w.grownBy w1 dv.ownBlock)
    (hat : (Value.slice ad' n' c').ownBlock = dv.ownBlock ∨ (Value.slice ad' n' c').ownBlock = some w.heap.size) :
    WrRaw (giveTo g (.slice ad' n' c') p) (w1.setCell ⟨p, 5, none⟩ (.slice ad' n' c')) p { W with data := W.data ++ c } pv (.slice ad' n' c') ∧
      Step [p] g (giveTo g (.slice ad' n' c') p) w (w1.setCell ⟨p, 5, none⟩ (.slice ad' n' c')) := by
  have hs1 : Step [p] g g w w1 := .grown hgw (fun k hk => by rw [h.ownd k hk]; exact List.mem_singleton.2 rfl)
  have hpne : some p ≠ dv.ownBlock := fun e => ownsRow_ne h.data e.symm h.blk (by decide) rfl
  have hb1 : w1.heap[p]? = some (.cells (wrCells W pv dv) 77 (0, 0)) := by rw [hgw.block p (lt_of_block h.blk) hpne]; exact h.blk
  have hd1 : IRow w1 pv W.pages := h.pages.kept hgw (by
    cases hb : pv.ownBlock with
    | none => exact .inl rfl
    | some k =>
      right
      intro e
      rcases h.data.2 with ⟨rfl, _⟩ | ⟨gb, cap, cur, rfl, _, hg, _⟩
      · cases e
      · exact ownsRow_ne h.pages (k := k) hb hg (by decide) (by cases e; rfl))
  have hrow : Row w1 (.slice ad' n' c') (W.data ++ c) := by
    subst hn; unfold Row; simpa [byteVals] using hown
  have hs2 : Step [p] g g w (w1.setCell ⟨p, 5, none⟩ (.slice ad' n' c')) := hs1.tail (.set _ _ (by rw [h.own]; exact List.mem_singleton.2 rfl))
  refine ⟨⟨?_, giveTo_keep h.own, ownsRow_setOther hd1 hb1 (by decide), ownsRow_setOther hrow hb1 (by decide), fun k hk => giveTo_keep (h.ownp k hk), fun k hk => giveTo_same hk, h.short⟩, hs2.giveTo (fun k hk => ⟨?_, ?_⟩) (Nat.lt_of_lt_of_le (lt_of_block h.blk) hs2.size)⟩
  · exact set_blk hb1 5 _
  · rcases hat with hat | hat
    · right; rw [hat] at hk; rw [h.ownd k hk]; exact List.mem_singleton.2 rfl
    · left; rw [hat] at hk; cases hk; simp
  · have := (World.ownsRow.lt hrow k hk).2
    simpa using this
theorem WrRaw.appendedData (h : WrRaw g w p W pv dv) (hgw : w.grownBy w1 dv.ownBlock) : w1.heap[p]? = some (.cells (wrCells W pv dv) 77 (0, 0)) := by
  rw [hgw.block p (lt_of_block h.blk) (fun e => ownsRow_ne h.data e.symm h.blk (by decide) rfl)]; exact h.blk

/-- The round's middle: there is room. -/
structure PutMid (g : Nat → Nat) (w : World) (p : Nat) (D : Dk) (W : Wr) (S : List UInt8) (wr : World) (g2 : Nat → Nat) (D2 : Dk) (W2 : Wr) (done : List UInt8) (pad dad : Option Addr) (pcap dcap : Nat) : Prop where
  wrt : WrRaw g2 wr p W2 (.slice pad W2.pages.length pcap) (.slice dad W2.data.length dcap)
  disk : DiskAt g2 wr W.rd D2
  step : Step [W.rd, p] g g2 w wr
  same : SameW W W2
  dstep : DStep D D2 W.pages W2.pages
  opn : WOpen D2 W2 (S ++ done)
  ne : W2.pages ≠ []
  lt : W2.data.length < D.page - 10

/-- What put comes to. -/
inductive PutOut (D : Dk) (S l : List UInt8) : Ending → Dk → Wr → Prop where
  | ok {D' : Dk} {W' : Wr} (h : WInv D' W' (S ++ l)) : PutOut D S l (.returned (.int .i64 0)) D' W'
  | bad {D' : Dk} {W' : Wr} (r : Int) (hr : r = 16 ∨ r = 17) (h : WPages D' W') (why : D.clean = true → D.most ≤ D'.pages.length ∧ W'.pages.length * room D < (S ++ l).length) : PutOut D S l (.returned (.int .i64 r)) D' W'

structure PutIn (g : Nat → Nat) (w : World) (p : Nat) (D : Dk) (W : Wr) (S l : List UInt8) (b : Value) (wr : World) (g' : Nat → Nat) (D' : Dk) (W' : Wr) (done rest : List UInt8) (ad : Option Addr) (cap : Nat) : Prop where
  beq : b = .slice ad rest.length cap
  leq : l = done ++ rest
  bytes : Bytes wr b rest
  apart : Apart [W.rd, p] g' b
  disk : DiskAt g' wr W.rd D'
  wrt : WrAt g' wr p W'
  step : Step [W.rd, p] g g' w wr
  same : SameW W W'
  dstep : DStep D D' W.pages W'.pages
  inv : WInv D' W' (S ++ done)
def PutRel (g : Nat → Nat) (w : World) (p : Nat) (D : Dk) (W : Wr) (S l : List UInt8) (b : Value) (wr : World) : Prop := ∃ g' D' W' done rest ad cap, PutIn g w p D W S l b wr g' D' W' done rest ad cap
def lenOf : Value → Nat | .slice _ n _ => n | _ => 0

theorem PutMid.close {S l done rest : List UInt8} {w2 w3 : World} {g2 : Nat → Nat} {D2 : Dk} {W2 : Wr} {pad dad ad' : Option Addr} {pcap dcap bb bo cap1 m c' : Nat} (hm : PutMid g w p D W S w2 g2 D2 W2 done pad dad pcap dcap) (hpd : p ≠ W.rd)
    (hap : Apart [W.rd, p] g2 (.slice (some ⟨bb, bo, none⟩) rest.length cap1)) (hb : Bytes w2 (.slice (some ⟨bb, bo, none⟩) rest.length cap1) rest) (hl1 : l = done ++ rest) (hcap : rest.length ≤ cap1) (hm0 : 0 < m) (hmr : m ≤ rest.length) (hroom : W2.data.length + m ≤ D.page - 10)
    (hown : w3.ownsRow 0 5 1 (.slice ad' (W2.data.length + m) c') (W2.data.length + m) (byteVals W2.data ++ byteVals (rest.take m))) (hgrow : w2.grownBy w3 (Value.slice dad W2.data.length dcap).ownBlock)
    (hat : (Value.slice ad' (W2.data.length + m) c').ownBlock = (Value.slice dad W2.data.length dcap).ownBlock ∨ (Value.slice ad' (W2.data.length + m) c').ownBlock = some w2.heap.size) :
    PutRel g w p D W S l (.slice (if cap1 = m then some ⟨bb, bo, none⟩ else some ⟨bb, bo + m, none⟩) (rest.length - m) (cap1 - m)) (w3.setCell ⟨p, 5, none⟩ (.slice ad' (W2.data.length + m) c')) ∧
      lenOf (.slice (if cap1 = m then some ⟨bb, bo, none⟩ else some ⟨bb, bo + m, none⟩) (rest.length - m) (cap1 - m)) < lenOf (.slice (some ⟨bb, bo, none⟩) rest.length cap1) := by
  have hlt : (rest.take m).length = m := by rw [List.length_take]; omega
  have ha := hm.wrt.appendData (c := rest.take m) (by rw [hlt]) hown hgrow hat
  have hpn : W.rd ∉ [p] := by simp; exact fun e => hpd e.symm
  have hap1 : Apart [p] g2 (.slice (some ⟨bb, bo, none⟩) rest.length cap1) := hap.mono (fun r hr => by rw [List.mem_singleton.1 hr]; simp)
  have hb3 := hb.step ha.2 hap1
  have hap3 := Apart.step hb hap ha.2 hap1
  have hput := hm.opn.put hm.ne (c := rest.take m) (fun e => by rw [e] at hlt; simp at hlt; omega) (by rw [hlt]; unfold room; rw [hm.dstep.page]; exact hroom)
  refine ⟨⟨_, D2, _, done ++ rest.take m, rest.drop m, _, _, ⟨by rw [List.length_drop], by rw [List.append_assoc, List.take_append_drop]; exact hl1, ?_, ?_, hm.disk.step ha.2 hpn, ⟨_, _, ha.1⟩, hm.step.trans ha.2 (fun r hr => by rw [List.mem_singleton.1 hr]; simp), hm.same, hm.dstep, by rw [← List.append_assoc]; exact hput⟩⟩, by simp only [lenOf]; omega⟩
  · by_cases hc : cap1 = m
    · have he : rest.drop m = [] := List.eq_nil_of_length_eq_zero (by rw [List.length_drop]; omega)
      rw [if_pos hc, he]
      rcases hb3 with ⟨h, _⟩ | ⟨b', o', c'', h, hc', hbl, hcell⟩
      · cases h
      · cases h
        refine .inr ⟨_, _, _, by rw [show rest.length - m = 0 by omega]; rfl, by simp, hbl, fun i hi => by simp at hi⟩
    · rw [if_neg hc]
      have := hb3.drop (c2 := cap1 - m) m hmr rfl
      rw [List.length_drop] at this; exact this
  · intro k hk
    refine hap3 k ?_
    split at hk <;> exact hk

set_option maxRecDepth 100000 in
set_option maxHeartbeats 4000000 in
theorem tape_put (hg : GWf g w) (hd : DiskAt g w W.rd D) (hw : WrAt g w p W) (hpd : p ≠ W.rd) (S l : List UInt8) (hi : WInv D W S) (n cap : Nat) (ad : Option Addr) (hl : l.length ≤ 100000000) (hb : Bytes w (.slice ad l.length cap) l) (ha : Apart [W.rd, p] g (.slice ad l.length cap)) :
    Calls Try.prog 36 #[.pointer (some ⟨p, 0, none⟩), .slice ad l.length cap] w fun e w' => ∃ g' D' W', PutOut D S l e D' W' ∧ DiskAt g' w' W.rd D' ∧ WrAt g' w' p W' ∧ Step [W.rd, p] g g' w w' ∧ SameW W W' ∧ DStep D D' W.pages W'.pages := by
  have hrel0 := Lib.hid (show PutRel g w p D W S l (.slice ad l.length cap) w from ⟨g, D, W, [], l, ad, cap, rfl, rfl, hb, ha, hd, hw, .refl _ _ _, ⟨rfl, rfl, rfl, rfl⟩, .refl _ _, by rw [List.append_nil]; exact hi⟩)
  have hval := hd.valid
  have c0 : w.cell? ⟨p, 0, none⟩ = some (.pointer (some ⟨W.rd, 0, none⟩)) := by obtain ⟨_, _, hw⟩ := hw; exact hw.cell rfl
  have hgH := Lib.hid hg
  have hdH := Lib.hid hd
  clear hg hd hw hi hb ha
  go_enter Try.func36, Try.ntmps36
  go_wp2_with (first
    | (go_at_call 34; refine (disk_page hdH.out).mono ?_; rintro e w' ⟨rfl, rfl⟩)
    | (go_at_call 33; refine (seal_room D.page _ hval).mono ?_; rintro e w' ⟨rfl, rfl⟩))
  clear c0
  go_loopw [1, 6, 7] (fun b _ _ wr => PutRel g w p D W S l b wr) (fun b _ _ _ => lenOf b)
  case atStart => exact hrel0.out
  case round =>
    obtain ⟨g1, D1, W1, done, rest, ad1, cap1, hin⟩ := hrel
    obtain ⟨rfl, hl1, hb1, ha1, hd1, hw1, hs1, hsm1, hds1, hi1⟩ := hin
    have hlen : rest.length ≤ 100000000 := by rw [hl1] at hl; simp at hl; omega
    have hl1H := Lib.hid hl1
    have hb1H := Lib.hid hb1
    have ha1H := Lib.hid ha1
    have hd1H := Lib.hid hd1
    have hs1H := Lib.hid hs1
    have hsm1H := Lib.hid hsm1
    have hds1H := Lib.hid hds1
    have hi1H := Lib.hid hi1
    obtain ⟨pv1, dv1, hw1⟩ := hw1
    obtain ⟨pad, pcap, rfl⟩ := hw1.pages.len
    obtain ⟨dad, dcap, rfl⟩ := hw1.data.len
    have hw1H := Lib.hid hw1
    have k1 : wr.cell? ⟨p, 1, none⟩ = some (.slice pad W1.pages.length pcap) := hw1.cell rfl
    have k5 : wr.cell? ⟨p, 5, none⟩ = some (.slice dad W1.data.length dcap) := hw1.cell rfl
    have hdle : W1.data.length ≤ D.page - 10 := by have := hi1.1.data_len; unfold room at this; rw [hds1.page] at this; exact this
    have hp0 := hval.lo
    have hp1 := hval.hi
    have hps := hw1.short
    clear hl1 hb1 ha1 hd1 hs1 hsm1 hds1 hi1 hw1
    by_cases hr : rest.length = 0
    · have hr' : ¬ (0 : Int) < (rest.length : Int) := by omega
      have hrH := Lib.hid hr
      clear hr
      go_wp2_with fail
      go_ret
      have hre : rest = [] := List.eq_nil_of_length_eq_zero hrH.out
      refine ⟨g1, D1, W1, .ok ?_, hd1H.out, ⟨_, _, hw1H.out⟩, hs1H.out, hsm1H.out, hds1H.out⟩
      have h1 := hl1H.out
      rw [hre, List.append_nil] at h1
      rw [h1]; exact hi1H.out
    · have hr' : (0 : Int) < (rest.length : Int) := by omega
      have hbb : ∃ bb bo, ad1 = some ⟨bb, bo, none⟩ ∧ rest.length ≤ cap1 := by
        rcases hb1H.out with ⟨h1, _⟩ | ⟨bb, bo, c, h1, h2, _⟩
        · injection h1 with h1 h2 h3; omega
        · injection h1 with h1 h4 h3; exact ⟨bb, bo, h1, by rw [h3]; exact h2⟩
      obtain ⟨bb, bo, rfl, hcap⟩ := hbb
      have hroom : room D1 = D.page - 10 := by unfold room; rw [hds1H.out.page]
      have hroomH := Lib.hid hroom
      clear hroom
      have hrd := hsm1H.out.1
      have hrdH := Lib.hid hrd
      clear hrd
      by_cases hneed : W1.pages.length = 0 ∨ W1.data.length = D.page - 10
      · have hcond : W1.pages = [] ∨ W1.data.length = room D1 := hneed.imp (fun h => List.eq_nil_of_length_eq_zero h) (fun h => by rw [hroomH.out]; exact h)
        have hcondH := Lib.hid hcond
        clear hcond
        by_cases hz : W1.pages.length = 0
        all_goals
          first
            | have hn1 : ((W1.pages.length : Int) == 0) = true := by rw [beq_iff_eq]; omega
            | (have hn1 : ((W1.pages.length : Int) == 0) = false := by rw [beq_eq_false_iff_ne]; omega
               have hn2 : ((W1.data.length : Int) == (D.page : Int) - 10) = true := by rw [beq_iff_eq]; omega)
          clear hz hneed
          go_wp2_with fail
          refine (tape_more (W := W1) (D := D1) (hs1H.out.wf hgH.out) (by rw [hrdH.out]; exact hd1H.out) ⟨_, _, hw1H.out⟩ (by rw [hrdH.out]; exact hpd) hi1H.out.1.toPages.le (fun ps m h => hi1H.out.1.inD m (by rw [h]; simp)) (by rw [hds1H.out.page]; exact hdle)).mono ?_
          rintro e w2 ⟨g2, D2, W2, hmore, hd2, hw2, hs2⟩
          have hpg := hmore.pages hi1H.out.1.toPages hd1H.out.keys
          have hpgH := Lib.hid hpg
          rw [hrdH.out] at hd2 hs2
          have hS2 := hs1H.out.trans hs2 (fun _ h => h)
          have hsame : SameW W W2 := ⟨hpg.2.2.1.trans hsm1H.out.1, hpg.2.2.2.1.trans hsm1H.out.2.1, hpg.2.2.2.2.1.trans hsm1H.out.2.2.1, hpg.2.2.2.2.2.trans hsm1H.out.2.2.2⟩
          have hds2 := hds1H.out.trans hpg.2.1
          have hsameH := Lib.hid hsame
          have hds2H := Lib.hid hds2
          have hS2H := Lib.hid hS2
          have hd2H := Lib.hid hd2
          have hs2H := Lib.hid hs2
          clear hpg hsame hds2 hS2 hd2 hs2
          rcases hmore.bad hi1H.out hcondH.out with he | ⟨r, he, hr2, hwhy⟩
          · subst he
            have hop := WInv.more hi1H.out hd1H.out.keys (by rw [hroomH.out]; omega) hcondH.out hmore
            obtain ⟨pv2, dv2, hw2⟩ := hw2
            obtain ⟨pad2, pcap2, rfl⟩ := hw2.pages.len
            obtain ⟨dad2, dcap2, rfl⟩ := hw2.data.len
            have c5 : w2.cell? ⟨p, 5, none⟩ = some (.slice dad2 W2.data.length dcap2) := hw2.cell rfl
            have hap1 := ha1H.out
            have hap2 : Apart [W.rd, p] g2 (.slice (some ⟨bb, bo, none⟩) rest.length cap1) := Apart.step hb1H.out hap1 hs2H.out hap1
            have hby2 : Bytes w2 (.slice (some ⟨bb, bo, none⟩) rest.length cap1) rest := hb1H.out.step hs2H.out hap1
            have hmid : PutMid g w p D W S w2 g2 D2 W2 done pad2 dad2 pcap2 dcap2 := ⟨hw2, hd2H.out, hS2H.out, hsameH.out, hds2H.out, hop.1, hop.2.1, by rw [hop.2.2]; simp only [List.length_nil]; omega⟩
            clear hw2 hmore hop k1 k5 hap1 hb1H ha1H hs2H
            have hlt2 := hmid.lt
            have f5 := free_blk hmid.wrt.blk
            obtain ⟨k, hk⟩ : ∃ k : Nat, (D.page : Int) - 10 - (W2.data.length : Int) = (k : Int) := ⟨D.page - 10 - W2.data.length, by omega⟩
            have hlt3 : (W2.data.length : Int) < (D.page : Int) - 10 := by omega
            obtain ⟨m, hm⟩ : ∃ m : Nat, m = min k rest.length := ⟨_, rfl⟩
            have hsrc : Src w2 1 (.slice (some ⟨bb, bo, none⟩) m cap1) m (byteVals (rest.take m)) := by
              have h := (hby2.take m (by omega)).src
              rw [List.length_take, Nat.min_eq_left (by omega)] at h
              exact h
            have hsrcH := Lib.hid hsrc
            have hmidH := Lib.hid hmid
            have hap2H := Lib.hid hap2
            have hby2H := Lib.hid hby2
            clear hsrc hmid hap2 hby2
            by_cases hmin : k ≤ rest.length
            · have hmin1 : (k : Int) ≤ (rest.length : Int) := by omega
              have hmin2 : (k : Int) ≤ (cap1 : Int) := by omega
              have hmk : m = k := by omega
              subst hmk
              clear hm
              go_wp2_with fail
              obtain ⟨i0, hi, hz0, hz1, hz2⟩ := info_parts info_u8
              go_region_law ((refine step_app (by rfl) _ _ 35 (by rfl) 5 i0 (.int .u8 0) 1 1 Try.underlying35 hi hz0 hz1 hz2 rfl (by decide) (.slice dad2 W2.data.length dcap2) W2.data.length (byteVals W2.data) (by rfl) (by exact hmidH.out.wrt.data) (.slice (some ⟨bb, bo, none⟩) m cap1) m (byteVals (rest.take m)) (by rfl) (by exact hsrcH.out) (byteVals_one _) (by omega) (by omega) ?_; intro ad' c' w3 hown hgrow0 hnil hat; have hgrow : w2.grownBy w3 (Value.slice dad2 W2.data.length dcap2).ownBlock := (grown_drew _ _).trans hgrow0; clear hgrow0; have hb3 := hmidH.out.wrt.appendedData hgrow; have c6 : w3.cell? ⟨p, 5, none⟩ = some (.slice dad2 W2.data.length dcap2) := cell_blk hb3 rfl; have f3 := free_blk hb3; have hownH := Lib.hid hown; have hgrowH := Lib.hid hgrow; have hatH := Lib.hid hat; clear hown hgrow hnil hat hb3))
              all_goals go_wp2_with fail
              exact hmidH.out.close hpd hap2H.out hby2H.out hl1H.out hcap (by omega) (by omega) (by omega) hownH.out hgrowH.out hatH.out
            · have hmin1 : ¬ (k : Int) ≤ (rest.length : Int) := by omega
              have hmin2 : (rest.length : Int) ≤ (cap1 : Int) := by omega
              have hmin3 : rest.length ≤ k := by omega
              have hmk : m = rest.length := by omega
              rw [hmk] at hsrcH
              clear hm hmk
              go_wp2_with fail
              obtain ⟨i0, hi, hz0, hz1, hz2⟩ := info_parts info_u8
              go_region_law ((refine step_app (by rfl) _ _ 35 (by rfl) 5 i0 (.int .u8 0) 1 1 Try.underlying35 hi hz0 hz1 hz2 rfl (by decide) (.slice dad2 W2.data.length dcap2) W2.data.length (byteVals W2.data) (by rfl) (by exact hmidH.out.wrt.data) (.slice (some ⟨bb, bo, none⟩) rest.length cap1) rest.length (byteVals (rest.take rest.length)) (by rfl) (by exact hsrcH.out) (byteVals_one _) (by omega) (by omega) ?_; intro ad' c' w3 hown hgrow0 hnil hat; have hgrow : w2.grownBy w3 (Value.slice dad2 W2.data.length dcap2).ownBlock := (grown_drew _ _).trans hgrow0; clear hgrow0; have hb3 := hmidH.out.wrt.appendedData hgrow; have c6 : w3.cell? ⟨p, 5, none⟩ = some (.slice dad2 W2.data.length dcap2) := cell_blk hb3 rfl; have f3 := free_blk hb3; have hownH := Lib.hid hown; have hgrowH := Lib.hid hgrow; have hatH := Lib.hid hat; clear hown hgrow hnil hat hb3))
              all_goals go_wp2_with fail
              have hcl := hmidH.out.close hpd hap2H.out hby2H.out hl1H.out hcap (m := rest.length) (by omega) (by omega) (by omega) hownH.out hgrowH.out hatH.out
              rw [Nat.sub_self] at hcl
              exact hcl
          · subst he
            have hnr : (r == 0) = false := by rw [beq_eq_false_iff_ne]; omega
            have hnr2 : r ≠ 0 := by omega
            have hwhyH := Lib.hid hwhy
            have hw2H := Lib.hid hw2
            have hr2H := Lib.hid hr2
            clear hmore hwhy hw2 hr2
            go_wp2_with fail
            go_ret
            refine ⟨g2, D2, W2, .bad r hr2H.out hpgH.out.1 (fun hc => ?_), hd2H.out, hw2H.out, hS2H.out, hsameH.out, hds2H.out⟩
            have h1 := hwhyH.out (hds1H.out.clean.trans hc)
            rw [hds1H.out.most] at h1
            refine ⟨h1.1, ?_⟩
            rw [hl1H.out]
            have h2 := h1.2
            have hrr : room D1 = room D := by unfold room; rw [hds1H.out.page]
            rw [hrr] at h2
            simp only [List.length_append] at h2 ⊢
            omega
      · have hn1 : ((W1.pages.length : Int) == 0) = false := by rw [beq_eq_false_iff_ne]; omega
        have hmid : ∃ g2 D2 W2 pad2 dad2 pcap2 dcap2, PutMid g w p D W S wr g2 D2 W2 done pad2 dad2 pcap2 dcap2 ∧ Apart [W.rd, p] g2 (.slice (some ⟨bb, bo, none⟩) rest.length cap1) ∧ Bytes wr (.slice (some ⟨bb, bo, none⟩) rest.length cap1) rest ∧ wr.cell? ⟨p, 5, none⟩ = some (.slice dad2 W2.data.length dcap2) := ⟨g1, D1, W1, pad, dad, pcap, dcap, ⟨hw1H.out, hd1H.out, hs1H.out, hsm1H.out, hds1H.out, hi1H.out.1, fun e => hneed (.inl (by rw [e]; rfl)), by omega⟩, ha1H.out, hb1H.out, k5⟩
        clear k5 hneed hb1H
        rename World => w2
        obtain ⟨g2, D2, W2, pad2, dad2, pcap2, dcap2, hmid, hap2, hby2, c5⟩ := hmid
        have hlt2 := hmid.lt
        have hn2 : ((W2.data.length : Int) == (D.page : Int) - 10) = false := by rw [beq_eq_false_iff_ne]; omega
        have f5 := free_blk hmid.wrt.blk
        obtain ⟨k, hk⟩ : ∃ k : Nat, (D.page : Int) - 10 - (W2.data.length : Int) = (k : Int) := ⟨D.page - 10 - W2.data.length, by omega⟩
        have hlt3 : (W2.data.length : Int) < (D.page : Int) - 10 := by omega
        obtain ⟨m, hm⟩ : ∃ m : Nat, m = min k rest.length := ⟨_, rfl⟩
        have hsrc : Src w2 1 (.slice (some ⟨bb, bo, none⟩) m cap1) m (byteVals (rest.take m)) := by
          have h := (hby2.take m (by omega)).src
          rw [List.length_take, Nat.min_eq_left (by omega)] at h
          exact h
        have hsrcH := Lib.hid hsrc
        have hmidH := Lib.hid hmid
        have hap2H := Lib.hid hap2
        have hby2H := Lib.hid hby2
        clear hsrc hmid hap2 hby2
        by_cases hmin : k ≤ rest.length
        · have hmin1 : (k : Int) ≤ (rest.length : Int) := by omega
          have hmin2 : (k : Int) ≤ (cap1 : Int) := by omega
          have hmk : m = k := by omega
          subst hmk
          clear hm
          go_wp2_with fail
          obtain ⟨i0, hi, hz0, hz1, hz2⟩ := info_parts info_u8
          go_region_law ((refine step_app (by rfl) _ _ 35 (by rfl) 5 i0 (.int .u8 0) 1 1 Try.underlying35 hi hz0 hz1 hz2 rfl (by decide) (.slice dad2 W2.data.length dcap2) W2.data.length (byteVals W2.data) (by rfl) (by exact hmidH.out.wrt.data) (.slice (some ⟨bb, bo, none⟩) m cap1) m (byteVals (rest.take m)) (by rfl) (by exact hsrcH.out) (byteVals_one _) (by omega) (by omega) ?_; intro ad' c' w3 hown hgrow0 hnil hat; have hgrow : w2.grownBy w3 (Value.slice dad2 W2.data.length dcap2).ownBlock := (grown_drew _ _).trans hgrow0; clear hgrow0; have hb3 := hmidH.out.wrt.appendedData hgrow; have c6 : w3.cell? ⟨p, 5, none⟩ = some (.slice dad2 W2.data.length dcap2) := cell_blk hb3 rfl; have f3 := free_blk hb3; have hownH := Lib.hid hown; have hgrowH := Lib.hid hgrow; have hatH := Lib.hid hat; clear hown hgrow hnil hat hb3))
          all_goals go_wp2_with fail
          exact hmidH.out.close hpd hap2H.out hby2H.out hl1H.out hcap (by omega) (by omega) (by omega) hownH.out hgrowH.out hatH.out
        · have hmin1 : ¬ (k : Int) ≤ (rest.length : Int) := by omega
          have hmin2 : (rest.length : Int) ≤ (cap1 : Int) := by omega
          have hmin3 : rest.length ≤ k := by omega
          have hmk : m = rest.length := by omega
          rw [hmk] at hsrcH
          clear hm hmk
          go_wp2_with fail
          obtain ⟨i0, hi, hz0, hz1, hz2⟩ := info_parts info_u8
          go_region_law ((refine step_app (by rfl) _ _ 35 (by rfl) 5 i0 (.int .u8 0) 1 1 Try.underlying35 hi hz0 hz1 hz2 rfl (by decide) (.slice dad2 W2.data.length dcap2) W2.data.length (byteVals W2.data) (by rfl) (by exact hmidH.out.wrt.data) (.slice (some ⟨bb, bo, none⟩) rest.length cap1) rest.length (byteVals (rest.take rest.length)) (by rfl) (by exact hsrcH.out) (byteVals_one _) (by omega) (by omega) ?_; intro ad' c' w3 hown hgrow0 hnil hat; have hgrow : w2.grownBy w3 (Value.slice dad2 W2.data.length dcap2).ownBlock := (grown_drew _ _).trans hgrow0; clear hgrow0; have hb3 := hmidH.out.wrt.appendedData hgrow; have c6 : w3.cell? ⟨p, 5, none⟩ = some (.slice dad2 W2.data.length dcap2) := cell_blk hb3 rfl; have f3 := free_blk hb3; have hownH := Lib.hid hown; have hgrowH := Lib.hid hgrow; have hatH := Lib.hid hat; clear hown hgrow hnil hat hb3))
          all_goals go_wp2_with fail
          have hcl := hmidH.out.close hpd hap2H.out hby2H.out hl1H.out hcap (m := rest.length) (by omega) (by omega) (by omega) hownH.out hgrowH.out hatH.out
          rw [Nat.sub_self] at hcl
          exact hcl
end
end Go.Proofs.Ytlppoimdfclbaaa
