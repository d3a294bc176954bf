/- What lies on a tape's pages: plain lists. -/
import Derived.Test.YtlppoimdfclbaaaTape2
set_option linter.unusedVariables false
set_option linter.unusedSimpArgs false
namespace Go.Proofs.Ytlppoimdfclbaaa
open Go.RowKit

/-- From D to D': nothing but the pages that were own and are own' has turned. -/
structure DStep (D D' : Dk) (own own' : List Int) : Prop where
  page : D'.page = D.page
  most : D'.most = D.most
  clean : D'.clean = D.clean
  keep : ∀ t ∈ D.pages, t.1 ∉ own → t ∈ D'.pages
  back : ∀ t ∈ D'.pages, t.1 ∉ own' → t ∈ D.pages
  gone : ∀ n ∈ own, n ∉ own' → ∀ t ∈ D'.pages, t.1 ≠ n
  fresh : ∀ n ∈ own', n ∈ own ∨ ∀ t ∈ D.pages, t.1 ≠ n
  count : D'.pages.length + own.length = D.pages.length + own'.length

theorem DStep.refl (D : Dk) (o : List Int) : DStep D D o o := ⟨rfl, rfl, rfl, fun _ h _ => h, fun _ h _ => h, fun _ h h' => absurd h h', fun _ h => .inl h, rfl⟩

theorem DStep.trans {D D1 D2 : Dk} {o o1 o2 : List Int} (h : DStep D D1 o o1) (k : DStep D1 D2 o1 o2) : DStep D D2 o o2 where
  page := k.page.trans h.page
  most := k.most.trans h.most
  clean := k.clean.trans h.clean
  keep := fun t ht hn => k.keep t (h.keep t ht hn) (fun e => by
    rcases h.fresh _ e with e' | e'
    · exact hn e'
    · exact e' t ht rfl)
  back := fun t ht hn => by
    by_cases e : t.1 ∈ o1
    · exact absurd rfl (k.gone _ e hn t ht)
    · exact h.back t (k.back t ht hn) e
  gone := fun n hn hn2 t ht e => by
    by_cases h1 : n ∈ o1
    · exact k.gone n h1 hn2 t ht e
    · exact h.gone n hn h1 t (k.back t ht (by rw [e]; exact hn2)) e
  fresh := fun n hn => by
    rcases k.fresh n hn with h1 | h1
    · exact h.fresh n h1
    · by_cases ho : n ∈ o
      · exact .inl ho
      · exact .inr (fun t ht e => h1 t (h.keep t ht (by rw [e]; exact ho)) e)
  count := by have := h.count; have := k.count; omega

/-- No two pages of a disk have one number. -/
def KeysNd (D : Dk) : Prop := (D.pages.map fun t => t.1).Nodup
theorem DiskAt.keys {g : Nat → Nat} {w : World} {r : Nat} {D : Dk} (h : DiskAt g w r D) : KeysNd D := by
  obtain ⟨_, _, _, _, _, _, ents, _, _, _, _, _, h⟩ := h
  have h1 := (List.nodup_append.1 h.nodup).1
  unfold KeysNd
  rw [h.pg]
  simpa [keysPages, keysOf, Function.comp_def] using h1
theorem keys_inj {l : List (Int × List UInt8)} (h : (l.map fun t => t.1).Nodup) {n : Int} {a b : List UInt8} (ha : (n, a) ∈ l) (hb : (n, b) ∈ l) : a = b := by
  induction l with
  | nil => cases ha
  | cons t l ih =>
    simp only [List.map_cons, List.nodup_cons] at h
    rw [List.mem_cons] at ha hb
    rcases ha with ha | ha <;> rcases hb with hb | hb
    · rw [← ha] at hb; exact (Prod.mk.inj hb).2.symm
    · exact absurd (List.mem_map_of_mem (f := fun t => t.1) hb) (by rw [← ha] at h; exact h.1)
    · exact absurd (List.mem_map_of_mem (f := fun t => t.1) ha) (by rw [← hb] at h; exact h.1)
    · exact ih h.2 ha hb
theorem KeysNd.inj {D : Dk} (h : KeysNd D) {n : Int} {a b : List UInt8} (ha : (n, a) ∈ D.pages) (hb : (n, b) ∈ D.pages) : a = b := keys_inj h ha hb

theorem mem_pset {l : List (Int × List UInt8)} {n : Int} {q : List UInt8} {t : Int × List UInt8} : t ∈ pset l n q ↔ (t.1 ≠ n ∧ t ∈ l) ∨ (t = (n, q) ∧ ∃ p, (n, p) ∈ l) := by
  unfold pset
  rw [List.mem_map]
  constructor
  · rintro ⟨s, hs, rfl⟩
    by_cases h : s.1 = n
    · rw [if_pos h]; exact .inr ⟨rfl, s.2, by rw [← h]; exact hs⟩
    · rw [if_neg h]; exact .inl ⟨h, hs⟩
  · rintro (⟨h, hs⟩ | ⟨rfl, p, hp⟩)
    · exact ⟨t, hs, if_neg h⟩
    · exact ⟨(n, p), hp, if_pos rfl⟩
theorem pset_length (l : List (Int × List UInt8)) (n : Int) (q : List UInt8) : (pset l n q).length = l.length := by simp [pset]
theorem mem_pdel {l : List (Int × List UInt8)} {n : Int} {t : Int × List UInt8} : t ∈ pdel l n ↔ t ∈ l ∧ t.1 ≠ n := by simp [pdel]
theorem pdel_length {l : List (Int × List UInt8)} (h : (l.map fun t => t.1).Nodup) {n : Int} {q : List UInt8} (hm : (n, q) ∈ l) : (pdel l n).length + 1 = l.length := by
  obtain ⟨a, b, rfl⟩ := List.append_of_mem hm
  simp only [List.map_append, List.map_cons] at h
  rw [List.nodup_append] at h
  rw [pdel_split]
  · simp; omega
  · intro t ht e
    exact h.2.2 t.1 (List.mem_map_of_mem ht) n (List.mem_cons_self ..) e
  · intro t ht e
    exact (List.nodup_cons.1 h.2.1).1 (by rw [← e]; exact List.mem_map_of_mem ht)

/-- A page is made. -/
theorem DStep.alloc {D : Dk} {n : Int} {z : List UInt8} {own : List Int} (hn : ∀ t ∈ D.pages, t.1 ≠ n) : DStep D { D with pages := D.pages ++ [(n, z)] } own (own ++ [n]) where
  page := rfl
  most := rfl
  clean := rfl
  keep := fun t ht _ => List.mem_append_left _ ht
  back := fun t ht h => by
    rw [List.mem_append, List.mem_singleton] at ht
    rcases ht with ht | rfl
    · exact ht
    · exact absurd (List.mem_append_right _ (List.mem_singleton.2 rfl)) h
  gone := fun m hm h => absurd (List.mem_append_left _ hm) h
  fresh := fun m hm => by
    rw [List.mem_append, List.mem_singleton] at hm
    rcases hm with hm | rfl
    · exact .inl hm
    · exact .inr hn
  count := by simp; omega
/-- One's own page is written. -/
theorem DStep.write {D : Dk} {n : Int} {q : List UInt8} {wr : Int} {own : List Int} (hn : n ∈ own) : DStep D { D with pages := pset D.pages n q, writes := wr } own own where
  page := rfl
  most := rfl
  clean := rfl
  keep := fun t ht h => mem_pset.2 (.inl ⟨fun e => h (by rw [e]; exact hn), ht⟩)
  back := fun t ht h => by
    rcases mem_pset.1 ht with ⟨_, h1⟩ | ⟨h1, _⟩
    · exact h1
    · exact absurd (by rw [h1]; exact hn) h
  gone := fun m hm h => absurd hm h
  fresh := fun m hm => .inl hm
  count := by simp [pset_length]
/-- One's own page is freed. -/
theorem DStep.free {D : Dk} {n : Int} {q : List UInt8} {own : List Int} (hk : KeysNd D) (hm : (n, q) ∈ D.pages) (hnd : (n :: own).Nodup) : DStep D { D with pages := pdel D.pages n } (n :: own) own where
  page := rfl
  most := rfl
  clean := rfl
  keep := fun t ht h => mem_pdel.2 ⟨ht, fun e => h (by rw [e]; exact List.mem_cons_self ..)⟩
  back := fun t ht _ => (mem_pdel.1 ht).1
  gone := fun m hm' h t ht e => by
    rw [List.mem_cons] at hm'
    rcases hm' with rfl | hm'
    · exact (mem_pdel.1 ht).2 e
    · exact h hm'
  fresh := fun m hm' => .inl (List.mem_cons_of_mem _ hm')
  count := by have := pdel_length hk hm; simp; omega

/-! the pages' contents -/
def room (D : Dk) : Nat := D.page - 10
def chunk (R : Nat) (S : List UInt8) (i : Nat) : List UInt8 := (S.drop (i * R)).take R
theorem chunk_append {R i : Nat} {S c : List UInt8} (h : (i + 1) * R ≤ S.length) : chunk R (S ++ c) i = chunk R S i := by
  unfold chunk
  have h1 : (i + 1) * R = i * R + R := by rw [Nat.add_mul, Nat.one_mul]
  rw [List.drop_append_of_le_length (by omega), List.take_append_of_le_length (by rw [List.length_drop]; omega)]

/-- A Writer that has put S: all pages but the last are written. The last may be empty. -/
structure WOpen (D : Dk) (W : Wr) (S : List UInt8) : Prop where
  nodup : W.pages.Nodup
  inD : ∀ n ∈ W.pages, ∃ pg, (n, pg) ∈ D.pages
  none : W.pages = [] → S = []
  lo : (W.pages.length - 1) * room D ≤ S.length
  hi : S.length ≤ W.pages.length * room D
  data : W.data = S.drop ((W.pages.length - 1) * room D)
  full : ∀ i (h : i + 1 < W.pages.length), (W.pages[i], sealPage D.page W.pages[i + 1] (chunk (room D) S i)) ∈ D.pages
/-- .. the last is not. -/
def WInv (D : Dk) (W : Wr) (S : List UInt8) : Prop := WOpen D W S ∧ (W.pages ≠ [] → (W.pages.length - 1) * room D < S.length)

theorem WOpen.data_len {D : Dk} {W : Wr} {S : List UInt8} (h : WOpen D W S) : W.data.length ≤ room D := by
  rw [h.data, List.length_drop]
  have h1 := h.hi
  cases hl : W.pages.length with
  | zero => rw [hl] at h1; omega
  | succ k =>
    rw [hl] at h1
    simp only [Nat.add_sub_cancel, Nat.add_mul, Nat.one_mul] at h1 ⊢
    omega

theorem WOpen.put {D : Dk} {W : Wr} {S c : List UInt8} (h : WOpen D W S) (hp : W.pages ≠ []) (hc : c ≠ []) (hl : W.data.length + c.length ≤ room D) : WInv D { W with data := W.data ++ c } (S ++ c) := by
  have h1 := h.lo
  have h2 := h.hi
  have h3 := congrArg List.length h.data
  rw [List.length_drop] at h3
  have h0 : 0 < W.pages.length := List.length_pos_iff.2 hp
  have hm : W.pages.length * room D = (W.pages.length - 1) * room D + room D := by
    obtain ⟨k, hk⟩ : ∃ k, W.pages.length = k + 1 := ⟨W.pages.length - 1, by omega⟩
    rw [hk, Nat.add_sub_cancel, Nat.add_mul, Nat.one_mul]
  have hcl : 0 < c.length := List.length_pos_iff.2 hc
  refine ⟨⟨h.nodup, h.inD, fun e => absurd e hp, by simp only [List.length_append]; omega, by simp only [List.length_append]; omega, ?_, fun i hi => ?_⟩, fun _ => by simp only [List.length_append]; omega⟩
  · simp only [h.data]; rw [List.drop_append_of_le_length h1]
  · rw [chunk_append]
    · exact h.full i hi
    · have : (i + 1) * room D ≤ (W.pages.length - 1) * room D := Nat.mul_le_mul_right _ (by simp only at hi; omega)
      omega

/-- A Writer's pages are its own, and are there. -/
structure WPages (D : Dk) (W : Wr) : Prop where
  nodup : W.pages.Nodup
  inD : ∀ n ∈ W.pages, ∃ pg, (n, pg) ∈ D.pages
theorem WOpen.toPages {D : Dk} {W : Wr} {S : List UInt8} (h : WOpen D W S) : WPages D W := ⟨h.nodup, h.inD⟩

/-- What a Writer keeps. -/
def SameW (W W' : Wr) : Prop := W'.rd = W.rd ∧ W'.rl = W.rl ∧ W'.count = W.count ∧ W'.over = W.over

theorem WPages.fresh {D : Dk} {W : Wr} (h : WPages D W) {n : Int} (hn : ∀ t ∈ D.pages, t.1 ≠ n) : (W.pages ++ [n]).Nodup := by
  rw [List.nodup_append]
  refine ⟨h.nodup, by simp, fun a ha b hb e => ?_⟩
  rw [List.mem_singleton] at hb
  obtain ⟨pg, hp⟩ := h.inD a ha
  exact hn _ hp (by rw [e, hb])

theorem inD_alloc {D : Dk} {l : List Int} {n : Int} {z : List UInt8} (h : ∀ m ∈ l, ∃ pg, (m, pg) ∈ D.pages) : ∀ m ∈ l ++ [n], ∃ pg, (m, pg) ∈ D.pages ++ [(n, z)] := by
  intro m hm
  rw [List.mem_append, List.mem_singleton] at hm
  rcases hm with hm | rfl
  · obtain ⟨pg, hp⟩ := h m hm; exact ⟨pg, List.mem_append_left _ hp⟩
  · exact ⟨z, List.mem_append_right _ (List.mem_singleton.2 rfl)⟩
theorem inD_pset {l : List (Int × List UInt8)} {m n : Int} {q pg : List UInt8} (h : (m, pg) ∈ l) : ∃ pg', (m, pg') ∈ pset l n q := by
  by_cases e : m = n
  · subst e; exact ⟨q, mem_pset.2 (.inr ⟨rfl, pg, h⟩)⟩
  · exact ⟨pg, mem_pset.2 (.inl ⟨e, h⟩)⟩

/-- Whatever more comes to: whose the pages are. -/
theorem WrMore.pages {D D' : Dk} {W W' : Wr} {e : Ending} (hm : WrMore D W e D' W') (h : WPages D W) (hk : KeysNd D) : WPages D' W' ∧ DStep D D' W.pages W'.pages ∧ SameW W W' := by
  cases hm with
  | full hf => exact ⟨h, .refl _ _, rfl, rfl, rfl, rfl⟩
  | first n h0 h1 hn hl hp =>
    refine ⟨⟨by simp, ?_⟩, ?_, rfl, rfl, rfl, rfl⟩
    · have := inD_alloc (n := n) (z := List.replicate D.page 0) h.inD
      rw [hp] at this; exact this
    · have := DStep.alloc (z := List.replicate D.page 0) (own := W.pages) hn
      rw [hp] at this ⊢; exact this
  | next n m ps h0 h1 hn hl hp hw =>
    have hmem : m ∈ W.pages := by rw [hp]; simp
    have hst := DStep.alloc (z := List.replicate D.page 0) (own := W.pages) hn
    cases hw with
    | io hc => exact ⟨⟨h.fresh hn, inD_alloc h.inD⟩, hst, rfl, rfl, rfl, rfl⟩
    | ok =>
      refine ⟨⟨h.fresh hn, fun k hk' => ?_⟩, hst.trans (DStep.write (List.mem_append_left _ hmem)), rfl, rfl, rfl, rfl⟩
      obtain ⟨pg, hpg⟩ := inD_alloc (n := n) (z := List.replicate D.page 0) h.inD k hk'
      exact inD_pset hpg

/-- more, where it went well. -/
theorem WInv.more {D D' : Dk} {W W' : Wr} {S : List UInt8} (h : WInv D W S) (hk : KeysNd D) (hr : 0 < room D) (hf : W.pages = [] ∨ W.data.length = room D) (hm : WrMore D W (.returned (.int .i64 0)) D' W') : WOpen D' W' S ∧ W'.pages ≠ [] ∧ W'.data = [] := by
  have hp2 := (hm.pages h.1.toPages hk).1
  generalize he : Ending.returned (.int .i64 0) = e at hm
  cases hm with
  | full hf => simp at he
  | first n h0 h1 hn hl hp =>
    have hS := h.1.none hp
    have hd : W.data = [] := by rw [h.1.data, hS]; simp
    subst hS
    exact ⟨⟨hp2.nodup, hp2.inD, fun _ => rfl, by simp, by simp, by rw [hd]; simp, fun i hi => by simp at hi⟩, by simp, hd⟩
  | next n m ps h0 h1 hn hl hp hw =>
    cases hw with
    | io hc => simp at he
    | ok =>
      have hne : W.pages ≠ [] := by rw [hp]; simp
      have hdl : W.data.length = room D := hf.resolve_left hne
      have h3 := congrArg List.length h.1.data
      rw [List.length_drop] at h3
      have hlo := h.1.lo
      have hlen : W.pages.length = ps.length + 1 := by rw [hp]; simp
      have hSl : S.length = W.pages.length * room D := by
        rw [hlen, Nat.add_sub_cancel] at h3 hlo
        rw [hlen, Nat.add_mul, Nat.one_mul]; omega
      have hroom : room { D with pages := pset (D.pages ++ [(n, List.replicate D.page 0)]) m (sealPage D.page n W.data), writes := wrap64 (D.writes + 1) } = room D := rfl
      refine ⟨⟨hp2.nodup, hp2.inD, fun e => absurd e (by simp), ?_, ?_, ?_, fun i hi => ?_⟩, by simp, rfl⟩
      · rw [hroom]; simp only [List.length_append, List.length_singleton, Nat.add_sub_cancel]; omega
      · rw [hroom]; simp only [List.length_append, List.length_singleton, Nat.add_mul, Nat.one_mul]; omega
      · rw [hroom]; simp only [List.length_append, List.length_singleton, Nat.add_sub_cancel, ← hSl]; simp
      · rw [hroom]
        simp only [List.length_append, List.length_singleton] at hi
        by_cases hi2 : i + 1 < W.pages.length
        · have hfull := h.1.full i hi2
          rw [List.getElem_append_left (by omega), List.getElem_append_left hi2]
          refine mem_pset.2 (.inl ⟨?_, List.mem_append_left _ hfull⟩)
          simp only
          intro e
          have hnd := h.1.nodup
          have hi3 : i < ps.length := by omega
          have e2 : W.pages[i] = ps[i] := by simp only [hp]; rw [List.getElem_append_left hi3]
          rw [hp, List.nodup_append] at hnd
          exact hnd.2.2 ps[i] (List.getElem_mem _) m (List.mem_singleton.2 rfl) (by rw [← e2, e])
        · have hi3 : i = ps.length := by omega
          subst hi3
          rw [List.getElem_append_left (by omega), List.getElem_append_right (by omega)]
          have e2 : W.pages[ps.length]'(by omega) = m := by simp only [hp]; rw [List.getElem_append_right (Nat.le_refl _)]; simp
          rw [e2]
          have e3 : ([n] : List Int)[ps.length + 1 - W.pages.length]'(by simp; omega) = n := by simp
          rw [e3]
          obtain ⟨pg, hpg⟩ := h.1.inD m (by rw [hp]; simp)
          refine mem_pset.2 (.inr ⟨?_, pg, List.mem_append_left _ hpg⟩)
          have e4 : chunk (room D) S ps.length = W.data := by
            unfold chunk
            rw [h.1.data, hlen, Nat.add_sub_cancel]
            apply List.take_of_length_le
            rw [List.length_drop]; rw [hlen, Nat.add_mul, Nat.one_mul] at hSl; omega
          rw [e4]

/-- Own pages are no more than the disk's. -/
theorem nodup_le : ∀ (l k : List Int), l.Nodup → (∀ a ∈ l, a ∈ k) → l.length ≤ k.length
  | [], _, _, _ => Nat.zero_le _
  | a :: l, k, hn, hk => by
    have ha : a ∈ k := hk a (List.mem_cons_self ..)
    obtain ⟨x, y, rfl⟩ := List.append_of_mem ha
    rw [List.nodup_cons] at hn
    have := nodup_le l (x ++ y) hn.2 (fun b hb => by
      have h1 := hk b (List.mem_cons_of_mem _ hb)
      rw [List.mem_append, List.mem_cons] at h1
      rw [List.mem_append]
      rcases h1 with h1 | rfl | h1
      · exact .inl h1
      · exact absurd hb hn.1
      · exact .inr h1)
    simp only [List.length_append, List.length_cons] at this ⊢
    omega
theorem WPages.le {D : Dk} {W : Wr} (h : WPages D W) : W.pages.length ≤ D.pages.length := by
  have := nodup_le W.pages (D.pages.map fun t => t.1) h.nodup (fun a ha => by
    obtain ⟨pg, hp⟩ := h.inD a ha
    exact List.mem_map_of_mem (f := fun t => t.1) hp)
  simpa using this

/-- more, where it did not go well. -/
theorem WrMore.bad {D D' : Dk} {W W' : Wr} {S : List UInt8} {e : Ending} (h : WInv D W S) (hf : W.pages = [] ∨ W.data.length = room D) (hm : WrMore D W e D' W') :
    e = .returned (.int .i64 0) ∨ ∃ r : Int, e = .returned (.int .i64 r) ∧ (r = 16 ∨ r = 17) ∧ (D.clean = true → D.most ≤ D'.pages.length ∧ W'.pages.length * room D ≤ S.length) := by
  cases hm with
  | full hc =>
    refine .inr ⟨17, rfl, .inr rfl, fun h1 => ⟨hc h1, ?_⟩⟩
    by_cases hne : W.pages = []
    · rw [hne]; simp
    · have hdl := hf.resolve_left hne
      have h3 := congrArg List.length h.1.data
      rw [List.length_drop] at h3
      have hlo := h.1.lo
      obtain ⟨k, hk⟩ : ∃ k, W.pages.length = k + 1 := ⟨W.pages.length - 1, by have := List.length_pos_iff.2 hne; omega⟩
      rw [hk, Nat.add_sub_cancel] at h3 hlo
      rw [hk, Nat.add_mul, Nat.one_mul]; omega
  | first n h0 h1 hn hl hp => exact .inl rfl
  | next n m ps h0 h1 hn hl hp hw =>
    cases hw with
    | io hc => exact .inr ⟨16, rfl, .inl rfl, fun h1 => by simp at hc; rw [hc] at h1; cases h1⟩
    | ok => exact .inl rfl
theorem WPages.ok {D : Dk} {W W' : Wr} (h : WPages D W) (he : W'.pages = W.pages) : WPages D W' := ⟨he ▸ h.nodup, fun n hn => h.inD n (he ▸ hn)⟩
end Go.Proofs.Ytlppoimdfclbaaa
