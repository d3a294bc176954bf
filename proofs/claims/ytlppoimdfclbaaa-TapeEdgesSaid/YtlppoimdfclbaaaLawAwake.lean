/- The laws' own functions: awake. -/
import Derived.Test.YtlppoimdfclbaaaLawSame
import Derived.Lib.SlBytesConst
set_option linter.unusedVariables false
set_option linter.unusedSimpArgs false
namespace Go.Proofs.Ytlppoimdfclbaaa
open Go.RowKit

section
variable {F F2 : List Nat} {g g2 : Nat → Nat} {w : World} {ls ms : List (List UInt8)} {ad bd : Option Addr}

/-- A tape is read without faults. -/
theorem law_read_good {tp rl : Nat} {t : Tp} {D : Dk} {L : Led} (hg : GWf g w) (hd : DiskAt g w t.rd D) (hL : LedgerAt g w rl L) (ht : TpAt g w tp t) (hlaid : Laid D t.pages (streamOf ls)) (hcl : D.clean = true) (hcnt : t.count = ls.length) (hn : ls.length ≤ 1000000) (hl : ∀ l ∈ ls, l.length ≤ 1048640) (hS : (streamOf ls).length ≤ 1000000000)
    (hdl : t.rd ≠ rl) (htd : tp ≠ t.rd) (htl : tp ≠ rl) (hroom : (D.page : Int) + L.held ≤ 1099511627776) :
    Calls Try.prog 20 #[.pointer (some ⟨tp, 0, none⟩), .pointer (some ⟨rl, 0, none⟩)] w fun e w' => ∃ g' ad c, e = .returned (.tuple #[.slice ad ls.length c, .int .i64 0]) ∧ (∀ F : List Nat, (∀ x ∈ F, x < w.heap.size) → BR F g' w' ad ls) ∧ DiskAt g' w' t.rd D ∧ TpAt g' w' tp t ∧ LedgerAt g' w' rl ⟨L.budget, L.held, max L.high (L.held + D.page)⟩ ∧ Step [t.rd, rl] g g' w w' := by
  refine (law_read hg hd hL ht (hlaid.ok (hlaid.range hd) hd.valid) hcnt hn hl hS hdl htd htl hroom).mono ?_
  rintro e w' ⟨g', k, ad, c, r, rfl, ⟨_, hr, _⟩, h2, h3⟩
  have : r = 0 ∧ k = ls.length := by
    rcases hr with h | ⟨_, h⟩ | ⟨_, h | ⟨i, h⟩⟩
    · exact h
    · rw [hcl] at h; cases h
    · rw [hcl] at h; cases h
    · exact absurd h (hlaid.notBad hd.valid hd.keys i)
  obtain ⟨rfl, rfl⟩ := this
  rw [List.take_length] at h2
  exact ⟨g', ad, c, rfl, h2, h3⟩

theorem cell_any {b i : Nat} {cs : Array Value} {t : TypeId} {z : Nat × Nat} {v : Value} (h : w.heap[b]? = some (.cells cs t z)) (hi : cs[i]? = some v) : w.cell? ⟨b, i, none⟩ = some v := by simp [World.cell?, h, hi]
def awakeRecs : List (List UInt8) := [[97, 98, 99], List.replicate 99 0]
theorem awake_rows {w3 : World} (hg : GWf g w3) {F : List Nat} (hF : ∀ r ∈ F, r < w3.heap.size) :
    BR F g (((w3.alloc (.cells #[.int .u8 97, .int .u8 98, .int .u8 99] 5 (3, 4))).alloc (.cells (byteVals (List.replicate 99 0)).toArray 5)).alloc (.cells #[.slice (some ⟨w3.heap.size, 0, none⟩) 3 3, .slice (some ⟨w3.heap.size + 1, 0, none⟩) 99 99] 35)) (some ⟨w3.heap.size + 1 + 1, 0, none⟩) awakeRecs := by
  have h0 := heap_alloc_new w3 (.cells #[.int .u8 97, .int .u8 98, .int .u8 99] 5 (3, 4))
  have h1 := heap_alloc_new (w3.alloc (.cells #[.int .u8 97, .int .u8 98, .int .u8 99] 5 (3, 4))) (.cells (byteVals (List.replicate 99 0)).toArray 5)
  have h2 := heap_alloc_new ((w3.alloc (.cells #[.int .u8 97, .int .u8 98, .int .u8 99] 5 (3, 4))).alloc (.cells (byteVals (List.replicate 99 0)).toArray 5)) (.cells #[.slice (some ⟨w3.heap.size, 0, none⟩) 3 3, .slice (some ⟨w3.heap.size + 1, 0, none⟩) 99 99] 35)
  have e1 : (w3.alloc (.cells #[.int .u8 97, .int .u8 98, .int .u8 99] 5 (3, 4))).heap.size = w3.heap.size + 1 := by simp
  have e2 : ((w3.alloc (.cells #[.int .u8 97, .int .u8 98, .int .u8 99] 5 (3, 4))).alloc (.cells (byteVals (List.replicate 99 0)).toArray 5)).heap.size = w3.heap.size + 1 + 1 := by simp
  rw [e1] at h1
  rw [e2] at h2
  have k0 := alloc_old (x := .cells #[.slice (some ⟨w3.heap.size, 0, none⟩) 3 3, .slice (some ⟨w3.heap.size + 1, 0, none⟩) 99 99] 35) (alloc_old (x := .cells (byteVals (List.replicate 99 0)).toArray 5) h0)
  have k1 := alloc_old (x := .cells #[.slice (some ⟨w3.heap.size, 0, none⟩) 3 3, .slice (some ⟨w3.heap.size + 1, 0, none⟩) 99 99] 35) h1
  have hn : ∀ k, w3.heap.size ≤ k → g k = k ∧ k ∉ F := fun k hk => ⟨hg.2 k hk, fun e => by have := hF k e; omega⟩
  obtain ⟨W, hW⟩ : ∃ W, W = (((w3.alloc (.cells #[.int .u8 97, .int .u8 98, .int .u8 99] 5 (3, 4))).alloc (.cells (byteVals (List.replicate 99 0)).toArray 5)).alloc (.cells #[.slice (some ⟨w3.heap.size, 0, none⟩) 3 3, .slice (some ⟨w3.heap.size + 1, 0, none⟩) 99 99] 35)) := ⟨_, rfl⟩
  rw [← hW] at h2 k0 k1 ⊢
  refine ⟨fun _ k hk => ?_, fun i hi => ?_⟩
  · cases hk
    have := hn (w3.heap.size + 1 + 1) (by omega)
    exact ⟨lt_of_block h2, this.1, this.2⟩
  · have hi2 : i = 0 ∨ i = 1 := by simp [awakeRecs] at hi; omega
    rcases hi2 with rfl | rfl
    · refine ⟨_, 0, some ⟨w3.heap.size, 0, none⟩, 3, rfl, cell_any h2 rfl, .inl (.inr ⟨_, 0, 3, rfl, Nat.le_refl _, lt_of_block k0, fun i hi => ?_⟩), fun _ k hk => by cases hk; exact hn _ (Nat.le_refl _)⟩
      have hi3 : i = 0 ∨ i = 1 ∨ i = 2 := by simp [awakeRecs] at hi; omega
      rcases hi3 with rfl | rfl | rfl
      · exact cell_any k0 rfl
      · exact cell_any k0 rfl
      · exact cell_any k0 rfl
    · have hrow := (Blk.row (pg := List.replicate 99 0) k1 (by decide)).bytes
      exact ⟨_, 0, some ⟨w3.heap.size + 1, 0, none⟩, 99, rfl, cell_any h2 rfl, .inl hrow, fun _ k hk => by cases hk; exact hn _ (Nat.le_succ _)⟩

set_option maxRecDepth 100000 in
set_option maxHeartbeats 4000000 in
theorem law_awake (hg : GWf g w) :
    Calls Try.prog 9 #[] w fun e w' => e = .returned (.bool true) ∧ ∃ g', Step [] g g' w w' := by
  have hgH := Lib.hid hg
  clear hg
  go_enter Try.func9, Try.ntmps9
  go_wp2_with fail
  refine (disk_new 64 9 (.inl rfl) (by omega) hgH.out).mono ?_
  rintro e w2 ⟨g2, rd, rfl, hrd, hd2, hs2⟩
  have hd2H := Lib.hid hd2
  have hs2H := Lib.hid hs2
  clear hd2 hs2
  go_wp2_with fail
  refine (ledger_new 0 g2 w2 (hs2H.out.wf hgH.out)).mono ?_
  rintro e w3 ⟨rfl, hL3, hs3, hsz3⟩
  have hL3H := Lib.hid hL3
  have hs3H := Lib.hid hs3
  clear hL3 hs3
  have hcv := fun (C : Array Value) (n c : Nat) => Lib.run_convert_bytes_const (P := Try.prog) w3 35 5 C n c Try.underlying35 Try.underlying5
  rw [hsz3] at hcv
  go_wp2_with ((with_reducible refine wpList_make_bytes rfl _ _ rfl 99 rfl rfl (by omega) ?_); intro hb0; have hb0H := Lib.hid hb0; clear hb0)
  have hg3 := hs3H.out.wf (hs2H.out.wf hgH.out)
  have hrows := awake_rows hg3 (F := [rd, w2.heap.size]) (fun r hr => by
    simp only [List.mem_cons, List.not_mem_nil, or_false] at hr
    have := hd2H.out.lt
    rcases hr with rfl | rfl <;> omega)
  rw [hsz3] at hrows
  refine (law_make (ls := awakeRecs) (ad := some ⟨w2.heap.size + 1 + 1 + 1, 0, none⟩) (D := ⟨64, 9, [], true, 0⟩) (L := ⟨min (max 0 0) 16777216, 0, 0⟩) (g := g2) 2 ?_ ?_ ?_ ?_ ?_ hrows (by simp [awakeRecs]) (by simp [awakeRecs])).mono ?_
  · exact (((Step.alloc (T := []) _).tail (Step.alloc _)).tail (Step.alloc _)).wf hg3
  · exact hd2H.out.step (hs3H.out.tail (((Step.alloc (T := []) _).tail (Step.alloc _)).tail (Step.alloc _))) (by simp)
  · exact hL3H.out.step (((Step.alloc (T := []) _).tail (Step.alloc _)).tail (Step.alloc _)) (by simp)
  · have := hd2H.out.lt; omega
  · decide
  rintro e w7 ⟨g7, D7, L7, hout, hd7, hL7, hs7⟩
  have hrdlt := hd2H.out.lt
  have hS7 : Step [] g g7 w w7 := by
    refine Step.transNew hgH.out ((hs2H.out.tail hs3H.out).tail (((Step.alloc (T := []) _).tail (Step.alloc _)).tail (Step.alloc _))) hs7 (fun r hr => ?_)
    simp only [List.mem_cons, List.not_mem_nil, or_false] at hr
    have := hs2H.out.size
    rcases hr with rfl | rfl
    · exact .inr hrd
    · exact .inr this
  have hw7 := hs7.size
  clear hs7
  have hd7H := Lib.hid hd7
  have hL7H := Lib.hid hL7
  have hS7H := Lib.hid hS7
  clear hd7 hL7 hS7 hrows hcv hg3
  have hslen : (streamOf awakeRecs).length = 110 := by decide
  cases hout with
  | bad r hr hds why =>
    obtain ⟨k, h1, h2⟩ := why rfl
    rw [hslen] at h2
    simp [room] at h1 h2
    omega
  | ok t pages ht hl hds htp =>
    have hw3 : w2.heap.size + 1 ≤ w7.heap.size := by simp [hsz3] at hw7; omega
    have htg : w2.heap.size + 1 ≤ t := by simp [hsz3] at ht; omega
    have hslenH := Lib.hid hslen
    have hlH := Lib.hid hl
    have hdsH := Lib.hid hds
    have htpH := Lib.hid htp
    clear hslen hl hds htp ht hw7
    go_wp2_with fail
    refine (law_read_good (ls := awakeRecs) (t := ⟨rd, pages, awakeRecs.length, false⟩) (hS7H.out.wf hgH.out) hd7H.out hL7H.out htpH.out hlH.out (hdsH.out.clean) rfl (by simp [awakeRecs]) (by simp [awakeRecs]) (by rw [hslenH.out]; omega) (by simp only; omega) (by simp only; omega) (by omega) (by rw [hdsH.out.page]; simp only; omega)).mono ?_
    rintro e w8 ⟨g8, ad, c, rfl, hbr, hd8, ht8, hL8, hs8⟩
    have hb := hbr [] (fun x hx => by cases hx)
    obtain ⟨b0, o0, a0, e0, hae, hc0, hy0⟩ := hb.get (i := 0) (by decide)
    obtain ⟨b1, o1, a1, e1, hae1, hc1, hy1⟩ := hb.get (i := 1) (by decide)
    subst hae
    injection hae1 with hae1
    injection hae1 with hb1 ho1
    subst hb1 ho1
    have hc0' : w8.cell? ⟨b0, o0, none⟩ = some (.slice a0 3 e0) := hc0
    have hc1' : w8.cell? ⟨b0, o0 + 1, none⟩ = some (.slice a1 99 e1) := hc1
    have hS8 : Step [] g g8 w w8 := Step.transNew hgH.out hS7H.out hs8 (fun r hr => by
      simp only [List.mem_cons, List.not_mem_nil, or_false] at hr
      have := hs2H.out.size
      rcases hr with rfl | rfl
      · exact .inr hrd
      · exact .inr this)
    have k0 : (convert 35 9 (.slice a0 3 e0)).run Try.prog w8 = .ok (.string (strOf [97, 98, 99])) w8 := hy0.conv 9 rfl
    have hd8H := Lib.hid hd8
    have ht8H := Lib.hid ht8
    have hL8H := Lib.hid hL8
    have hS8H := Lib.hid hS8
    clear hbr hb hc0 hc1 hy0 hy1 hd8 ht8 hL8 hS8 hs8
    have hal : awakeRecs.length = 2 := rfl
    simp only [hal]
    have hstr : (strOf [97, 98, 99]).toList = [97, 98, 99] := by rw [ByteArray.toList_eq]; rfl
    have hp3 : pages.length = 3 := by
      have h1 := hlH.out.hi
      have h2 := hlH.out.lo
      rw [hslenH.out] at h1 h2
      have hr : room D7 = 54 := by unfold room; rw [hdsH.out.page]; rfl
      rw [hr] at h1 h2
      have hne : pages ≠ [] := fun e => by rw [e] at h1; simp at h1
      have h3 := h2 hne
      omega
    have hp3H := Lib.hid hp3
    clear hp3
    go_wp2_with fail
    refine (tape_count ht8H.out).mono ?_
    rintro e w' ⟨rfl, rfl⟩
    have hcc : ((awakeRecs.length : Nat) : Int) = 2 := rfl
    simp only [hcc]
    go_wp2_with fail
    refine (tape_pages ht8H.out).mono ?_
    rintro e w9 ⟨v9, rfl, hv9, hg9, _⟩
    obtain ⟨a9, c9, rfl⟩ := hv9.len
    simp only [hp3H.out]
    have hs9 : Step [] g8 g8 w8 w9 := .grown hg9 (fun _ h => by cases h)
    have hd9 := hd8H.out.step hs9 (by simp)
    have ht9 := ht8H.out.step hs9 (by simp)
    have hL9 := hL8H.out.step hs9 (by simp)
    have hS9 := hS8H.out.tail hs9
    have hd9H := Lib.hid hd9
    have ht9H := Lib.hid ht9
    have hL9H := Lib.hid hL9
    have hS9H := Lib.hid hS9
    clear hv9 hg9 hs9 hd9 ht9 hL9 hS9
    go_wp2_with fail
    refine (ledger_held g8 w9 _ _ hL9H.out).mono ?_
    rintro e w' ⟨rfl, rfl⟩
    go_wp2_with fail
    refine (tape_drop (hS9H.out.wf hgH.out) hd9H.out ht9H.out rfl (by simp only; omega) hlH.out.nodup (fun n hn => by
      obtain ⟨i, hi, rfl⟩ := List.getElem_of_mem hn
      exact ⟨_, hlH.out.lie i hi⟩)).mono ?_
    rintro e w10 ⟨rfl, g10, D10, hd10, hds10, ht10, hs10⟩
    have hcnt := hds10.count
    have hcnt0 := hdsH.out.count
    have hlive : D10.pages.length = 0 := by simp at hcnt hcnt0; omega
    have hS10 : Step [] g g10 w w10 := Step.transNew hgH.out hS9H.out hs10 (fun r hr => by
      simp only [List.mem_cons, List.not_mem_nil, or_false] at hr
      have := hs2H.out.size
      rcases hr with rfl | rfl
      · exact .inr hrd
      · exact .inr (by omega))
    have hd10H := Lib.hid hd10
    have hS10H := Lib.hid hS10
    have hliveH := Lib.hid hlive
    clear hd10 hds10 ht10 hs10 hcnt hcnt0 hS10 hlive
    go_wp2_with fail
    refine (disk_live hd10H.out).mono ?_
    rintro e w' ⟨rfl, rfl⟩
    rw [hliveH.out]
    go_wp2_with fail
    go_ret
    exact ⟨rfl, g10, hS10H.out⟩
end
end Go.Proofs.Ytlppoimdfclbaaa
