/- seal.Open: a page whose sum is another is told; a page that is one is opened. -/
import Derived.Test.YtlppoimdfclbaaaSealC
set_option linter.unusedVariables false
set_option linter.unusedSimpArgs false
namespace Go.Proofs.Ytlppoimdfclbaaa
open Go.RowKit

theorem seal_read' (l : List UInt8) (n b o cap x : Nat) (w : World) (hn : l.length = n) (hl : n ≤ 6) (hx : leVal l = x) (hc : ∀ i (h : i < l.length), w.cell? ⟨b, o + i, none⟩ = some (.int .u8 (l[i].toNat : Int))) :
    Calls Try.prog 71 #[.slice (some ⟨b, o, none⟩) n cap] w fun e w' => e = .returned (.int .i64 x) ∧ w = w' := by
  subst hn; subst hx
  exact seal_read l b o cap w hl hc

/-- Part of what reads as bytes. -/
theorem part_cells {w : World} {pg : List UInt8} {b : Nat} (h : ∀ i (h : i < pg.length), w.cell? ⟨b, i, none⟩ = some (.int .u8 (pg[i].toNat : Int))) (o m : Nat) :
    ∀ i (h : i < ((pg.drop o).take m).length), w.cell? ⟨b, o + i, none⟩ = some (.int .u8 (((pg.drop o).take m)[i].toNat : Int)) := by
  intro i hi
  rw [List.getElem_take, List.getElem_drop]
  exact h (o + i) (by rw [List.length_take, List.length_drop] at hi; omega)

theorem part_cellsN {w : World} {pg : List UInt8} {b : Nat} (h : ∀ i (h : i < pg.length), w.cell? ⟨b, i, none⟩ = some (.int .u8 (pg[i].toNat : Int))) (o m : Nat) :
    ∀ n, ∀ i (h : i < ((pg.drop o).take m).length), (w.drewN n).cell? ⟨b, o + i, none⟩ = some (.int .u8 (((pg.drop o).take m)[i].toNat : Int)) := fun _ => part_cells h o m

def sumSaid (pg : List UInt8) : Nat := leVal ((pg.drop (pg.length - 4)).take 4)
def sumIs (pg : List UInt8) : Nat := crcSum ((pg.drop 0).take (pg.length - 4))
def nextSaid (pg : List UInt8) : Nat := leVal ((pg.drop 0).take 4)
def manySaid (pg : List UInt8) : Nat := leVal ((pg.drop 4).take 2)

set_option maxHeartbeats 1000000 in
theorem seal_open_bad (pg : List UInt8) (page b cap : Nat) (w : World) (hp : ValidPage page) (hl : pg.length = page) (hcap : page ≤ cap) (hc : ∀ i (h : i < pg.length), w.cell? ⟨b, i, none⟩ = some (.int .u8 (pg[i].toNat : Int))) (hs : sumSaid pg ≠ sumIs pg) :
    Calls Try.prog 67 #[.slice (some ⟨b, 0, none⟩) page cap] w fun e w' => e = .returned (.tuple #[.int .i64 0, .slice none 0 0, .int .i64 18]) ∧ w = w' := by
  have p0 := hp.lo
  have p1 := hp.hi
  have c1 := Lib.hid (part_cells hc (page - 4) 4)
  have c2 := Lib.hid (part_cells hc 0 (page - 4))
  clear hc
  have hlH := Lib.hid hl; clear hl
  have hsH := Lib.hid hs; clear hs
  obtain ⟨x, hx⟩ : ∃ x, leVal ((pg.drop (page - 4)).take 4) = x := ⟨_, rfl⟩
  obtain ⟨y, hy⟩ : ∃ y, crcSum ((pg.drop 0).take (page - 4)) = y := ⟨_, rfl⟩
  have hne : ((x : Int) != (y : Int)) = true := by
    have h := hsH.out
    unfold sumSaid sumIs at h
    rw [hlH.out, hx, hy] at h
    rw [bne_iff_ne]; omega
  have hyl := crcSum_lt ((pg.drop 0).take (page - 4))
  rw [hy] at hyl
  have hxH := Lib.hid hx; clear hx
  have hyH := Lib.hid hy; clear hy
  go_enter Try.func67, Try.ntmps67
  go_wp2_with (first
    | (go_at_call 49; refine (seal_may page _ hp).mono ?_; rintro e w' ⟨rfl, rfl⟩))
  have hpgH := Lib.hid (show page - (page - 4) = 4 by omega)
  rw [hpgH.out]
  refine (seal_read' _ 4 b (page - 4) (cap - (page - 4)) x _ (by rw [List.length_take, List.length_drop, hlH.out]; omega) (by omega) hxH.out c1.out).mono ?_
  rintro e w' ⟨rfl, rfl⟩
  go_wp2_with fail
  refine (seal_sum' _ (page - 4) b 0 cap _ (by rw [List.length_take, List.length_drop, hlH.out]; omega) (by omega) c2.out).mono ?_
  rintro e w' ⟨rfl, rfl⟩
  rw [hyH.out]
  go_wp2_with fail
  go_ret3
  exact ⟨rfl, rfl⟩

set_option maxHeartbeats 1000000 in
theorem seal_open_ok (pg : List UInt8) (page b cap : Nat) (w : World) (hp : ValidPage page) (hl : pg.length = page) (hcap : page ≤ cap) (hb : b < w.heap.size) (hc : ∀ i (h : i < pg.length), w.cell? ⟨b, i, none⟩ = some (.int .u8 (pg[i].toNat : Int))) (hs : sumSaid pg = sumIs pg)
    (hnx : nextSaid pg ≤ 16384) (hmn : manySaid pg ≤ page - 10) :
    Calls Try.prog 67 #[.slice (some ⟨b, 0, none⟩) page cap] w fun e w' => ∃ v k, e = .returned (.tuple #[.int .i64 ((nextSaid pg : Int) - 1), v, .int .i64 0]) ∧ Row w' v ((pg.drop 6).take (manySaid pg)) ∧ w.grownBy w' none ∧ v.ownBlock = some k ∧ w.heap.size ≤ k := by
  have p0 := hp.lo
  have p1 := hp.hi
  have c1 := Lib.hid (part_cells hc (page - 4) 4)
  have c2 := Lib.hid (part_cells hc 0 (page - 4))
  have c3 := Lib.hid (part_cellsN hc 0 4)
  have c4 := Lib.hid (part_cellsN hc 4 2)
  have c5 := Lib.hid (part_cellsN hc 6 (manySaid pg))
  clear hc
  have hlH := Lib.hid hl; clear hl
  obtain ⟨x, hx⟩ : ∃ x, leVal ((pg.drop (page - 4)).take 4) = x := ⟨_, rfl⟩
  have hy : crcSum ((pg.drop 0).take (page - 4)) = x := by
    unfold sumSaid sumIs at hs
    rw [hlH.out, hx] at hs
    exact hs.symm
  have hyl := crcSum_lt ((pg.drop 0).take (page - 4))
  rw [hy] at hyl
  have hxH := Lib.hid hx; clear hx
  have hyH := Lib.hid hy; clear hy hs
  generalize hnx' : nextSaid pg = nx at *
  generalize hmn' : manySaid pg = mn at *
  have hnxH := Lib.hid (show leVal ((pg.drop 0).take 4) = nx from hnx'); clear hnx'
  have hmnH := Lib.hid (show leVal ((pg.drop 4).take 2) = mn from hmn'); clear hmn'
  go_enter Try.func67, Try.ntmps67
  go_wp2_with (first
    | (go_at_call 49; refine (seal_may page _ hp).mono ?_; rintro e w' ⟨rfl, rfl⟩))
  have hpgH := Lib.hid (show page - (page - 4) = 4 by omega)
  rw [hpgH.out]
  refine (seal_read' _ 4 b (page - 4) (cap - (page - 4)) x _ (by rw [List.length_take, List.length_drop, hlH.out]; omega) (by omega) hxH.out c1.out).mono ?_
  rintro e w' ⟨rfl, rfl⟩
  go_wp2_with fail
  refine (seal_sum' _ (page - 4) b 0 cap _ (by rw [List.length_take, List.length_drop, hlH.out]; omega) (by omega) c2.out).mono ?_
  rintro e w' ⟨rfl, rfl⟩
  rw [hyH.out]
  go_wp2_with fail
  have i4 : (4 : Int) ≤ (cap : Int) := by omega
  have i6 : (6 : Int) ≤ (cap : Int) := by omega
  go_quiet ((go_at_call 71; (first
    | (with_reducible exact quietL (seal_read' _ 4 b 0 cap nx _ (by rw [List.length_take, List.length_drop, hlH.out]; omega) (by omega) hnxH.out (c3.out _)))
    | (with_reducible exact quietL (seal_read' _ 2 b 4 (cap - 4) mn _ (by rw [List.length_take, List.length_drop, hlH.out]; omega) (by omega) hmnH.out (c4.out _))))))
  go_wp2_with (first
    | (go_at_call 33; refine (seal_room page _ hp).mono ?_; rintro e w' ⟨rfl, rfl⟩))
  have hlen : ((pg.drop 6).take mn).length = mn := by rw [List.length_take, List.length_drop, hlH.out]; omega
  refine (bytes_clone' ((pg.drop 6).take mn) mn b 6 (cap - 6) (w.drewN nq) hlen (by omega) (.inr ⟨b, 6, cap - 6, rfl, by rw [hlen]; omega, hb, c5.out nq⟩)).mono ?_
  rintro e w1 ⟨v, k, rfl, hrow, hg, hk, hk2⟩
  go_wp2_with fail
  go_ret3
  exact ⟨v, k, rfl, hrow, (grown_drewN w nq none).trans hg, hk, hk2⟩
end Go.Proofs.Ytlppoimdfclbaaa
