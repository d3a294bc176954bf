/- bytes.Clone; seal.Close and seal.Open. -/
import Derived.Test.YtlppoimdfclbaaaProg
import Derived.Test.YtlppoimdfclbaaaApp
import Derived.Test.YtlppoimdfclbaaaSealA
import Derived.Test.YtlppoimdfclbaaaSealB
set_option linter.unusedVariables false
set_option linter.unusedSimpArgs false
namespace Go.Proofs.Ytlppoimdfclbaaa
open Go.RowKit

theorem info_u8 : (Try.prog.info? 5).map (fun i => (i.zero, i.size, i.bytes)) = some (some (.int .u8 0), 1, 1) := by kernel_rfl

set_option maxRecDepth 20000 in
set_option maxHeartbeats 400000 in
theorem bytes_clone (l : List UInt8) (b o cap : Nat) (w : World) (hl : l.length ≤ 1000000000) (hx : Bytes w (.slice (some ⟨b, o, none⟩) l.length cap) l) :
    Calls Try.prog 42 #[.slice (some ⟨b, o, none⟩) l.length cap] w fun e w' => ∃ v k, e = .returned v ∧ Row w' v l ∧ w.grownBy w' none ∧ v.ownBlock = some k ∧ w.heap.size ≤ k := by
  obtain ⟨i0, hi, hz0, hz1, hz2⟩ := info_parts info_u8
  have hxH := Lib.hid hx; clear hx
  have hbs : ∀ w : World, (Instr.buildSlice 35 0 #[]).run Try.prog w = .ok (.slice (some ⟨w.heap.size, 0, none⟩) 0 0) (w.alloc (.cells #[] 5)) := fun _ => by kernel_rfl
  have hnil := fun w : World => Lib.run_eql_slice_nil w 35 5 (some ⟨b, o, none⟩) l.length cap 0 0 Try.underlying35
  go_enter Try.func42, Try.ntmps42
  go_wp2_with (at_builtin; refine wpList_app rfl _ _ 35 rfl 5 i0 (.int .u8 0) 1 1 Try.underlying35 hi hz0 hz1 hz2 rfl (by decide) (.slice (some ⟨w.heap.size, 0, none⟩) 0 0) 0 [] rfl (by exact World.ownsRow_made w #[] 0 (Nat.zero_le _) (Nat.zero_le _) rfl) _ l.length (byteVals l) rfl (by exact (hxH.out.step (T := []) (g := id) (Step.alloc _) (by intro k _ h; cases h)).src) (byteVals_one l) (by omega) (by omega) ?_; intro ad' c' w1 hown' hgrow hnil' hat)
  go_ret
  have hg : w.grownBy w1 none := grown_fresh (World.grownBy_alloc w _ none) hgrow (fun k hk => by cases hk; exact Nat.le_refl _)
  rcases hat with hat | hat
  · exact ⟨_, w.heap.size, rfl, by simpa [Row] using hown', hg, by simpa [Value.ownBlock] using hat, Nat.le_refl _⟩
  · exact ⟨_, w.heap.size + 1, rfl, by simpa [Row] using hown', hg, by simpa using hat, Nat.le_succ _⟩

theorem bytes_clone' (l : List UInt8) (n b o cap : Nat) (w : World) (hn : l.length = n) (hl : n ≤ 1000000000) (hx : Bytes w (.slice (some ⟨b, o, none⟩) l.length cap) l) :
    Calls Try.prog 42 #[.slice (some ⟨b, o, none⟩) n cap] w fun e w' => ∃ v k, e = .returned v ∧ Row w' v l ∧ w.grownBy w' none ∧ v.ownBlock = some k ∧ w.heap.size ≤ k := by
  subst hn
  exact bytes_clone l b o cap w hl hx

theorem wpList_make_bytes {w : World} {ops : Array Oper} {rest : List Oper} {o : Oper} {a : Act} {Q : Exit → Act → World → Prop}
    (hg : o.guard = none) (l c : Operand) (hop : o.op = Op.makeSlice 35 l c) (n : Nat) (hl : a.eval l = .int .i64 n) (hc : a.eval c = .int .i64 n) (hn : n ≤ 1000000000)
    (hK : Blk (w.alloc (.cells (byteVals (List.replicate n 0)).toArray 5)) w.heap.size (List.replicate n 0) → wpList Try.prog ops Q rest (a.put o.dst (.slice (some ⟨w.heap.size, 0, none⟩) n n)) (w.alloc (.cells (byteVals (List.replicate n 0)).toArray 5))) :
    wpList Try.prog ops Q (o :: rest) a w := by
  obtain ⟨i0, hi, hz0, hz1, hz2⟩ := info_parts info_u8
  refine wpList_plain hg fun K hK' => ?_
  have hrun := run_make (P := Try.prog) w 35 5 i0 (.int .u8 0) Try.underlying35 hi hz0 .i64 .i64 n n (by omega) (Int.le_refl _) (by rw [hz2]; omega) (by omega)
  rw [hz1, Nat.mul_one, Int.toNat_natCast] at hrun
  have hm : madeCells (Value.int .u8 0).cells n = (byteVals (List.replicate n 0)).toArray := by
    apply Array.ext'
    rw [show (Value.int .u8 0).cells = #[.int .u8 0] from rfl, toList_madeCells_one]
    simp [byteVals]
  rw [hm] at hrun
  unfold Oper.wp
  simp [execOp, hop, hl, hc, hrun, Result.andThen]
  exact hK' _ _ (hK (heap_alloc_new w _))

theorem wpList_copy_bytes {w : World} {ops : Array Oper} {rest : List Oper} {o : Oper} {a : Act} {Q : Exit → Act → World → Prop} (hgd : o.guard = none) (d s : Operand)
    (ho : o.op = .call { callee := .builtin .copy, args := #[d, s], argTypes := #[35, 35] })
    (b off dLen dCap : Nat) (hd : a.eval d = .slice (some ⟨b, off, none⟩) dLen dCap) (sv : Value) (hs : a.eval s = sv) (data pg : List UInt8) (hsrc : Bytes w sv data) (hb : Blk w b pg)
    (h1 : data.length ≤ dLen) (h2 : off + data.length ≤ pg.length)
    (h : ∀ w', Blk w' b (splice pg off data) → w.grownBy w' (some b) → w'.heap.size = w.heap.size → wpList Try.prog ops Q rest (a.put o.dst (goInt data.length)) w') :
    wpList Try.prog ops Q (o :: rest) a w := by
  have hsz : (Try.prog.info? 5).map (·.size) = some 1 := by kernel_rfl
  have hmin : Nat.min data.length dLen = data.length := Nat.min_eq_left h1
  rcases hsrc with ⟨rfl, rfl⟩ | ⟨bs, os, cs, rfl, hc, hbs, hcell⟩
  · refine wpList_copy_nothing hgd d s 35 35 ho 5 Try.underlying35 hsz (some ⟨b, off, none⟩) none dLen dCap 0 0 hd hs (Nat.min_eq_left (Nat.zero_le _)) ?_
    exact h w (by rw [splice_nil]; exact hb) (grown_refl _ _) rfl
  · refine wpList_copy_own hgd d s 35 35 ho 5 Try.underlying35 hsz b off dLen dCap ⟨bs, os, none⟩ data.length cs hd hs _ 5 hb (byteVals data) (by rw [hmin]; simp) ?_ (by simpa using h2) (byteVals_one _) ?_
    · intro j v hj
      have hjl : j < data.length := by
        rcases Nat.lt_or_ge j data.length with h' | h'
        · exact h'
        · rw [List.getElem?_eq_none (by simpa using h')] at hj; cases hj
      rw [byteVals_get hjl] at hj
      cases hj
      rw [addr_add]; exact hcell j hjl
    · rw [byteVals_length]
      refine h _ ?_ ⟨rfl, rfl, rfl, by simp [World.setRow], fun k _ hk => setRow_other w b k _ (fun e => hk (by rw [e]))⟩ (by simp [World.setRow])
      have := setRow_heap w b _ ((byteVals pg).take off ++ (byteVals data ++ (byteVals pg).drop (off + data.length))).toArray 5 _ hb
      unfold Blk
      simp only [splice, byteVals_append, byteVals_take, byteVals_drop, List.append_assoc]
      simpa using this

/-- A page as Close lays it. -/
def sealBody (page : Nat) (next : Int) (data : List UInt8) : List UInt8 :=
  splice (splice (splice (List.replicate page 0) 0 (leBytes 4 (next + 1).toNat)) 4 (leBytes 2 data.length)) 6 data
def sealPage (page : Nat) (next : Int) (data : List UInt8) : List UInt8 :=
  splice (sealBody page next data) (page - 4) (leBytes 4 (crcSum ((sealBody page next data).take (page - 4))))
theorem sealBody_length {page : Nat} {next : Int} {data : List UInt8} (h : 64 ≤ page) (hd : data.length ≤ page - 10) : (sealBody page next data).length = page := by
  have h1 : (splice (List.replicate page 0) 0 (leBytes 4 (next + 1).toNat)).length = page := by rw [splice_length] <;> simp; omega
  have h2 : (splice (splice (List.replicate page 0) 0 (leBytes 4 (next + 1).toNat)) 4 (leBytes 2 data.length)).length = page := by rw [splice_length, h1]; rw [h1]; simp; omega
  unfold sealBody
  rw [splice_length, h2]
  rw [h2]; omega
theorem sealPage_length {page : Nat} {next : Int} {data : List UInt8} (h : 64 ≤ page) (hd : data.length ≤ page - 10) : (sealPage page next data).length = page := by
  unfold sealPage
  rw [splice_length] <;> rw [sealBody_length h hd]
  simp; omega

set_option maxRecDepth 20000 in
set_option maxHeartbeats 1000000 in
theorem seal_close (page : Nat) (next : Int) (data : List UInt8) (dv : Value) (w : World) (hp : ValidPage page) (hn0 : -1 ≤ next) (hn1 : next < 16384) (hd : data.length ≤ page - 10) (hdv : Bytes w dv data) (n c : Nat) (ad : Option Addr) (hdf : dv = .slice ad n c) :
    Calls Try.prog 52 #[.int .i64 page, .int .i64 next, dv] w fun e w' =>
      e = .returned (.tuple #[.slice (some ⟨w.heap.size, 0, none⟩) page page, .int .i64 0]) ∧ Blk w' w.heap.size (sealPage page next data) ∧ w.grownBy w' none ∧ w'.heap.size = w.heap.size + 1 := by
  subst hdf
  have hnl : n = data.length := by
    rcases hdv with ⟨h, h2⟩ | ⟨_, _, _, h, _⟩
    · cases h; subst h2; rfl
    · cases h; rfl
  subst hnl
  have p0 := hp.lo
  have p1 := hp.hi
  have hdvH := Lib.hid hdv; clear hdv
  have m1 : ¬ (next < -1) := by omega
  have m2 : ¬ (next ≥ 16384) := by omega
  have m3 : ¬ ((data.length : Int) > (page : Int) - 10) := by omega
  go_enter Try.func52, Try.ntmps52
  go_wp2_with (first
    | (go_at_call 49; refine (seal_may page _ hp).mono ?_; rintro e w' ⟨rfl, rfl⟩)
    | (go_at_call 33; refine (seal_room page _ hp).mono ?_; rintro e w' ⟨rfl, rfl⟩)
    | ((with_reducible refine wpList_make_bytes rfl _ _ rfl page rfl rfl (by omega) ?_); intro hb0))
  go_wp2_with fail
  generalize hk : w.heap.size = k at *
  have hkH := Lib.hid hk; clear hk
  have hg0 : w.grownBy (w.alloc (.cells (byteVals (List.replicate page 0)).toArray 5)) none := World.grownBy_alloc _ _ _
  refine (seal_lay' _ k 0 4 page (next + 1) _ hb0 (by simp; omega) (by omega) (by simp; omega) (by omega) (by omega)).mono ?_
  rintro e w1 ⟨rfl, hb1, hg1, hs1⟩
  have hg1' := grown_fresh hg0 hg1 (fun i hi => by cases hi; rw [hkH.out]; exact Nat.le_refl _)
  have hs1H := Lib.hid hs1; clear hs1 hb0
  have l1 : (splice (List.replicate page 0) 0 (leBytes 4 (next + 1).toNat)).length = page := by rw [splice_length] <;> simp; omega
  go_wp2_with fail
  refine (seal_lay' _ k 4 2 (page - 4) (data.length : Int) _ hb1 (by rw [l1]; omega) (by omega) (by rw [l1]; omega) (by omega) (by omega)).mono ?_
  rintro e w2 ⟨rfl, hb2, hg2, hs2⟩
  have hg2' := grown_fresh hg1' hg2 (fun i hi => by cases hi; rw [hkH.out]; exact Nat.le_refl _)
  have hs2H := Lib.hid (hs2.trans hs1H.out); clear hs2 hb1
  simp only [Int.toNat_natCast] at hb2
  have l2 : (splice (splice (List.replicate page 0) 0 (leBytes 4 (next + 1).toNat)) 4 (leBytes 2 data.length)).length = page := by rw [splice_length, l1]; rw [l1]; simp; omega
  have l2H := Lib.hid l2; clear l2 l1
  have hsrc : Bytes w2 (.slice ad data.length c) data := hdvH.out.step (T := []) (g := id) (Step.grown hg2' (fun _ h => by cases h)) (by intro k _ h; cases h)
  have q1 : data.length ≤ page - 6 := by omega
  have q2 : 6 + data.length ≤ (splice (splice (List.replicate page 0) 0 (leBytes 4 (next + 1).toNat)) 4 (leBytes 2 data.length)).length := by rw [l2H.out]; omega
  have q2H := Lib.hid q2; clear q2
  go_wp2_with ((with_reducible refine wpList_copy_bytes (o := ⟨some 43, _, _, _, _, _⟩) ?_ (.tmp 41) (.tmp 42) ?_ k 6 (page - 6) (page - 6) ?_ (.slice ad data.length c) ?_ data _ hsrc hb2 q1 q2H.out ?_); rfl; rfl; rfl; rfl; intro w3 hb3 hg3 hs3)
  have hg3' := grown_fresh hg2' hg3 (fun i hi => by cases hi; rw [hkH.out]; exact Nat.le_refl _)
  have hs3H := Lib.hid (hs3.trans hs2H.out); clear hs3 hb2 hsrc q1
  change Blk w3 k (sealBody page next data) at hb3
  have lb : (sealBody page next data).length = page := sealBody_length p0 hd
  have lbH := Lib.hid lb; clear lb
  have hpgH := Lib.hid (show page - (page - 4) = 4 by omega)
  refine (seal_sum' ((sealBody page next data).take (page - 4)) (page - 4) k 0 page w3 (by rw [List.length_take, lbH.out]; omega) (by omega) (fun i hi => by
    have hi' : i < page - 4 ∧ i < (sealBody page next data).length := by rw [List.length_take] at hi; omega
    rw [List.getElem_take, Nat.zero_add]; exact hb3.cell hi'.2)).mono ?_
  rintro e w' ⟨rfl, rfl⟩
  have hcl := crcSum_lt ((sealBody page next data).take (page - 4))
  generalize hcs : crcSum ((sealBody page next data).take (page - 4)) = cs at *
  have hcsH := Lib.hid hcs; clear hcs
  go_wp2_with fail
  rw [hpgH.out]
  refine (seal_lay' _ k (page - 4) 4 4 (cs : Int) _ hb3 (by rw [lbH.out]; omega) (by omega) (by rw [lbH.out]; omega) (by omega) (by omega)).mono ?_
  rintro e w4 ⟨rfl, hb4, hg4, hs4⟩
  have hg4' := grown_fresh hg3' hg4 (fun i hi => by cases hi; rw [hkH.out]; exact Nat.le_refl _)
  have hs4H := Lib.hid (hs4.trans hs3H.out); clear hs4 hb3
  simp only [Int.toNat_natCast] at hb4
  go_wp2_with fail
  go_ret2
  have hk := hkH.out
  rw [hk]
  refine ⟨rfl, ?_, hg4', ?_⟩
  · unfold sealPage; rw [hcsH.out]; exact hb4
  · rw [hs4H.out]; simp [hk]
end Go.Proofs.Ytlppoimdfclbaaa
