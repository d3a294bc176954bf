/- The disk: Turn. -/
import Derived.Test.YtlppoimdfclbaaaDisk6
import Derived.Test.YtlppoimdfclbaaaSealF
import Derived.Laws.BitsAllLaws
set_option linter.unusedVariables false
set_option linter.unusedSimpArgs false
namespace Go.Proofs.Ytlppoimdfclbaaa
open Go.RowKit

section
variable {T : List Nat} {g g1 : Nat → Nat} {w w1 : World} {r : Nat} {D : Dk} {bm bf : Nat} {sv lv : Value} {es : Array MapEntry} {clock : Nat} {ents : List (Int × Value × List UInt8)} {free : List Int} {fl : List (Int × Int)} {high ops since : Int}

/-- A page's bytes are written in their place. -/
theorem DiskRaw.inPlace (h : DiskRaw g w r D bm bf sv lv es clock ents free fl high ops since) {n : Int} {pg : List UInt8} (hm : (n, pg) ∈ D.pages) :
    ∃ lb lc, (Instr.lookup 65 (.map (some bm)) (.int .i64 n) true).run Try.prog w = .ok (.tuple #[.slice (some ⟨lb, 0, none⟩) pg.length lc, .bool true]) w ∧ Row w (.slice (some ⟨lb, 0, none⟩) pg.length lc) pg ∧ pg.length = D.page ∧ g lb = r ∧
      ∀ (W : World) (q : List UInt8), w.grownBy W (some lb) → Row W (.slice (some ⟨lb, 0, none⟩) pg.length lc) q → q.length = D.page → DiskAt g W r { D with pages := pset D.pages n q } := by
  obtain ⟨pre, v, post, rfl, h1, h2⟩ := h.split hm
  have hp := h.rows (n, v, pg) (by simp)
  obtain ⟨k, hk, hg⟩ := hp.own
  simp only at hk hg
  rcases hp.row.2 with ⟨hv, _⟩ | ⟨b, cap, cur, hv, hrest⟩
  · simp only at hv; rw [hv] at hk; cases hk
  simp only at hv
  subst hv
  obtain rfl : b = k := by simpa [Value.ownBlock] using hk
  have hbb : w.heap[b]? = some (.cells cur 5 (0, 0)) := hrest.2.1
  refine ⟨b, cap, ?_, hp.row, hp.len, hg, fun W q hW hq hql => ?_⟩
  · have he := h.es
    rw [keysVals_append, keysVals_cons] at he
    exact run_lookup_found Try.underlying65 Try.underlying3 h.map he (fun t ht => by
      rw [keysVals, List.mem_map] at ht
      obtain ⟨t', ht', rfl⟩ := ht
      exact h1 t' ht')
  have hold : ∀ j o, w.heap[j]? = some o → j ≠ b → W.heap[j]? = some o := fun j o ho hj => by
    rw [hW.block j (lt_of_block ho) (fun e => hj (by cases e; rfl))]; exact ho
  have hne : ∀ {cs : Array Value} {t : TypeId} {j : Nat}, w.heap[j]? = some (.cells cs t (0, 0)) → t ≠ 5 → j ≠ b := fun hj ht e => by
    subst e
    rw [hbb] at hj
    simp only [Option.some.injEq, Obj.cells.injEq] at hj
    exact ht hj.2.1.symm
  have hrow : ∀ {base : Nat} {e : TypeId} {size m : Nat} {x : Value} {xs : List Value}, x.ownBlock ≠ some b → w.ownsRow base e size x m xs → W.ownsRow base e size x m xs := fun hx hr =>
    hr.kept hW (.inr hx)
  have hrow2 : ∀ {base : Nat} {e : TypeId} {size m : Nat} {x : Value} {xs : List Value}, e ≠ 5 → w.ownsRow base e size x m xs → W.ownsRow base e size x m xs := fun {base e size m x xs} hx hr =>
    hrow (fun hb => ownsRow_ne hr hb hbb (fun e' => hx e'.symm) rfl) hr
  have hmapne : bm ≠ b := fun e => by
    have := h.map
    rw [e, hbb] at this; cases this
  have hapart : ∀ t ∈ pre ++ post, t.2.1.ownBlock ≠ some b := by
    have ha := h.apart
    simp only [List.map_append, List.map_cons] at ha
    rw [List.nodup_append, List.nodup_cons] at ha
    intro t ht e
    rw [List.mem_append] at ht
    rcases ht with ht | ht
    · exact ha.2.2 _ (List.mem_map_of_mem (f := fun t => t.2.1.ownBlock) ht) _ (List.mem_cons_self ..) e
    · exact ha.2.1.1 (List.mem_map.2 ⟨t, ht, e⟩)
  have hpok : ∀ t ∈ pre ++ post, PageOk g W r D.page t := fun t ht => by
    have h3 := h.rows t (by
      simp only [List.mem_append, List.mem_cons] at ht ⊢
      rcases ht with ht | ht
      · exact .inl ht
      · exact .inr (.inr ht))
    exact ⟨hrow (hapart t ht) h3.row, h3.len, h3.own⟩
  refine ⟨bm, bf, sv, lv, es, clock, pre ++ (n, .slice (some ⟨b, 0, none⟩) pg.length cap, q) :: post, free, fl, high, ops, since, ?_⟩
  exact { blk := hold _ _ h.blk (hne h.blk (by decide))
          own := h.own
          map := hold _ _ h.map hmapne
          ownm := h.ownm
          es := by
            have := h.es
            rw [keysVals_append, keysVals_cons] at this ⊢
            exact this
          pg := by
            have hpg := h.pg
            rw [keysPages_append, keysPages_cons] at hpg ⊢
            simp only [hpg]
            rw [pset_split]
            · intro t ht; obtain ⟨t', h3, h4⟩ := mem_keysPages ht; rw [← h4]; exact h1 t' h3
            · intro t ht; obtain ⟨t', h3, h4⟩ := mem_keysPages ht; rw [← h4]; exact h2 t' h3
          rows := fun t ht => by
            rw [List.mem_append, List.mem_cons] at ht
            rcases ht with ht | rfl | ht
            · exact hpok t (List.mem_append_left _ ht)
            · exact ⟨hq, hql, b, rfl, hg⟩
            · exact hpok t (List.mem_append_right _ ht)
          apart := by
            have ha := h.apart
            simp only [List.map_append, List.map_cons] at ha ⊢
            exact ha
          flt := hrow2 (by decide) h.flt
          ownf := h.ownf
          fln := h.fln
          clean := h.clean
          valid := h.valid
          most := h.most
          nums := ⟨hold _ _ h.nums.blk (hne h.nums.blk (by decide)), hrow2 (by decide) h.nums.row, h.nums.own, h.nums.own2, h.nums.ne⟩
          nodup := by
            have := h.nodup
            rw [keysOf_append, keysOf_cons] at this ⊢
            exact this
          range := by
            have := h.range
            rw [keysOf_append, keysOf_cons] at this ⊢
            exact this
          count := by
            have := h.count
            simpa using this
          high := h.high }

theorem turn_byte (c : UInt8) (mask j bit : Nat) (hm : mask < 4294967296) :
    bits .xor .u8 (c.toNat : Int) (bits .and .u32 ((mask : Int) / 2 ^ j) 1 % 256 * 2 ^ ((bit + j) % 8) % 256) = ((c ^^^ UInt8.ofNat ((mask / 2 ^ j % 2) * 2 ^ ((bit + j) % 8))).toNat : Int) := by
  have h1 : ((mask : Int) / 2 ^ j) = ((mask / 2 ^ j : Nat) : Int) := by push_cast; rfl
  have h2 : mask / 2 ^ j < 4294967296 := Nat.lt_of_le_of_lt (Nat.div_le_self _ _) hm
  have h3 := u32_and_nat (mask / 2 ^ j) 1 h2 (by omega)
  rw [Nat.and_one_is_mod] at h3
  have h4 : ((1 : Nat) : Int) = 1 := rfl
  rw [h4] at h3
  rw [h1, h3]
  generalize hx : mask / 2 ^ j % 2 = x
  have hx2 : x ≤ 1 := by omega
  have hp : 2 ^ ((bit + j) % 8) ≤ 2 ^ 7 := Nat.pow_le_pow_right (by omega) (by omega)
  have hlt : x * 2 ^ ((bit + j) % 8) < 256 := by
    have := Nat.mul_le_mul hx2 hp
    omega
  have h5 : ((x : Int) % 256 * 2 ^ ((bit + j) % 8) % 256) = ((x * 2 ^ ((bit + j) % 8) : Nat) : Int) := by
    have e1 : (x : Int) % 256 = x := by omega
    have e2 : (x : Int) * 2 ^ ((bit + j) % 8) = ((x * 2 ^ ((bit + j) % 8) : Nat) : Int) := by push_cast; rfl
    rw [e1, e2]
    generalize x * 2 ^ ((bit + j) % 8) = y at hlt ⊢
    omega
  rw [h5, u8_xor_nat _ _ c.toNat_lt hlt, UInt8.toNat_xor, UInt8.toNat_ofNat', Nat.mod_eq_of_lt (show x * 2 ^ ((bit + j) % 8) < 2 ^ 8 from hlt)]

set_option maxRecDepth 100000 in
set_option maxHeartbeats 2000000 in
theorem disk_turn (h : DiskAt g w r D) (n : Int) (pg : List UInt8) (hm : (n, pg) ∈ D.pages) (bit mask : Nat) (hb : bit + 32 ≤ 8 * D.page) (hmk : mask < 4294967296) :
    Calls Try.prog 32 #[.pointer (some ⟨r, 0, none⟩), .int .i64 n, .int .i64 bit, .int .u32 mask] w fun e w' => e = .returned (.bool true) ∧ DiskAt g w' r { D with pages := pset D.pages n (turnTo pg bit mask 32) } ∧ Step [r] g g w w' := by
  obtain ⟨bm, bf, sv, lv, es, clock, ents, free, fl, high, ops, since, h⟩ := h
  obtain ⟨lb, lc, hlk, hrow, hlen, hgb, hfin⟩ := h.inPlace hm
  rw [hlen] at hlk hrow hfin
  have c2 : w.cell? ⟨r, 2, none⟩ = some (.map (some bm)) := h.cell rfl
  have hv := h.valid.hi
  have hH := Lib.hid h
  obtain ⟨page, hpage⟩ : ∃ page, page = D.page := ⟨_, rfl⟩
  rw [← hpage] at hlk hrow hfin hlen hb hv
  have hrowH := Lib.hid hrow
  have hlenH := Lib.hid hlen
  have hfinH := Lib.hid hfin
  have hpageH := Lib.hid hpage
  have hb1 : ¬ ((8 : Int) * (page : Int) ≤ (bit : Int)) := by omega
  have hb0 : ¬ ((bit : Int) < 0) := by omega
  have hmin : ¬ ((8 : Int) * (page : Int) - (bit : Int) < 32) := by omega
  have hmin2 : (32 : Int) ≤ (8 : Int) * (page : Int) - (bit : Int) := by omega
  clear h hrow hlen hfin hpage
  go_enter Try.func32, Try.ntmps32
  go_wp2_with fail
  refine (disk_made hH.out).mono ?_
  rintro e w' ⟨rfl, rfl⟩
  go_wp2_with fail
  have hgr0 := grown_refl w (some lb)
  have hgr0H := Lib.hid hgr0
  clear hgr0
  go_loopw [44] (fun i wr => ∃ (j : Nat), i = .int .i64 j ∧ j ≤ 32 ∧ Row wr (.slice (some ⟨lb, 0, none⟩) page lc) (turnTo pg bit mask j) ∧ w.grownBy wr (some lb)) (fun i _ => 32 - (intOf i).toNat)
  case atStart => exact ⟨0, rfl, by omega, hrowH.out, hgr0H.out⟩
  case round =>
    obtain ⟨j, rfl, hj, hrw, hgw⟩ := hrel
    have hrwH := Lib.hid hrw
    have hgwH := Lib.hid hgw
    clear hrw hgw
    by_cases hjl : j < 32
    · have hjl1 : (j : Int) < 32 := by omega
      have hlj : (turnTo pg bit mask j).length = page := by rw [turnTo_length]; exact hlenH.out
      have hix : (bit + j) / 8 < page := by omega
      obtain ⟨c, hc⟩ : ∃ c, c = (turnTo pg bit mask j)[(bit + j) / 8]'(by rw [hlj]; exact hix) := ⟨_, rfl⟩
      have hcell : wr.cell? ⟨lb, (bit + j) / 8, none⟩ = some (.int .u8 (c.toNat : Int)) := by
        obtain ⟨b', cap', h1, _, _, h4⟩ := hrwH.out.page hlj (by omega)
        injection h1 with e1 e2 e3
        injection e1 with e1
        injection e1 with e1 e4 e5
        subst e1
        rw [hc]; exact h4 _ _
      have hfr : ∀ o, wr.frozen? ⟨lb, o, none⟩ = false := by
        rcases hrwH.out.2 with ⟨h, _⟩ | ⟨gb, cap, cur, h, _, hg, _⟩
        · cases h
        · injection h with e1 e2 e3
          injection e1 with e1
          injection e1 with e1 e4 e5
          subst e1
          exact free_blk hg
      have hi0 : (0 : Int) ≤ ((bit : Int) + (j : Int)) / 8 := by omega
      have hi1 : ((bit : Int) + (j : Int)) / 8 < (page : Int) := by omega
      have hi2 : ((bit : Int) + (j : Int)).toNat = bit + j := by omega
      have hr0 : (0 : Int) ≤ ((bit : Int) + (j : Int)) % 8 := by omega
      have hr1 : ((bit : Int) + (j : Int)) % 8 < 8 := by omega
      have hcH := Lib.hid hc
      clear hc
      go_wp2_with fail
      go_region
      rw [turn_byte c mask j bit hmk]
      obtain ⟨c2, hc2⟩ : ∃ c2, c2 = c ^^^ UInt8.ofNat ((mask / 2 ^ j % 2) * 2 ^ ((bit + j) % 8)) := ⟨_, rfl⟩
      rw [← hc2]
      have hst := hrwH.out.stored rfl ((bit + j) / 8) c2
      have hto : (turnTo pg bit mask j).set ((bit + j) / 8) c2 = turnTo pg bit mask (j + 1) := by
        rw [turnTo, turnStep, hc2, hcH.out, List.getD_eq_getElem?_getD, List.getElem?_eq_getElem (by rw [hlj]; exact hix), Option.getD_some]
      rw [hto] at hst
      have hgw2 : w.grownBy ((wr.setCell ⟨lb, (bit + j) / 8, none⟩ (.int .u8 (c2.toNat : Int))).drew) (some lb) := by
        refine (hgwH.out.trans ?_).trans (grown_drew _ _)
        exact ⟨rfl, rfl, rfl, by simp [World.setCell], fun k hk hne => Below.heap_setCell _ _ _ _ (fun e => hne (by rw [e]))⟩
      have hstH := Lib.hid hst
      have hgw2H := Lib.hid hgw2
      have hwrap : IntKind.i64.wrap ((j : Int) + 1) = (j : Int) + 1 := IntWalk.i64_in _ (by omega)
      clear hst hto hgw2 hc2
      go_wp2_with fail
      exact ⟨⟨j + 1, by simp, hjl, hstH.out, hgw2H.out⟩, by simp only [intOf]; omega⟩
    · have hje : j = 32 := by omega
      have hd := hfinH.out wr _ hgwH.out hrwH.out (by rw [turnTo_length]; exact hlenH.out)
      rw [hje, hpageH.out] at hd
      have hdH := Lib.hid hd
      clear hje hd
      go_wp2_with fail
      go_ret
      exact ⟨rfl, hdH.out, .grown hgwH.out (fun k hk => by cases hk; rw [hgb]; simp)⟩
end
end Go.Proofs.Ytlppoimdfclbaaa
