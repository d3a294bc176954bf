/- Documents, plain: what they are, their bytes, what bytes say. No program, no memory. Documents, plain: numbers' bytes, digits, texts. Documents, plain: what is encoded is decoded as it was. -/
import Derived.Test.YtembpajlllnncaaGreatDoorLe
set_option linter.unusedVariables false
set_option linter.unusedSimpArgs false
namespace Go.Proofs.YtembpajlllnncaaGreatDoor

abbrev Bs := List UInt8
/-- A value: its kind, its number, its text, its bytes, its fields, its items. -/
inductive Val where
 | mk (kind n : Int) (s b : Bs) (f : List (Bs × Val)) (l : List Val)
def Val.kind : Val → Int | .mk k _ _ _ _ _ => k
def Val.num : Val → Int | .mk _ n _ _ _ _ => n
def Val.s : Val → Bs | .mk _ _ s _ _ _ => s
def Val.b : Val → Bs | .mk _ _ _ b _ _ => b
def Val.f : Val → List (Bs × Val) | .mk _ _ _ _ f _ => f
def Val.l : Val → List Val | .mk _ _ _ _ _ l => l
/-- A value of a kind and no more. -/
def Val.bare (k : Int) : Val := .mk k 0 [] [] [] []
def Val.doc (f : List (Bs × Val)) : Val := .mk 6 0 [] [] f []
def Val.list (l : List Val) : Val := .mk 7 0 [] [] [] l

/-- A kind's byte; 0: it has none. -/
def codeOf (k : Int) : UInt8 :=
 if k = 1 then 255 else if k = 2 then 10 else if k = 3 then 16 else if k = 4 then 18 else if k = 5 then 2 else if k = 6 then 3 else if k = 7 then 4 else if k = 8 then 5 else if k = 9 then 7 else if k = 10 then 8 else if k = 11 then 9 else if k = 12 then 127 else 0

/-- A number's decimal digits. -/
def itoa (n : Nat) : Bs := if h : n < 10 then [UInt8.ofNat (48 + n)] else itoa (n / 10) ++ [UInt8.ofNat (48 + n % 10)]
termination_by n
decreasing_by omega

/-- So many bytes of a number, the lowest first. -/
def layI (w : Nat) (n : Int) : Bs := leBytes w (n % 18446744073709551616).toNat

/-- Fields between their length and a 0. -/
def wrapDoc (body : Bs) : Bs := layI 4 (body.length + 5 : Nat) ++ (body ++ [0])

mutual
/-- A value's own bytes. -/
def encV : Val → Bs
 | .mk k n s b f l =>
  if k = 3 then layI 4 n else if k = 4 then layI 8 n else if k = 11 then layI 8 n else if k = 10 then layI 1 n
  else if k = 5 then layI 4 (s.length + 1 : Nat) ++ (s ++ [0])
  else if k = 6 then wrapDoc (encFs f)
  else if k = 7 then wrapDoc (encLs 0 l)
  else if k = 8 then layI 4 b.length ++ (0 :: b)
  else if k = 9 then b else []
def encFs : List (Bs × Val) → Bs
 | [] => []
 | (nm, v) :: r => codeOf v.kind :: (nm ++ (0 :: (encV v ++ encFs r)))
def encLs : Nat → List Val → Bs
 | _, [] => []
 | i, v :: r => codeOf v.kind :: (itoa i ++ (0 :: (encV v ++ encLs (i + 1) r)))
end

/-- Is it a text: the document's own rule. -/
def cont (lo hi : UInt8) (c : UInt8) : Bool := decide (lo ≤ c) && decide (c ≤ hi)
def utf8 : Bs → Bool
 | [] => true
 | c :: r =>
  if c < 128 then utf8 r
  else if c < 194 then false
  else if c ≤ 223 then match r with
   | x :: r => cont 128 191 x && utf8 r
   | _ => false
  else if c ≤ 239 then match r with
   | x :: y :: r => cont (if c = 224 then 160 else 128) (if c = 237 then 159 else 191) x && (cont 128 191 y && utf8 r)
   | _ => false
  else if c ≤ 244 then match r with
   | x :: y :: z :: r => cont (if c = 240 then 144 else 128) (if c = 244 then 143 else 191) x && (cont 128 191 y && (cont 128 191 z && utf8 r))
   | _ => false
  else false

/-- May a field have that name? -/
def nameOk (s : Bs) : Bool := utf8 s && decide (s.length ≤ 120) && decide ((0 : UInt8) ∉ s)

/-- Are all parts but its kind's zero? -/
def Val.plain : Val → Bool
 | .mk k n s b f l =>
  (decide (k = 3 ∨ k = 4 ∨ k = 10 ∨ k = 11) || decide (n = 0)) && (decide (k = 5) || s.isEmpty) && (decide (k = 8 ∨ k = 9) || b.isEmpty) && (decide (k = 6) || f.isEmpty) && (decide (k = 7) || l.isEmpty)

mutual
/-- May a value stand in a document that is so deep (its length left aside)? -/
def okV (deep : Nat) : Val → Bool
 | .mk k n s b f l =>
  (Val.mk k n s b f l).plain && decide (codeOf k ≠ 0) &&
  (if k = 3 then decide (-2147483648 ≤ n ∧ n ≤ 2147483647) else if k = 4 ∨ k = 11 then decide (-9223372036854775808 ≤ n ∧ n ≤ 9223372036854775807) else if k = 10 then decide (n = 0 ∨ n = 1) else if k = 5 then utf8 s
   else if k = 6 then decide (deep + 1 ≤ 32) && okFs (deep + 1) [] f
   else if k = 7 then decide (deep + 1 ≤ 32) && okLs (deep + 1) l
   else if k = 9 then decide (b.length = 12) else true)
def okFs (deep : Nat) (seen : List Bs) : List (Bs × Val) → Bool
 | [] => true
 | (nm, v) :: r => nameOk nm && decide (nm ∉ seen) && okV deep v && okFs deep (nm :: seen) r
def okLs (deep : Nat) : List Val → Bool
 | [] => true
 | v :: r => okV deep v && okLs deep r
end

/-- May it be a document? -/
def okDoc (v : Val) : Bool := decide (v.kind = 6) && v.plain && okFs 1 [] v.f && decide ((wrapDoc (encFs v.f)).length ≤ 65536)
def sizeOf_ (v : Val) : Nat := if okDoc v then (wrapDoc (encFs v.f)).length else 0
/-- A document's bytes, or that it may not be one. -/
def encode (v : Val) : Option Bs := if okDoc v then some (wrapDoc (encFs v.f)) else none

/-! ### what bytes say -/
/-- A number of so many bytes at a place. -/
def numAt (b : Bs) (at_ w : Nat) : Nat := leVal ((b.drop at_).take w)
/-- .. with its sign. -/
def signed (w : Nat) (n : Nat) : Int := if n < 2 ^ (8 * w - 1) then n else (n : Int) - 2 ^ (8 * w)

def known (k : UInt8) : Bool := decide (k ∈ ([255, 10, 16, 18, 2, 3, 4, 5, 7, 8, 9, 127, 1, 19] : List UInt8))

inductive Res (α : Type) where
 | ok (x : α) (at_ : Nat)
 | bad (e : Int)
def Res.bind {α β : Type} : Res α → (α → Nat → Res β) → Res β
 | .ok x a, f => f x a
 | .bad e, _ => .bad e

/-- Values without parts; the fields of documents are read by what is handed in. -/
def decV (b : Bs) (fields : Bool → Nat → Res (List (Bs × Val))) (kind : UInt8) (a : Nat) : Res Val :=
 if kind = 2 then
  if b.length - a < 4 then .bad 2 else
  let n := signed 4 (numAt b a 4)
  if n < 1 then .bad 4 else
  if (b.length : Int) - (a + 4 : Nat) < n then .bad 2 else
  let s := (b.drop (a + 4)).take (n.toNat - 1)
  if (b.drop (a + 4)).getD (n.toNat - 1) 1 ≠ 0 then .bad 4 else
  if utf8 s then .ok (.mk 5 0 s [] [] []) (a + 4 + n.toNat) else .bad 5
 else if kind = 3 then (fields false a).bind fun f a => .ok (.doc f) a
 else if kind = 4 then (fields true a).bind fun f a => .ok (.list (f.map (·.2))) a
 else if kind = 5 then
  if b.length - a < 5 then .bad 2 else
  let n := signed 4 (numAt b a 4)
  if n < 0 then .bad 4 else
  if numAt b (a + 4) 1 ≠ 0 then .bad 4 else
  if (b.length : Int) - (a + 5 : Nat) < n then .bad 2 else
  .ok (.mk 8 0 [] ((b.drop (a + 5)).take n.toNat) [] []) (a + 5 + n.toNat)
 else if kind = 7 then if b.length - a < 12 then .bad 2 else .ok (.mk 9 0 [] ((b.drop a).take 12) [] []) (a + 12)
 else if kind = 8 then
  if b.length - a < 1 then .bad 2 else
  if numAt b a 1 ≤ 1 then .ok (.mk 10 (numAt b a 1) [] [] [] []) (a + 1) else .bad 4
 else if kind = 9 then if b.length - a < 8 then .bad 2 else .ok (.mk 11 (signed 8 (numAt b a 8)) [] [] [] []) (a + 8)
 else if kind = 10 then .ok (.bare 2) a
 else if kind = 16 then if b.length - a < 4 then .bad 2 else .ok (.mk 3 (signed 4 (numAt b a 4)) [] [] [] []) (a + 4)
 else if kind = 18 then if b.length - a < 8 then .bad 2 else .ok (.mk 4 (signed 8 (numAt b a 8)) [] [] [] []) (a + 8)
 else if kind = 1 then if b.length - a < 8 then .bad 2 else .bad 8
 else if kind = 19 then if b.length - a < 16 then .bad 2 else .bad 8
 else if kind = 255 then .ok (.bare 1) a
 else if kind = 127 then .ok (.bare 12) a
 else .bad 9

/-- The first 0 from a place on. -/
def zeroFrom (b : Bs) (a : Nat) : Option Nat := (b.drop a).findIdx? (· == 0)

/-- Fields one after another, up to a 0: those that were read, and their names. -/
def decFs (b : Bs) (rec_ : Bool → Nat → Res (List (Bs × Val))) (items : Bool) : Nat → List (Bs × Val) → Nat → Res (List (Bs × Val))
 | 0, _, _ => .bad 2
 | fuel + 1, l, a =>
  match b[a]? with
  | none => .bad 2
  | some kind =>
   if kind = 0 then .ok l (a + 1) else
   if known kind = false then .bad 9 else
   match zeroFrom b (a + 1) with
   | none => .bad 2
   | some n =>
    let s := (b.drop (a + 1)).take n
    if utf8 s = false then .bad 5 else
    if 120 < s.length then .bad 15 else
    if items = true ∧ s ≠ itoa l.length then .bad 4 else
    if s ∈ l.map (·.1) then .bad 6 else
    (decV b rec_ kind (a + 1 + n + 1)).bind fun v a => decFs b rec_ items fuel (l ++ [(s, v)]) a

/-- The fields of a document that is so deep. -/
def decDoc (b : Bs) : Nat → Nat → Bool → Nat → Res (List (Bs × Val))
 | 0, _, _, _ => .bad 7
 | fuel + 1, deep, items, a =>
  if 32 < deep then .bad 7 else
  if b.length - a < 4 then .bad 2 else
  let n := signed 4 (numAt b a 4)
  if n < 5 then .bad 4 else
  (decFs b (fun items a => decDoc b fuel (deep + 1) items a) items (b.length + 1) [] (a + 4)).bind fun l a' =>
   if ((a' : Int) - a) = n then .ok l a' else .bad 4

/-- The document of bytes. -/
def decode (b : Bs) : Res Val :=
 if 65536 < b.length then .bad 3 else
 if b.length < 4 then .bad 2 else
 if signed 4 (numAt b 0 4) < 5 then .bad 4 else
 if signed 4 (numAt b 0 4) ≠ b.length then .bad 4 else
 (decDoc b 34 1 false 0).bind fun f a => .ok (.doc f) a
end Go.Proofs.YtembpajlllnncaaGreatDoor
namespace Go.Proofs.YtembpajlllnncaaGreatDoor

theorem layI_length (w : Nat) (n : Int) : (layI w n).length = w := leBytes_length _ _
theorem leVal_layI (w : Nat) (n : Int) : leVal (layI w n) = (n % 18446744073709551616).toNat % 256 ^ w := leVal_leBytes _ _
theorem numAt_at {pre x post : Bs} {a w : Nat} (ha : a = pre.length) (hw : x.length = w) : numAt (pre ++ (x ++ post)) a w = leVal x := by
 unfold numAt
 subst ha hw
 rw [List.drop_append, List.drop_of_length_le (Nat.le_refl _), List.nil_append, Nat.sub_self, List.drop_zero, List.take_append_of_le_length (Nat.le_refl _), List.take_of_length_le (Nat.le_refl _)]
/-- A number within 32 bits comes back. -/
theorem signed_lay4 {n : Int} (h0 : -2147483648 ≤ n) (h1 : n ≤ 2147483647) : signed 4 (leVal (layI 4 n)) = n := by
 rw [leVal_layI]
 unfold signed
 have e : (256 : Nat) ^ 4 = 4294967296 := rfl
 rw [e]
 simp only [show 8 * 4 - 1 = 31 from rfl, show 8 * 4 = 32 from rfl, show (2 : Nat) ^ 31 = 2147483648 from rfl, show (2 : Int) ^ 32 = 4294967296 from rfl]
 split <;> omega
theorem signed_lay8 {n : Int} (h0 : -9223372036854775808 ≤ n) (h1 : n ≤ 9223372036854775807) : signed 8 (leVal (layI 8 n)) = n := by
 rw [leVal_layI]
 unfold signed
 have e : (256 : Nat) ^ 8 = 18446744073709551616 := rfl
 rw [e]
 simp only [show 8 * 8 - 1 = 63 from rfl, show 8 * 8 = 64 from rfl, show (2 : Nat) ^ 63 = 9223372036854775808 from rfl, show (2 : Int) ^ 64 = 18446744073709551616 from rfl]
 split <;> omega
theorem leVal_lay1 {n : Int} (h0 : 0 ≤ n) (h1 : n ≤ 255) : leVal (layI 1 n) = n.toNat := by
 rw [leVal_layI]
 have e : (256 : Nat) ^ 1 = 256 := rfl
 rw [e]; omega

/-! digits -/
theorem itoa_small {n : Nat} (h : n < 10) : itoa n = [UInt8.ofNat (48 + n)] := by rw [itoa, dif_pos h]
theorem itoa_big {n : Nat} (h : ¬ n < 10) : itoa n = itoa (n / 10) ++ [UInt8.ofNat (48 + n % 10)] := by rw [itoa, dif_neg h]
def digitOk (c : UInt8) : Prop := 48 ≤ c.toNat ∧ c.toNat ≤ 57
theorem itoa_digits (n : Nat) : ∀ c ∈ itoa n, digitOk c := by
 induction n using Nat.strongRecOn with
 | _ n ih =>
  by_cases h : n < 10
  ·rw [itoa_small h]
   intro c hc
   rw [List.mem_singleton] at hc
   subst hc
   unfold digitOk
   rw [UInt8.toNat_ofNat']; omega
  ·rw [itoa_big h]
   intro c hc
   rw [List.mem_append, List.mem_singleton] at hc
   rcases hc with hc | rfl
   ·exact ih _ (by omega) c hc
   ·unfold digitOk
    rw [UInt8.toNat_ofNat']; omega
/-- The number that digits say. -/
def digitVal (l : Bs) : Nat := l.foldl (fun n c => n * 10 + (c.toNat - 48)) 0
theorem digitVal_itoa (n : Nat) : digitVal (itoa n) = n := by
 induction n using Nat.strongRecOn with
 | _ n ih =>
  by_cases h : n < 10
  ·rw [itoa_small h]
   simp only [digitVal, List.foldl_cons, List.foldl_nil, UInt8.toNat_ofNat']
   omega
  ·rw [itoa_big h]
   have h1 := ih (n / 10) (by omega)
   unfold digitVal at h1 ⊢
   rw [List.foldl_append, h1]
   simp only [List.foldl_cons, List.foldl_nil, UInt8.toNat_ofNat']
   omega
theorem itoa_inj {m n : Nat} (h : itoa m = itoa n) : m = n := by
 have := congrArg digitVal h
 rwa [digitVal_itoa, digitVal_itoa] at this
theorem itoa_length : ∀ (k n : Nat), n < 10 ^ (k + 1) → (itoa n).length ≤ k + 1
 | 0, n, h => by rw [itoa_small (by omega)]; simp
 | k + 1, n, h => by
  by_cases h1 : n < 10
  ·rw [itoa_small h1]; simp
  ·rw [itoa_big h1, List.length_append, List.length_singleton]
   have := itoa_length k (n / 10) (by rw [Nat.pow_succ] at h; omega)
   omega
theorem itoa_pos (n : Nat) : itoa n ≠ [] := by
 by_cases h : n < 10
 ·rw [itoa_small h]; simp
 ·rw [itoa_big h]; simp

/-- Bytes below 128 are a text. -/
theorem utf8_ascii : ∀ l : Bs, (∀ c ∈ l, c.toNat < 128) → utf8 l = true
 | [], _ => by rw [utf8]
 | c :: r, h => by
  have h1 : c < 128 := by
   have := h c (List.mem_cons_self ..)
   exact UInt8.lt_iff_toNat_lt.2 (by simpa using this)
  unfold utf8
  rw [if_pos h1]
  exact utf8_ascii r fun x hx => h x (List.mem_cons_of_mem _ hx)
theorem itoa_nameOk {n : Nat} (h : n < 10 ^ 20) : nameOk (itoa n) = true := by
 have hd := itoa_digits n
 unfold nameOk
 rw [utf8_ascii _ (fun c hc => by have := hd c hc; unfold digitOk at this; omega)]
 have h1 := itoa_length 19 n h
 have h2 : (0 : UInt8) ∉ itoa n := fun hc => by
  have := hd 0 hc
  unfold digitOk at this
  simp at this
 simp [h2]; omega

/-! the first 0 -/
theorem zeroFrom_at {pre nm post : Bs} {a : Nat} (ha : a = pre.length) (h0 : (0 : UInt8) ∉ nm) : zeroFrom (pre ++ (nm ++ (0 :: post))) a = some nm.length := by
 unfold zeroFrom
 subst ha
 rw [List.drop_append, List.drop_of_length_le (Nat.le_refl _), List.nil_append, Nat.sub_self, List.drop_zero]
 induction nm with
 | nil => rfl
 | cons c r ih =>
  have hc : ¬ (c == 0) = true := by
   simp only [beq_iff_eq]
   intro e
   exact h0 (by rw [e]; exact List.mem_cons_self ..)
  rw [List.cons_append, List.findIdx?_cons, if_neg hc, ih (fun h => h0 (List.mem_cons_of_mem _ h))]
  rfl
theorem zeroFrom_some {b : Bs} {a n : Nat} (h : zeroFrom b a = some n) : a + n < b.length ∧ (b.drop a).getD n 1 = 0 ∧ (0 : UInt8) ∉ (b.drop a).take n := by
 unfold zeroFrom at h
 rw [List.findIdx?_eq_some_iff_getElem] at h
 obtain ⟨h1, h2, h3⟩ := h
 rw [List.length_drop] at h1
 refine ⟨by omega, ?_, ?_⟩
 ·rw [List.getD_eq_getElem?_getD, List.getElem?_eq_getElem (by rw [List.length_drop]; omega)]
  simpa using h2
 ·intro hm
  rw [List.mem_take_iff_getElem] at hm
  obtain ⟨j, hj, e⟩ := hm
  have := h3 j (by omega)
  rw [e] at this
  simp at this
end Go.Proofs.YtembpajlllnncaaGreatDoor
namespace Go.Proofs.YtembpajlllnncaaGreatDoor

/-- x lies at a in b. -/
def At (b : Bs) (a : Nat) (x : Bs) : Prop := ∃ pre post, b = pre ++ (x ++ post) ∧ a = pre.length
section
variable {b x y : Bs} {a : Nat}
theorem At.le (h : At b a x) : a + x.length ≤ b.length := by
 obtain ⟨pre, post, rfl, rfl⟩ := h
 simp only [List.length_append]; omega
theorem At.left (h : At b a (x ++ y)) : At b a x := by
 obtain ⟨pre, post, rfl, rfl⟩ := h
 exact ⟨pre, y ++ post, by simp, rfl⟩
theorem At.right (h : At b a (x ++ y)) : At b (a + x.length) y := by
 obtain ⟨pre, post, rfl, rfl⟩ := h
 exact ⟨pre ++ x, post, by simp, by simp⟩
theorem At.head {c : UInt8} (h : At b a (c :: x)) : b[a]? = some c := by
 obtain ⟨pre, post, rfl, rfl⟩ := h
 rw [List.getElem?_append_right (Nat.le_refl _), Nat.sub_self]; rfl
theorem At.tail {c : UInt8} (h : At b a (c :: x)) : At b (a + 1) x := At.right (x := [c]) h
theorem At.num (h : At b a x) {w : Nat} (hw : x.length = w) : numAt b a w = leVal x := by
 obtain ⟨pre, post, rfl, rfl⟩ := h
 exact numAt_at rfl hw
theorem At.bytes (h : At b a x) {n : Nat} (hn : x.length = n) : (b.drop a).take n = x := by
 obtain ⟨pre, post, rfl, rfl⟩ := h
 subst hn
 rw [List.drop_append, List.drop_of_length_le (Nat.le_refl _), List.nil_append, Nat.sub_self, List.drop_zero, List.take_append_of_le_length (Nat.le_refl _), List.take_of_length_le (Nat.le_refl _)]
theorem At.get (h : At b a x) {i : Nat} (hi : i < x.length) (d : UInt8) : (b.drop a).getD i d = x[i] := by
 obtain ⟨pre, post, rfl, rfl⟩ := h
 rw [List.drop_append, List.drop_of_length_le (Nat.le_refl _), List.nil_append, Nat.sub_self, List.drop_zero, List.getD_eq_getElem?_getD, List.getElem?_append_left hi, List.getElem?_eq_getElem hi]; rfl
theorem At.zero {nm : Bs} (h : At b a (nm ++ (0 :: x))) (h0 : (0 : UInt8) ∉ nm) : zeroFrom b a = some nm.length := by
 obtain ⟨pre, post, rfl, rfl⟩ := h
 have := zeroFrom_at (pre := pre) (nm := nm) (post := x ++ post) rfl h0
 simpa using this
theorem At.refl (b : Bs) : At b 0 b := ⟨[], [], by simp, rfl⟩
end

theorem wrapDoc_length (body : Bs) : (wrapDoc body).length = body.length + 5 := by
 unfold wrapDoc
 rw [List.length_append, layI_length, List.length_append, List.length_singleton]; omega
theorem codeOf_known {k : Int} (h : codeOf k ≠ 0) : (k = 1 ∨ k = 2 ∨ k = 3 ∨ k = 4 ∨ k = 5 ∨ k = 6 ∨ k = 7 ∨ k = 8 ∨ k = 9 ∨ k = 10 ∨ k = 11 ∨ k = 12) ∧ known (codeOf k) = true := by
 unfold codeOf at h ⊢
 by_cases h1 : k = 1; · subst h1; exact ⟨by omega, by decide⟩
 by_cases h2 : k = 2; · subst h2; exact ⟨by omega, by decide⟩
 by_cases h3 : k = 3; · subst h3; exact ⟨by omega, by decide⟩
 by_cases h4 : k = 4; · subst h4; exact ⟨by omega, by decide⟩
 by_cases h5 : k = 5; · subst h5; exact ⟨by omega, by decide⟩
 by_cases h6 : k = 6; · subst h6; exact ⟨by omega, by decide⟩
 by_cases h7 : k = 7; · subst h7; exact ⟨by omega, by decide⟩
 by_cases h8 : k = 8; · subst h8; exact ⟨by omega, by decide⟩
 by_cases h9 : k = 9; · subst h9; exact ⟨by omega, by decide⟩
 by_cases h10 : k = 10; · subst h10; exact ⟨by omega, by decide⟩
 by_cases h11 : k = 11; · subst h11; exact ⟨by omega, by decide⟩
 by_cases h12 : k = 12; · subst h12; exact ⟨by omega, by decide⟩
 simp [h1, h2, h3, h4, h5, h6, h7, h8, h9, h10, h11, h12] at h

theorem nameOk_parts {s : Bs} (h : nameOk s = true) : utf8 s = true ∧ s.length ≤ 120 ∧ (0 : UInt8) ∉ s := by
 unfold nameOk at h
 simp only [Bool.and_eq_true, decide_eq_true_eq] at h
 exact ⟨h.1.1, h.1.2, h.2⟩

/-- A list's items as fields. -/
def named : Nat → List Val → List (Bs × Val)
 | _, [] => []
 | i, v :: r => (itoa i, v) :: named (i + 1) r
theorem named_snd : ∀ (i : Nat) (l : List Val), (named i l).map (·.2) = l
 | _, [] => rfl
 | i, v :: r => by simp [named, named_snd (i + 1) r]

/-- One field is read. -/
theorem decFs_one {b : Bs} {rec_ : Bool → Nat → Res (List (Bs × Val))} {items : Bool} {fuel : Nat} {acc : List (Bs × Val)} {a : Nat} {nm rest : Bs} {v : Val} {kind : UInt8} {n : Nat}
  (hk : known kind = true) (hk0 : kind ≠ 0) (h : At b a (kind :: (nm ++ (0 :: rest)))) (hnm : nameOk nm = true) (hit : items = true → nm = itoa acc.length) (hno : nm ∉ acc.map (·.1))
  (hv : decV b rec_ kind (a + 1 + nm.length + 1) = .ok v n) : decFs b rec_ items (fuel + 1) acc a = decFs b rec_ items fuel (acc ++ [(nm, v)]) n := by
 obtain ⟨h1, h2, h3⟩ := nameOk_parts hnm
 rw [decFs, h.head]
 simp only
 rw [if_neg hk0, hk, h.tail.zero h3]
 simp only [Bool.true_eq_false, if_false]
 rw [h.tail.left.bytes rfl, h1]
 simp only [Bool.true_eq_false, if_false]
 rw [if_neg (by omega), if_neg (fun e => e.2 (hit e.1)), if_neg hno, hv]
 rfl

theorem decFs_end {b : Bs} {rec_ : Bool → Nat → Res (List (Bs × Val))} {items : Bool} {fuel : Nat} {acc : List (Bs × Val)} {a : Nat} {rest : Bs} (h : At b a (0 :: rest)) : decFs b rec_ items (fuel + 1) acc a = .ok acc (a + 1) := by
 rw [decFs, h.head]
 simp

/-- A document is read, its fields are. -/
theorem decDoc_of {b : Bs} {fuel deep : Nat} {items : Bool} {a : Nat} {body : Bs} {l : List (Bs × Val)} (hd : deep ≤ 32) (h : At b a (wrapDoc body)) (hb : body.length ≤ 65536)
  (hf : decFs b (fun items a => decDoc b fuel (deep + 1) items a) items (b.length + 1) [] (a + 4) = .ok l (a + 4 + body.length + 1)) : decDoc b (fuel + 1) deep items a = .ok l (a + (wrapDoc body).length) := by
 have hle := h.le
 rw [wrapDoc_length] at hle ⊢
 have hnum : signed 4 (numAt b a 4) = (body.length : Int) + 5 := by
  unfold wrapDoc at h
  rw [h.left.num (layI_length _ _), signed_lay4 (by omega) (by omega)]; push_cast; rfl
 rw [decDoc, if_neg (by omega), if_neg (by omega)]
 simp only [hnum]
 rw [if_neg (by omega), hf]
 simp only [Res.bind]
 rw [if_pos (by push_cast; omega)]
 congr 1
 omega

theorem plain_parts {k n : Int} {s b : Bs} {f : List (Bs × Val)} {l : List Val} (h : (Val.mk k n s b f l).plain = true) :
  (¬ (k = 3 ∨ k = 4 ∨ k = 10 ∨ k = 11) → n = 0) ∧ (k ≠ 5 → s = []) ∧ (¬ (k = 8 ∨ k = 9) → b = []) ∧ (k ≠ 6 → f = []) ∧ (k ≠ 7 → l = []) := by
 unfold Val.plain at h
 simp only [Bool.and_eq_true, Bool.or_eq_true, decide_eq_true_eq, List.isEmpty_iff] at h
 obtain ⟨⟨⟨⟨h1, h2⟩, h3⟩, h4⟩, h5⟩ := h
 exact ⟨fun e => h1.resolve_left e, fun e => h2.resolve_left e, fun e => h3.resolve_left e, fun e => h4.resolve_left e, fun e => h5.resolve_left e⟩

theorem encFs_len : ∀ f : List (Bs × Val), f.length ≤ (encFs f).length
 | [] => by simp [encFs]
 | (nm, v) :: r => by
  have := encFs_len r
  simp [encFs]; omega
theorem encLs_len : ∀ (l : List Val) (i : Nat), l.length ≤ (encLs i l).length
 | [], _ => by simp [encLs]
 | v :: r, i => by
  have := encLs_len r (i + 1)
  simp [encLs]; omega

mutual
theorem dec_encV (b : Bs) : ∀ (v : Val) (fuel deep a : Nat), okV deep v = true → At b a (encV v) → (encV v).length ≤ 65536 → 33 ≤ fuel + deep →
  decV b (fun items a => decDoc b fuel (deep + 1) items a) (codeOf v.kind) a = .ok v (a + (encV v).length)
 | .mk k n s bs f l, fuel, deep, a, hok, hat, hlen, hfu => by
  have hle := hat.le
  rw [okV] at hok
  simp only [Bool.and_eq_true, decide_eq_true_eq] at hok
  obtain ⟨⟨hp, hc⟩, hk⟩ := hok
  obtain ⟨p1, p2, p3, p4, p5⟩ := plain_parts hp
  obtain ⟨hkk, _⟩ := codeOf_known hc
  simp only [Val.kind]
  rcases hkk with rfl | rfl | rfl | rfl | rfl | rfl | rfl | rfl | rfl | rfl | rfl | rfl
  ·have e1 := p1 (by omega); have e2 := p2 (by omega); have e3 := p3 (by omega); have e4 := p4 (by omega); have e5 := p5 (by omega)
   subst e1 e2 e3 e4 e5
   simp [encV, codeOf, decV, Val.bare]
  ·have e1 := p1 (by omega); have e2 := p2 (by omega); have e3 := p3 (by omega); have e4 := p4 (by omega); have e5 := p5 (by omega)
   subst e1 e2 e3 e4 e5
   simp [encV, codeOf, decV, Val.bare]
  ·have e2 := p2 (by omega); have e3 := p3 (by omega); have e4 := p4 (by omega); have e5 := p5 (by omega)
   subst e2 e3 e4 e5
   simp at hk
   have he : encV (.mk 3 n [] [] [] []) = layI 4 n := by simp [encV]
   rw [he] at hat hle hlen ⊢
   rw [layI_length] at hle ⊢
   have hn := hat.num (layI_length 4 n)
   have hn2 := signed_lay4 hk.1 hk.2
   simp only [codeOf, decV]
   simp [hn, hn2]; omega
  ·have e2 := p2 (by omega); have e3 := p3 (by omega); have e4 := p4 (by omega); have e5 := p5 (by omega)
   subst e2 e3 e4 e5
   simp at hk
   have he : encV (.mk 4 n [] [] [] []) = layI 8 n := by simp [encV]
   rw [he] at hat hle hlen ⊢
   rw [layI_length] at hle ⊢
   have hn := hat.num (layI_length 8 n)
   have hn2 := signed_lay8 hk.1 hk.2
   simp only [codeOf, decV]
   simp [hn, hn2]; omega
  ·have e1 := p1 (by omega); have e3 := p3 (by omega); have e4 := p4 (by omega); have e5 := p5 (by omega)
   subst e1 e3 e4 e5
   simp at hk
   have he : encV (.mk 5 0 s [] [] []) = layI 4 (s.length + 1 : Nat) ++ (s ++ [0]) := by simp [encV]
   rw [he] at hat hle hlen ⊢
   simp only [List.length_append, layI_length, List.length_singleton] at hle hlen ⊢
   have hn := hat.left.num (layI_length 4 _)
   have hn2 := signed_lay4 (n := ((s.length + 1 : Nat) : Int)) (by omega) (by omega)
   have h2 := hat.right
   rw [layI_length] at h2
   have h3 := h2.left.bytes rfl
   have h4 := h2.get (i := s.length) (by simp) 1
   have hc5 : codeOf 5 = 2 := rfl
   have e6 : ((s.length + 1 : Nat) : Int).toNat = s.length + 1 := by omega
   rw [hc5]
   unfold decV
   rw [if_pos rfl, hn, if_neg (by omega)]
   simp only [hn2, e6, Nat.add_sub_cancel, h3, h4]
   rw [if_neg (by omega), if_neg (by omega)]
   simp [hk]; omega
  ·have e1 := p1 (by omega); have e2 := p2 (by omega); have e3 := p3 (by omega); have e5 := p5 (by omega)
   subst e1 e2 e3 e5
   simp at hk
   have he : encV (.mk 6 0 [] [] f []) = wrapDoc (encFs f) := by simp [encV]
   rw [he] at hat hlen ⊢
   have hl2 := hlen
   rw [wrapDoc_length] at hl2
   obtain ⟨fu, rfl⟩ : ∃ fu, fuel = fu + 1 := ⟨fuel - 1, by omega⟩
   have hat2 : At b (a + 4) (encFs f ++ [0]) := by
    have := hat.right
    rw [layI_length] at this
    exact this
   have hle2 := hat2.le
   have hfl : f.length < b.length + 1 := by
    have := encFs_len f
    simp only [List.length_append] at hle2; omega
   have h := decDoc_of (fuel := fu) (deep := deep + 1) (items := false) (l := f) (by omega) hat (by omega) (by
    have := dec_encFs b f fu (deep + 1) (a + 4) (b.length + 1) [] [] hk.2 hat2 (by omega) (by omega) hfl (fun x hx => hx)
    simpa using this)
   simp only [codeOf, decV]
   simp [h, Res.bind, Val.doc]
  ·have e1 := p1 (by omega); have e2 := p2 (by omega); have e3 := p3 (by omega); have e4 := p4 (by omega)
   subst e1 e2 e3 e4
   simp at hk
   have he : encV (.mk 7 0 [] [] [] l) = wrapDoc (encLs 0 l) := by simp [encV]
   rw [he] at hat hlen ⊢
   have hl2 := hlen
   rw [wrapDoc_length] at hl2
   obtain ⟨fu, rfl⟩ : ∃ fu, fuel = fu + 1 := ⟨fuel - 1, by omega⟩
   have hat2 : At b (a + 4) (encLs 0 l ++ [0]) := by
    have := hat.right
    rw [layI_length] at this
    exact this
   have hle2 := hat2.le
   have hll := encLs_len l 0
   have hfl : l.length < b.length + 1 := by
    simp only [List.length_append] at hle2; omega
   have h := decDoc_of (fuel := fu) (deep := deep + 1) (items := true) (l := named 0 l) (by omega) hat (by omega) (by
    have := dec_encLs b l fu (deep + 1) (a + 4) (b.length + 1) 0 [] hk.2 hat2 (by omega) (by omega) hfl (by omega) rfl
    simpa using this)
   simp only [codeOf, decV]
   simp [h, Res.bind, Val.list, named_snd]
  ·have e1 := p1 (by omega); have e2 := p2 (by omega); have e4 := p4 (by omega); have e5 := p5 (by omega)
   subst e1 e2 e4 e5
   have he : encV (.mk 8 0 [] bs [] []) = layI 4 bs.length ++ ([0] ++ bs) := by simp [encV]
   rw [he] at hat hle hlen ⊢
   simp only [List.length_append, layI_length, List.length_singleton] at hle hlen ⊢
   have hn := hat.left.num (layI_length 4 _)
   have hn2 := signed_lay4 (n := (bs.length : Int)) (by omega) (by omega)
   have h2 := hat.right
   rw [layI_length] at h2
   have h3 := h2.left.num (w := 1) rfl
   have h4 := h2.right.bytes rfl
   have hc8 : codeOf 8 = 5 := rfl
   have e6 : (bs.length : Int).toNat = bs.length := by omega
   have e7 : a + 4 + [(0 : UInt8)].length = a + 5 := rfl
   rw [e7] at h4
   have h5 : leVal [(0 : UInt8)] = 0 := rfl
   rw [hc8]
   unfold decV
   rw [if_neg (by decide), if_neg (by decide), if_neg (by decide), if_pos rfl, hn, if_neg (by omega)]
   simp only [hn2, e6, h3, h4, h5]
   rw [if_neg (by omega), if_neg (by decide), if_neg (by omega)]
   simp; omega
  ·have e1 := p1 (by omega); have e2 := p2 (by omega); have e4 := p4 (by omega); have e5 := p5 (by omega)
   subst e1 e2 e4 e5
   simp at hk
   have he : encV (.mk 9 0 [] bs [] []) = bs := by simp [encV]
   rw [he] at hat hle hlen ⊢
   have h4 := hat.bytes hk
   simp only [codeOf, decV]
   simp [h4, hk]; omega
  ·have e2 := p2 (by omega); have e3 := p3 (by omega); have e4 := p4 (by omega); have e5 := p5 (by omega)
   subst e2 e3 e4 e5
   simp at hk
   have he : encV (.mk 10 n [] [] [] []) = layI 1 n := by simp [encV]
   rw [he] at hat hle hlen ⊢
   rw [layI_length] at hle ⊢
   have hn := hat.num (layI_length 1 n)
   have hn2 := leVal_lay1 (n := n) (by omega) (by omega)
   have hc10 : codeOf 10 = 8 := rfl
   have e6 : (n.toNat : Int) = n := by omega
   rw [hc10]
   unfold decV
   rw [if_neg (by decide), if_neg (by decide), if_neg (by decide), if_neg (by decide), if_neg (by decide), if_pos rfl, if_neg (by omega), hn, hn2, if_pos (by omega), e6]
  ·have e2 := p2 (by omega); have e3 := p3 (by omega); have e4 := p4 (by omega); have e5 := p5 (by omega)
   subst e2 e3 e4 e5
   simp at hk
   have he : encV (.mk 11 n [] [] [] []) = layI 8 n := by simp [encV]
   rw [he] at hat hle hlen ⊢
   rw [layI_length] at hle ⊢
   have hn := hat.num (layI_length 8 n)
   have hn2 := signed_lay8 hk.1 hk.2
   simp only [codeOf, decV]
   simp [hn, hn2]; omega
  ·have e1 := p1 (by omega); have e2 := p2 (by omega); have e3 := p3 (by omega); have e4 := p4 (by omega); have e5 := p5 (by omega)
   subst e1 e2 e3 e4 e5
   simp [encV, codeOf, decV, Val.bare]
theorem dec_encFs (b : Bs) : ∀ (r : List (Bs × Val)) (fuel deep a fl : Nat) (seen : List Bs) (acc : List (Bs × Val)), okFs deep seen r = true → At b a (encFs r ++ [0]) → (encFs r).length ≤ 65536 → 33 ≤ fuel + deep →
  r.length < fl → (∀ x, x ∈ acc.map (·.1) → x ∈ seen) → decFs b (fun items a => decDoc b fuel (deep + 1) items a) false fl acc a = .ok (acc ++ r) (a + (encFs r).length + 1)
 | [], fuel, deep, a, fl + 1, seen, acc, hok, hat, hlen, hfu, hfl, hacc => by
  rw [decFs_end hat]
  simp [encFs]
 | (nm, v) :: r, fuel, deep, a, fl + 1, seen, acc, hok, hat, hlen, hfu, hfl, hacc => by
  rw [okFs] at hok
  simp only [Bool.and_eq_true, decide_eq_true_eq] at hok
  obtain ⟨⟨⟨h1, h2⟩, h3⟩, h4⟩ := hok
  have he : encFs ((nm, v) :: r) ++ [0] = codeOf v.kind :: (nm ++ (0 :: (encV v ++ (encFs r ++ [0])))) := by simp [encFs]
  have hl : (encFs ((nm, v) :: r)).length = nm.length + (encV v).length + (encFs r).length + 2 := by simp [encFs]; omega
  rw [he] at hat
  rw [hl] at hlen ⊢
  obtain ⟨hk0, hkn⟩ : codeOf v.kind ≠ 0 ∧ known (codeOf v.kind) = true := by
   cases v with
   | mk k n s bs f l =>
    rw [okV] at h3
    simp only [Bool.and_eq_true, decide_eq_true_eq] at h3
    exact ⟨h3.1.2, (codeOf_known h3.1.2).2⟩
  have hatv : At b (a + 1 + nm.length + 1) (encV v ++ (encFs r ++ [0])) := hat.tail.right.tail
  have hv := dec_encV b v fuel deep _ h3 hatv.left (by omega) hfu
  rw [decFs_one hkn hk0 hat h1 (fun e => by cases e) (fun e => h2 (hacc _ e)) hv]
  rw [dec_encFs b r fuel deep _ fl (nm :: seen) (acc ++ [(nm, v)]) h4 hatv.right (by omega) hfu (by simp at hfl; omega) (fun x hx => by
   simp only [List.map_append, List.map_cons, List.map_nil, List.mem_append, List.mem_singleton] at hx
   rcases hx with hx | rfl
   ·exact List.mem_cons_of_mem _ (hacc x hx)
   ·exact List.mem_cons_self ..)]
  simp only [List.append_assoc, List.singleton_append]
  congr 1
  omega
theorem dec_encLs (b : Bs) : ∀ (r : List Val) (fuel deep a fl i : Nat) (acc : List (Bs × Val)), okLs deep r = true → At b a (encLs i r ++ [0]) → (encLs i r).length ≤ 65536 → 33 ≤ fuel + deep →
  r.length < fl → i + r.length < 10 ^ 20 → acc.map (·.1) = (List.range i).map itoa → decFs b (fun items a => decDoc b fuel (deep + 1) items a) true fl acc a = .ok (acc ++ named i r) (a + (encLs i r).length + 1)
 | [], fuel, deep, a, fl + 1, i, acc, hok, hat, hlen, hfu, hfl, hi, hacc => by
  rw [decFs_end hat]
  simp [encLs, named]
 | v :: r, fuel, deep, a, fl + 1, i, acc, hok, hat, hlen, hfu, hfl, hi, hacc => by
  rw [okLs] at hok
  simp only [Bool.and_eq_true] at hok
  obtain ⟨h3, h4⟩ := hok
  have he : encLs i (v :: r) ++ [0] = codeOf v.kind :: (itoa i ++ (0 :: (encV v ++ (encLs (i + 1) r ++ [0])))) := by simp [encLs]
  have hl : (encLs i (v :: r)).length = (itoa i).length + (encV v).length + (encLs (i + 1) r).length + 2 := by simp [encLs]; omega
  rw [he] at hat
  rw [hl] at hlen ⊢
  simp only [List.length_cons] at hi hfl
  obtain ⟨hk0, hkn⟩ : codeOf v.kind ≠ 0 ∧ known (codeOf v.kind) = true := by
   cases v with
   | mk k n s bs f l =>
    rw [okV] at h3
    simp only [Bool.and_eq_true, decide_eq_true_eq] at h3
    exact ⟨h3.1.2, (codeOf_known h3.1.2).2⟩
  have hatv : At b (a + 1 + (itoa i).length + 1) (encV v ++ (encLs (i + 1) r ++ [0])) := hat.tail.right.tail
  have hv := dec_encV b v fuel deep _ h3 hatv.left (by omega) hfu
  have hal : acc.length = i := by have := congrArg List.length hacc; simpa using this
  have hno : itoa i ∉ acc.map (·.1) := by
   rw [hacc]
   intro hm
   obtain ⟨j, hj, e⟩ := List.mem_map.1 hm
   have := itoa_inj e
   rw [List.mem_range] at hj; omega
  rw [decFs_one hkn hk0 hat (itoa_nameOk (by omega)) (fun _ => by rw [hal]) hno hv]
  rw [dec_encLs b r fuel deep _ fl (i + 1) (acc ++ [(itoa i, v)]) h4 hatv.right (by omega) hfu (by omega) (by omega) (by
   rw [List.map_append, hacc, List.range_succ, List.map_append]; rfl)]
  simp only [List.append_assoc, List.singleton_append, named]
  congr 1
  omega
end

/-- WHAT IS ENCODED IS DECODED AS IT WAS. -/
theorem decode_encode {v : Val} {c : Bs} (h : encode v = some c) : decode c = .ok v c.length := by
 unfold encode at h
 split at h
 ·rename_i hok
  simp only [Option.some.injEq] at h
  subst h
  unfold okDoc at hok
  simp only [Bool.and_eq_true, decide_eq_true_eq] at hok
  obtain ⟨⟨⟨h1, h2⟩, h3⟩, h4⟩ := hok
  cases v with
  | mk k n s bs f l =>
   simp only [Val.kind, Val.f] at h1 h3 h4 ⊢
   subst h1
   obtain ⟨p1, p2, p3, _, p5⟩ := plain_parts h2
   have e1 := p1 (by omega); have e2 := p2 (by omega); have e3 := p3 (by omega); have e5 := p5 (by omega)
   subst e1 e2 e3 e5
   have hat := At.refl (wrapDoc (encFs f))
   have hl := wrapDoc_length (encFs f)
   have hnum : signed 4 (numAt (wrapDoc (encFs f)) 0 4) = ((wrapDoc (encFs f)).length : Int) := by
    have h5 : At (wrapDoc (encFs f)) 0 (layI 4 ((encFs f).length + 5 : Nat) ++ (encFs f ++ [0])) := hat
    rw [h5.left.num (layI_length _ _), signed_lay4 (by omega) (by omega), hl]
   have hat2 : At (wrapDoc (encFs f)) (0 + 4) (encFs f ++ [0]) := by
    have h5 : At (wrapDoc (encFs f)) 0 (layI 4 ((encFs f).length + 5 : Nat) ++ (encFs f ++ [0])) := hat
    have := h5.right
    rw [layI_length] at this
    exact this
   have hd := decDoc_of (fuel := 33) (deep := 1) (items := false) (l := f) (by omega) hat (by omega) (by
    have hle2 := hat2.le
    have hfl := encFs_len f
    simp only [List.length_append] at hle2
    have := dec_encFs (wrapDoc (encFs f)) f 33 1 (0 + 4) ((wrapDoc (encFs f)).length + 1) [] [] h3 hat2 (by omega) (by omega) (by omega) (fun x hx => hx)
    simpa using this)
   unfold decode
   rw [if_neg (by omega), if_neg (by omega), hnum, if_neg (by omega), if_neg (by simp), hd]
   simp [Res.bind, Val.doc]
 ·cases h
end Go.Proofs.YtembpajlllnncaaGreatDoor
