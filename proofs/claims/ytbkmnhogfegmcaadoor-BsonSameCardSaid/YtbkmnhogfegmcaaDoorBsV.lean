/- Documents, plain: what they are, their bytes, what bytes say. No program, no memory. -/
import Derived.Test.YtbkmnhogfegmcaaDoorLe
set_option linter.unusedVariables false
set_option linter.unusedSimpArgs false
namespace Go.Proofs.YtbkmnhogfegmcaaDoor

abbrev Bs := List UInt8
/-- A value: its kind, its number, its text, its bytes, its fields, its items. -/
inductive Val where
  | mk (kind n : Int) (s b : Bs) (f : List (Bs × Val)) (l : List Val)
def Val.kind : Val → Int | .mk k _ _ _ _ _ => k
def Val.num : Val → Int | .mk _ n _ _ _ _ => n
def Val.s : Val → Bs | .mk _ _ s _ _ _ => s
def Val.b : Val → Bs | .mk _ _ _ b _ _ => b
def Val.f : Val → List (Bs × Val) | .mk _ _ _ _ f _ => f
def Val.l : Val → List Val | .mk _ _ _ _ _ l => l
/-- A value of a kind and no more. -/
def Val.bare (k : Int) : Val := .mk k 0 [] [] [] []
def Val.doc (f : List (Bs × Val)) : Val := .mk 6 0 [] [] f []
def Val.list (l : List Val) : Val := .mk 7 0 [] [] [] l

/-- A kind's byte; 0: it has none. -/
def codeOf (k : Int) : UInt8 :=
  if k = 1 then 255 else if k = 2 then 10 else if k = 3 then 16 else if k = 4 then 18 else if k = 5 then 2 else if k = 6 then 3 else if k = 7 then 4 else if k = 8 then 5 else if k = 9 then 7 else if k = 10 then 8 else if k = 11 then 9 else if k = 12 then 127 else 0

/-- A number's decimal digits. -/
def itoa (n : Nat) : Bs := if h : n < 10 then [UInt8.ofNat (48 + n)] else itoa (n / 10) ++ [UInt8.ofNat (48 + n % 10)]
termination_by n
decreasing_by omega

/-- So many bytes of a number, the lowest first. -/
def layI (w : Nat) (n : Int) : Bs := leBytes w (n % 18446744073709551616).toNat

/-- Fields between their length and a 0. -/
def wrapDoc (body : Bs) : Bs := layI 4 (body.length + 5 : Nat) ++ (body ++ [0])

mutual
/-- A value's own bytes. -/
def encV : Val → Bs
  | .mk k n s b f l =>
    if k = 3 then layI 4 n else if k = 4 then layI 8 n else if k = 11 then layI 8 n else if k = 10 then layI 1 n
    else if k = 5 then layI 4 (s.length + 1 : Nat) ++ (s ++ [0])
    else if k = 6 then wrapDoc (encFs f)
    else if k = 7 then wrapDoc (encLs 0 l)
    else if k = 8 then layI 4 b.length ++ (0 :: b)
    else if k = 9 then b else []
def encFs : List (Bs × Val) → Bs
  | [] => []
  | (nm, v) :: r => codeOf v.kind :: (nm ++ (0 :: (encV v ++ encFs r)))
def encLs : Nat → List Val → Bs
  | _, [] => []
  | i, v :: r => codeOf v.kind :: (itoa i ++ (0 :: (encV v ++ encLs (i + 1) r)))
end

/-- Is it a text: the document's own rule. -/
def cont (lo hi : UInt8) (c : UInt8) : Bool := decide (lo ≤ c) && decide (c ≤ hi)
def utf8 : Bs → Bool
  | [] => true
  | c :: r =>
    if c < 128 then utf8 r
    else if c < 194 then false
    else if c ≤ 223 then match r with
      | x :: r => cont 128 191 x && utf8 r
      | _ => false
    else if c ≤ 239 then match r with
      | x :: y :: r => cont (if c = 224 then 160 else 128) (if c = 237 then 159 else 191) x && (cont 128 191 y && utf8 r)
      | _ => false
    else if c ≤ 244 then match r with
      | x :: y :: z :: r => cont (if c = 240 then 144 else 128) (if c = 244 then 143 else 191) x && (cont 128 191 y && (cont 128 191 z && utf8 r))
      | _ => false
    else false

/-- May a field have that name? -/
def nameOk (s : Bs) : Bool := utf8 s && decide (s.length ≤ 120) && decide ((0 : UInt8) ∉ s)

/-- Are all parts but its kind's zero? -/
def Val.plain : Val → Bool
  | .mk k n s b f l =>
    (decide (k = 3 ∨ k = 4 ∨ k = 10 ∨ k = 11) || decide (n = 0)) && (decide (k = 5) || s.isEmpty) && (decide (k = 8 ∨ k = 9) || b.isEmpty) && (decide (k = 6) || f.isEmpty) && (decide (k = 7) || l.isEmpty)

mutual
/-- May a value stand in a document that is so deep (its length left aside)? -/
def okV (deep : Nat) : Val → Bool
  | .mk k n s b f l =>
    (Val.mk k n s b f l).plain && decide (codeOf k ≠ 0) &&
    (if k = 3 then decide (-2147483648 ≤ n ∧ n ≤ 2147483647) else if k = 4 ∨ k = 11 then decide (-9223372036854775808 ≤ n ∧ n ≤ 9223372036854775807) else if k = 10 then decide (n = 0 ∨ n = 1) else if k = 5 then utf8 s
     else if k = 6 then decide (deep + 1 ≤ 32) && okFs (deep + 1) [] f
     else if k = 7 then decide (deep + 1 ≤ 32) && okLs (deep + 1) l
     else if k = 9 then decide (b.length = 12) else true)
def okFs (deep : Nat) (seen : List Bs) : List (Bs × Val) → Bool
  | [] => true
  | (nm, v) :: r => nameOk nm && decide (nm ∉ seen) && okV deep v && okFs deep (nm :: seen) r
def okLs (deep : Nat) : List Val → Bool
  | [] => true
  | v :: r => okV deep v && okLs deep r
end

/-- May it be a document? -/
def okDoc (v : Val) : Bool := decide (v.kind = 6) && v.plain && okFs 1 [] v.f && decide ((wrapDoc (encFs v.f)).length ≤ 65536)
def sizeOf_ (v : Val) : Nat := if okDoc v then (wrapDoc (encFs v.f)).length else 0
/-- A document's bytes, or that it may not be one. -/
def encode (v : Val) : Option Bs := if okDoc v then some (wrapDoc (encFs v.f)) else none

/-! ### what bytes say -/
/-- A number of so many bytes at a place. -/
def numAt (b : Bs) (at_ w : Nat) : Nat := leVal ((b.drop at_).take w)
/-- .. with its sign. -/
def signed (w : Nat) (n : Nat) : Int := if n < 2 ^ (8 * w - 1) then n else (n : Int) - 2 ^ (8 * w)

def known (k : UInt8) : Bool := decide (k ∈ ([255, 10, 16, 18, 2, 3, 4, 5, 7, 8, 9, 127, 1, 19] : List UInt8))

inductive Res (α : Type) where
  | ok (x : α) (at_ : Nat)
  | bad (e : Int)
def Res.bind {α β : Type} : Res α → (α → Nat → Res β) → Res β
  | .ok x a, f => f x a
  | .bad e, _ => .bad e

/-- Values without parts; the fields of documents are read by what is handed in. -/
def decV (b : Bs) (fields : Bool → Nat → Res (List (Bs × Val))) (kind : UInt8) (a : Nat) : Res Val :=
  if kind = 2 then
    if b.length - a < 4 then .bad 2 else
    let n := signed 4 (numAt b a 4)
    if n < 1 then .bad 4 else
    if (b.length : Int) - (a + 4 : Nat) < n then .bad 2 else
    let s := (b.drop (a + 4)).take (n.toNat - 1)
    if (b.drop (a + 4)).getD (n.toNat - 1) 1 ≠ 0 then .bad 4 else
    if utf8 s then .ok (.mk 5 0 s [] [] []) (a + 4 + n.toNat) else .bad 5
  else if kind = 3 then (fields false a).bind fun f a => .ok (.doc f) a
  else if kind = 4 then (fields true a).bind fun f a => .ok (.list (f.map (·.2))) a
  else if kind = 5 then
    if b.length - a < 5 then .bad 2 else
    let n := signed 4 (numAt b a 4)
    if n < 0 then .bad 4 else
    if numAt b (a + 4) 1 ≠ 0 then .bad 4 else
    if (b.length : Int) - (a + 5 : Nat) < n then .bad 2 else
    .ok (.mk 8 0 [] ((b.drop (a + 5)).take n.toNat) [] []) (a + 5 + n.toNat)
  else if kind = 7 then if b.length - a < 12 then .bad 2 else .ok (.mk 9 0 [] ((b.drop a).take 12) [] []) (a + 12)
  else if kind = 8 then
    if b.length - a < 1 then .bad 2 else
    if numAt b a 1 ≤ 1 then .ok (.mk 10 (numAt b a 1) [] [] [] []) (a + 1) else .bad 4
  else if kind = 9 then if b.length - a < 8 then .bad 2 else .ok (.mk 11 (signed 8 (numAt b a 8)) [] [] [] []) (a + 8)
  else if kind = 10 then .ok (.bare 2) a
  else if kind = 16 then if b.length - a < 4 then .bad 2 else .ok (.mk 3 (signed 4 (numAt b a 4)) [] [] [] []) (a + 4)
  else if kind = 18 then if b.length - a < 8 then .bad 2 else .ok (.mk 4 (signed 8 (numAt b a 8)) [] [] [] []) (a + 8)
  else if kind = 1 then if b.length - a < 8 then .bad 2 else .bad 8
  else if kind = 19 then if b.length - a < 16 then .bad 2 else .bad 8
  else if kind = 255 then .ok (.bare 1) a
  else if kind = 127 then .ok (.bare 12) a
  else .bad 9

/-- The first 0 from a place on. -/
def zeroFrom (b : Bs) (a : Nat) : Option Nat := (b.drop a).findIdx? (· == 0)

/-- Fields one after another, up to a 0: those that were read, and their names. -/
def decFs (b : Bs) (rec_ : Bool → Nat → Res (List (Bs × Val))) (items : Bool) : Nat → List (Bs × Val) → Nat → Res (List (Bs × Val))
  | 0, _, _ => .bad 2
  | fuel + 1, l, a =>
    match b[a]? with
    | none => .bad 2
    | some kind =>
      if kind = 0 then .ok l (a + 1) else
      if known kind = false then .bad 9 else
      match zeroFrom b (a + 1) with
      | none => .bad 2
      | some n =>
        let s := (b.drop (a + 1)).take n
        if utf8 s = false then .bad 5 else
        if 120 < s.length then .bad 15 else
        if items = true ∧ s ≠ itoa l.length then .bad 4 else
        if s ∈ l.map (·.1) then .bad 6 else
        (decV b rec_ kind (a + 1 + n + 1)).bind fun v a => decFs b rec_ items fuel (l ++ [(s, v)]) a

/-- The fields of a document that is so deep. -/
def decDoc (b : Bs) : Nat → Nat → Bool → Nat → Res (List (Bs × Val))
  | 0, _, _, _ => .bad 7
  | fuel + 1, deep, items, a =>
    if 32 < deep then .bad 7 else
    if b.length - a < 4 then .bad 2 else
    let n := signed 4 (numAt b a 4)
    if n < 5 then .bad 4 else
    (decFs b (fun items a => decDoc b fuel (deep + 1) items a) items (b.length + 1) [] (a + 4)).bind fun l a' =>
      if ((a' : Int) - a) = n then .ok l a' else .bad 4

/-- The document of bytes. -/
def decode (b : Bs) : Res Val :=
  if 65536 < b.length then .bad 3 else
  if b.length < 4 then .bad 2 else
  if signed 4 (numAt b 0 4) < 5 then .bad 4 else
  if signed 4 (numAt b 0 4) ≠ b.length then .bad 4 else
  (decDoc b 34 1 false 0).bind fun f a => .ok (.doc f) a
end Go.Proofs.YtbkmnhogfegmcaaDoor
