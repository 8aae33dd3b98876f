/- What the abstract machine is, and what its states say of the model's. -/
import Derived.Calls
import Derived.Orders
import Derived.Below
import Derived.Laws.CopyRow
import Derived.Laws.World
import Derived.IntWalk
namespace Go.Proofs.YtfhlblclcdhbiaaGreatDoor
open Go
namespace Am

/-- An operand. -/
inductive X where
  | t (n : Nat)
  | c (v : Value)
/-- What a temporary holds: a value, or the address of a variable of this very call; x: it isn't told. -/
inductive TV where
  | v (x : Value)
  | l (k g off : Nat)
  | x
/-- The frame of a call: its temporaries; its variables in memory that nobody else sees (how often each has been made, its cells). -/
structure Fr where
  tm : List (Nat × TV)
  bx : List (Nat × List Value)
/-- The abstract heap: rows of cells (with their elements' size), none where a row is no longer to be used; below 'bar' nothing may be written. -/
structure AH where
  ob : List (Option (Nat × List Value))
  bar : Nat

def look : List (Nat × TV) → Nat → Option TV
  | [], _ => none
  | (k, v) :: r, n => bif Nat.beq k n then some v else look r n
theorem look_cons (k : Nat) (v : TV) (r : List (Nat × TV)) (n : Nat) : look ((k, v) :: r) n = if k = n then some v else look r n := by
  simp only [look]
  cases h : Nat.beq k n with
  | true => rw [if_pos (Nat.eq_of_beq_eq_true h)]; rfl
  | false => rw [if_neg (Nat.ne_of_beq_eq_false h)]; rfl
def put (tm : List (Nat × TV)) (n : Nat) (v : TV) : List (Nat × TV) := (n, v) :: tm
/-- Variable k is made (anew): its elder addresses no longer count. -/
def Fr.box (fr : Fr) (k : Nat) (cs : List Value) : Fr := { fr with bx := match fr.bx[k]? with
  | some (g, _) => fr.bx.set k (g + 1, cs)
  | none => fr.bx }
/-- how often variable k has been made -/
def Fr.gen (fr : Fr) (k : Nat) : Nat := match fr.bx[k]? with
  | some (g, _) => g
  | none => 0
def Fr.put (fr : Fr) (d : Option Nat) (v : TV) : Fr := match d with
  | some n => { fr with tm := Am.put fr.tm n v }
  | none => fr
def tv (fr : Fr) : X → Option TV
  | .c v => some (.v v)
  | .t n => look fr.tm n
def vl (fr : Fr) (x : X) : Option Value := match tv fr x with
  | some (.v x) => some x
  | _ => none
def vls (fr : Fr) : List X → Option (List Value)
  | [] => some []
  | x :: r => match vl fr x, vls fr r with
    | some v, some vs => some (v :: vs)
    | _, _ => none
def oX (fr : Fr) : Option X → Option (Option Value)
  | none => some none
  | some x => match vl fr x with
    | some v => some (some v)
    | none => none

/-- The cells of a value. -/
def cl : Value → List Value
  | .agg cs => cs.toList
  | v => [v]
def ag (agg : Bool) (cs : List Value) : Option Value :=
  if agg then some (.agg cs.toArray) else match cs with
    | [v] => some v
    | _ => none

/-- A value that a variable may hold: no tuple. -/
def isW : Value → Bool
  | .tuple _ => false
  | _ => true
/-- A plain cell: no function, no aggregate, no tuple. -/
def isB : Value → Bool
  | .bool _ | .int .. | .string _ | .pointer _ | .slice .. => true
  | _ => false
def sub (cs : List Value) (off n : Nat) : Option (List Value) := if off + n ≤ cs.length then some ((cs.drop off).take n) else none
def over (cs : List Value) (off : Nat) (vs : List Value) : Option (List Value) :=
  if off + vs.length ≤ cs.length then some (cs.take off ++ vs ++ cs.drop (off + vs.length)) else none
def rd (h : AH) (o off n : Nat) : Option (List Value) := match h.ob[o]? with
  | some (some (_, cs)) => sub cs off n
  | _ => none
def wr (h : AH) (o off : Nat) (vs : List Value) : Option AH := match h.ob[o]? with
  | some (some (z, cs)) => if h.bar ≤ o then match over cs off vs with
      | some cs' => some { h with ob := h.ob.set o (some (z, cs')) }
      | none => none
    else none
  | _ => none
def mkO (h : AH) (z : Nat) (cs : List Value) : AH := { h with ob := h.ob ++ [some (z, cs)] }
def kill (h : AH) (o : Nat) : AH := { h with ob := h.ob.set o none }

/-- An int's operation. -/
def binV (op : BinOp) : Value → Value → Option Value
  | .int k a, .int k' b =>
    match op with
    | .shl => if b < 0 then none else some (.int k (k.wrap (a * 2 ^ min b.toNat k.bits)))
    | .shr => if b < 0 then none else some (.int k (a.fdiv (2 ^ min b.toNat k.bits)))
    | _ => if k ≠ k' then none else match op with
      | .add => some (.int k (k.wrap (a + b)))
      | .sub => some (.int k (k.wrap (a - b)))
      | .mul => some (.int k (k.wrap (a * b)))
      | .quo => if b = 0 then none else some (.int k (k.wrap (a.tdiv b)))
      | .rem => if b = 0 then none else some (.int k (a.tmod b))
      | .and => some (.int k (k.wrap (BitVec.ofInt k.bits a &&& BitVec.ofInt k.bits b).toNat))
      | .or => some (.int k (k.wrap (BitVec.ofInt k.bits a ||| BitVec.ofInt k.bits b).toNat))
      | .xor => some (.int k (k.wrap (BitVec.ofInt k.bits a ^^^ BitVec.ofInt k.bits b).toNat))
      | .andNot => some (.int k (k.wrap (BitVec.ofInt k.bits a &&& ~~~(BitVec.ofInt k.bits b)).toNat))
      | .eql => some (.bool (a == b))
      | .neq => some (.bool (a != b))
      | .lss => some (.bool (decide (a < b)))
      | .leq => some (.bool (decide (a ≤ b)))
      | .gtr => some (.bool (decide (a > b)))
      | .geq => some (.bool (decide (a ≥ b)))
      | _ => none
  | .string a, .string b => match op with
    | .eql => some (.bool (a.toList == b.toList))
    | .neq => some (.bool !(a.toList == b.toList))
    | .add => if ((a.size + b.size : Nat) : Int) ≤ 9223372036854775807 then some (.string (a ++ b)) else none
    | _ => none
  | _, _ => none
/-- Cells of scalars, compared one by one. -/
def eqC : Nat → Value → Value → Option Bool
  | 0, .int k a, .int k' b => if k = k' then some (a == b) else none
  | 1, .bool a, .bool b => some (a == b)
  | 2, .string a, .string b => some (a.toList == b.toList)
  | _, _, _ => none
def eqL : List Nat → List Value → List Value → Option Bool
  | [], [], [] => some true
  | s :: r, a :: x, b :: y => match eqC s a b, eqL r x y with
    | some e, some r => some (e && r)
    | _, _ => none
  | _, _, _ => none
def beqV (neg : Bool) : Value → Value → Option Value
  | .bool a, .bool b => some (.bool (if neg then !(a == b) else (a == b)))
  | _, _ => none
/-- A slice held against nil. -/
def snilV (neg : Bool) : Value → Value → Option Value
  | .slice none _ _, .slice b _ _ => some (.bool (if neg then !b.isNone else b.isNone))
  | .slice (some _) _ _, .slice none _ _ => some (.bool neg)
  | _, _ => none
def mmV (mx : Bool) : Value → Value → Option Value
  | .int k x, .int _ y => some (.int k (if mx then (if x < y then y else x) else (if y < x then y else x)))
  | _, _ => none
def unV (op : UnOp) : Value → Option Value
  | .int k n => match op with
    | .neg => some (.int k (k.wrap (0 - n)))
    | .xor => some (.int k (k.wrap (BitVec.ofInt k.bits (if k.signed then -1 else k.max) ^^^ BitVec.ofInt k.bits n).toNat))
    | _ => none
  | .bool b => match op with
    | .not => some (.bool !b)
    | _ => none
  | _ => none
def nums8 : List Value → Option (List UInt8)
  | [] => some []
  | .int .u8 n :: r => match nums8 r with
    | some l => some (UInt8.ofNat n.toNat :: l)
    | none => none
  | _ => none

inductive AO where
  | mv (x : X) | nilck (x : X) | pick (c a b : X)
  | lbox (k : Nat) (x : X) | lalloc (k : Nat) (z : List Value) | hbox (x : X) | halloc (z : List Value)
  | load (n : Nat) (agg : Bool) (a : X) | lload (n : Nat) (agg : Bool) (a : X) | store (n : Nat) (a x : X) | lstore (n : Nat) (a x : X)
  | bin (op : BinOp) (x y : X) | eqs (neg : Bool) (sig : List Nat) (x y : X) | beq (neg : Bool) (x y : X) | snil (neg : Bool) (x y : X) | mm (mx : Bool) (x y : X) | un (op : UnOp) (x : X) | conv (k : IntKind) (x : X) | same (x : X) | b2s (x : X)
  | fa (off : Nat) (a : X) | fld (off n : Nat) (agg : Bool) (x : X)
  | ia (sz : Nat) (x i : X) | iaa (len sz : Nat) (a i : X) | ixs (s i : X) | ixa (len sz : Nat) (agg : Bool) (x i : X)
  | mk (sz bytes : Nat) (z : List Value) (l c : X) | sls (x : X) (lo hi : Option X) | sl (sz : Nat) (x : X) (lo hi mx : Option X)
  | ext (j : Nat) (x : X) | len (x : X) | slen (x : X) | app (sz bytes : Nat) (s x : X)
  | call (f : Nat) (args : List X) (bar : Bool) | callv (g : X) (args : List X) (bar : Bool) | mkfn (f : Nat) (cap : List X)
  | bld (z : List Value) (parts : List (Nat × Nat × X)) | bsl (sz n : Nat) (z : List Value) (parts : List (Nat × X))
/-- An instruction: where its value goes, a guard (a temporary, the Bool that is wanted), the operation. -/
structure AI where
  dst : Option Nat
  guard : Option (Nat × Bool)
  op : AO
inductive AC where
  | skip
  | reg (ops : List AI) (keep : List Nat)
  | seq (a b : AC)
  | cond (c : X) (a b : AC)
  | block (id : Nat) (a : AC)
  | loop (a : AC)
  | exit (id : Nat)
  | ret
inductive AR where
  | t (n : Nat)
  | c (a : X) (n : Nat) (agg : Bool)
structure AF where
  np : Nat
  nb : Nat
  body : AC
  res : List AR

inductive Ex where
  | normal | exit (id : Nat) | ret

/-- An address: of one's own variable, or in the heap. -/
inductive Ad where
  | l (k g off : Nat)
  | h (o off : Nat)
def ad (fr : Fr) (x : X) : Option Ad := match tv fr x with
  | some (.l k g off) => some (.l k g off)
  | some (.v (.pointer (some ⟨o, off, none⟩))) => some (.h o off)
  | _ => none
def adTV : Ad → TV
  | .l k g off => .l k g off
  | .h o off => .v (.pointer (some ⟨o, off, none⟩))
def ldA (fr : Fr) (h : AH) (n : Nat) : Ad → Option (List Value)
  | .l k g off => match fr.bx[k]? with
    | some (g', cs) => if g = g' then sub cs off n else none
    | none => none
  | .h o off => rd h o off n
def bnd (v : Value) (y : Nat) : Option Nat := match v with
  | .int _ i => if 0 ≤ i ∧ i ≤ y then some i.toNat else none
  | _ => none
def bnds (lo hi : Option Value) (len cap : Nat) : Option (Nat × Nat) :=
  match (match hi with | some v => bnd v cap | none => some len) with
  | none => none
  | some h => match (match lo with | some v => bnd v h | none => some 0) with
    | none => none
    | some l => some (l, h)
def capM (t : Option Value) (c : Nat) : Option Nat := match t with
  | some v => bnd v c
  | none => some c
/-- an element's size, in a row that may be used -/
def objZ (h : AH) (o : Nat) : Option Nat := match h.ob[o]? with
  | some (some (z, _)) => some z
  | _ => none
def fillC (cells : List Value) : List (Nat × List Value) → Option (List Value)
  | [] => some cells
  | (off, vs) :: r => match over cells off vs with
    | some cs => fillC cs r
    | none => none
def partsV (fr : Fr) : List (Nat × Nat × X) → Option (List (Nat × List Value))
  | [] => some []
  | (off, n, x) :: r => match vl fr x, partsV fr r with
    | some v, some l => if isW v ∧ (cl v).length = n then some ((off, cl v) :: l) else none
    | _, _ => none
def reps (z : List Value) : Nat → List Value
  | 0 => []
  | n + 1 => z ++ reps z n

abbrev CT := Nat → List Value → (Value → AH → Prop) → AH → Prop

/-- The value of an operation that only computes and reads. -/
def qO (o : AO) (fr : Fr) (h : AH) : Option TV :=
  match o with
  | .mv x => match tv fr x with
    | some v => some v
    | none => none
  | .nilck x => match ad fr x with
    | some a => some (adTV a)
    | none => none
  | .pick c a b => match vl fr c, vl fr a, vl fr b with
    | some (.bool t), some x, some y => some (.v (if t then x else y))
    | _, _, _ => none
  | .load n agg a => match ad fr a with
    | some (.h o off) => match rd h o off n with
      | some cs => match ag agg cs with
        | some v => some (.v v)
        | none => none
      | none => none
    | _ => none
  | .lload n agg a => match ad fr a with
    | some (.l k g off) => match fr.bx[k]? with
      | some (g', bs) => if g = g' then match sub bs off n with
        | some cs => match ag agg cs with
          | some v => some (.v v)
          | none => none
        | none => none
        else none
      | none => none
    | _ => none
  | .bin op x y => match vl fr x, vl fr y with
    | some a, some b => match binV op a b with
      | some r => some (.v r)
      | none => none
    | _, _ => none
  | .eqs neg sig x y => match vl fr x, vl fr y with
    | some (.agg a), some (.agg b) => match eqL sig a.toList b.toList with
      | some r => some (.v (.bool (if neg then !r else r)))
      | none => none
    | _, _ => none
  | .beq neg x y => match vl fr x, vl fr y with
    | some a, some b => match beqV neg a b with
      | some r => some (.v r)
      | none => none
    | _, _ => none
  | .snil neg x y => match vl fr x, vl fr y with
    | some a, some b => match snilV neg a b with
      | some r => some (.v r)
      | none => none
    | _, _ => none
  | .mm mx x y => match vl fr x, vl fr y with
    | some a, some b => match mmV mx a b with
      | some r => some (.v r)
      | none => none
    | _, _ => none
  | .un op x => match vl fr x with
    | some a => match unV op a with
      | some r => some (.v r)
      | none => none
    | none => none
  | .conv k x => match vl fr x with
    | some (.int _ n) => some (.v (.int k (k.wrap n)))
    | _ => none
  | .same x => match vl fr x with
    | some (.string s) => some (.v (.string s))
    | _ => none
  | .b2s x => match vl fr x with
    | some (.slice none _ _) => some (.v (.string .empty))
    | some (.slice (some ⟨o, off, none⟩) n _) => match rd h o off n with
      | some cs => match nums8 cs with
        | some l => some (.v (.string ⟨l.toArray⟩))
        | none => none
      | none => none
    | _ => none
  | .fa off a => match ad fr a with
    | some (.l k g o) => some (.l k g (o + off))
    | some (.h b o) => some (.v (.pointer (some ⟨b, o + off, none⟩)))
    | none => none
  | .fld off n agg x => match vl fr x with
    | some (.agg a) => match sub a.toList off n with
      | some cs => match ag agg cs with
        | some v => some (.v v)
        | none => none
      | none => none
    | _ => none
  | .ia sz x i => match vl fr x, vl fr i with
    | some (.slice (some ⟨o, off, none⟩) n _), some (.int _ j) =>
      if 0 ≤ j ∧ j < n then some (.v (.pointer (some ⟨o, off + j.toNat * sz, none⟩))) else none
    | _, _ => none
  | .iaa len sz a i => match ad fr a, vl fr i with
    | some (.l k g off), some (.int _ j) => if 0 ≤ j ∧ j < len then some (.l k g (off + j.toNat * sz)) else none
    | some (.h o off), some (.int _ j) => if 0 ≤ j ∧ j < len then some (.v (.pointer (some ⟨o, off + j.toNat * sz, none⟩))) else none
    | _, _ => none
  | .ixs s i => match vl fr s, vl fr i with
    | some (.string s), some (.int _ j) => if 0 ≤ j then match s[j.toNat]? with
        | some b => some (.v (.int .u8 b.toNat))
        | none => none
      else none
    | _, _ => none
  | .ixa len sz agg x i => match vl fr x, vl fr i with
    | some (.agg a), some (.int _ j) => if 0 ≤ j ∧ j < len then match sub a.toList (j.toNat * sz) sz with
        | some cs => match ag agg cs with
          | some v => some (.v v)
          | none => none
        | none => none
      else none
    | _, _ => none
  | .sls x lo hi => match vl fr x, oX fr lo, oX fr hi with
    | some (.string s), some l, some m => match bnds l m s.size s.size with
      | some (a, b) => some (.v (.string (s.extract a b)))
      | none => none
    | _, _, _ => none
  | .sl sz x lo hi mx => match vl fr x, oX fr lo, oX fr hi, oX fr mx with
    | some (.slice p n c), some l, some m, some t =>
      match capM t c with
      | none => none
      | some c' => match bnds l m n c' with
        | some (a, b) => match p with
          | some ⟨o, off, none⟩ => if a = 0 ∨ (a < c' ∧ objZ h o = some sz) then some (.v (.slice (some ⟨o, off + a * sz, none⟩) (b - a) (c' - a))) else none
          | none => some (.v (.slice none (b - a) (c' - a)))
          | _ => none
        | none => none
    | _, _, _, _ => none
  | .ext j x => match vl fr x with
    | some (.tuple vs) => match vs[j]? with
      | some v => some (.v v)
      | none => none
    | _ => none
  | .len x => match vl fr x with
    | some (.slice _ n _) => some (.v (.int .i64 n))
    | _ => none
  | .slen x => match vl fr x with
    | some (.string s) => some (.v (.int .i64 s.size))
    | _ => none
  | .mkfn f cap => match vls fr cap with
    | some vs => if vs.all isB then some (.v (.func (.func f) #[] vs.toArray)) else none
    | none => none
  | .bld z parts => match partsV fr parts with
    | some ps => match fillC z ps with
      | some cs => some (.v (.agg cs.toArray))
      | none => none
    | none => none
  | _ => none

/-- What an operation does: K of its value, the frame, the heap. -/
def wO (C : CT) (o : AO) (fr : Fr) (K : TV → Fr → AH → Prop) (h : AH) : Prop :=
  match o with
  | .lbox k x => match vl fr x with
    | some v => if isW v ∧ k < fr.bx.length then K (.l k (fr.gen k + 1) 0) (fr.box k (cl v)) h else False
    | none => False
  | .lalloc k z => if k < fr.bx.length then K (.l k (fr.gen k + 1) 0) (fr.box k z) h else False
  | .hbox x => match vl fr x with
    | some v => if isW v then K (.v (.pointer (some ⟨h.ob.length, 0, none⟩))) fr (mkO h 1 (cl v)) else False
    | none => False
  | .halloc z => K (.v (.pointer (some ⟨h.ob.length, 0, none⟩))) fr (mkO h 1 z)
  | .store n a x => match ad fr a, vl fr x with
    | some (.h o off), some v => if isW v ∧ (cl v).length = n then match wr h o off (cl v) with
        | some h' => K (.v undef) fr h'
        | none => False
      else False
    | _, _ => False
  | .lstore n a x => match ad fr a, vl fr x with
    | some (.l k g off), some v => if isW v ∧ (cl v).length = n then match fr.bx[k]? with
        | some (g', cs) => if g = g' then match over cs off (cl v) with
          | some cs' => K (.v undef) { fr with bx := fr.bx.set k (g, cs') } h
          | none => False
          else False
        | none => False
      else False
    | _, _ => False
  | .mk sz bytes z l c => match vl fr l, vl fr c with
    | some (.int .i64 n), some (.int .i64 m) => if n ≤ m ∧ 0 ≤ n ∧ m < 9223372036854775808 ∧ bytes * m ≤ 281474976710656 then
        K (.v (.slice (some ⟨h.ob.length, 0, none⟩) n.toNat m.toNat)) fr (mkO h sz (reps z m.toNat)) else False
    | _, _ => False
  | .app sz bytes s x => match vl fr s, vl fr x with
    | some (.slice a n c), some (.slice b m _) =>
      match (if m = 0 then some [] else match b with | some ⟨o, off, none⟩ => rd h o off (m * sz) | _ => none) with
      | none => False
      | some new =>
        if m = 0 ∧ n ≤ c then K (.v (.slice a n c)) fr h
        else if n + m ≤ c then
          match a with
          | none => K (.v (.slice none (n + m) c)) fr h
          | some ⟨o, off, none⟩ => match wr h o (off + n * sz) new with
            | some h' => K (.v (.slice (some ⟨o, off, none⟩) (n + m) c)) fr h'
            | none => False
          | _ => False
        else if (n + m) * bytes ≤ 140737488355328 then
          match a with
          | none => if n = 0 then K (.v (.slice (some ⟨h.ob.length, 0, none⟩) (n + m) (n + m))) fr (mkO h sz new) else False
          | some ⟨o, off, none⟩ => match rd h o off (n * sz), h.ob[o]? with
            | some old, some (some (z, _)) =>
              if c = 0 then K (.v (.slice (some ⟨h.ob.length, 0, none⟩) (n + m) (n + m))) fr (mkO h sz (old ++ new))
              else if h.bar ≤ o ∧ z = sz then K (.v (.slice (some ⟨h.ob.length, 0, none⟩) (n + m) (n + m))) fr (mkO (kill h o) sz (old ++ new)) else False
            | _, _ => False
          | _ => False
        else False
    | _, _ => False
  | .call f args bar => match vls fr args with
    | some vs => if bar then C f vs (fun v h' => K (.v v) fr { h' with bar := h.bar }) { h with bar := h.ob.length } else C f vs (fun v h' => K (.v v) fr h') h
    | none => False
  | .callv g args bar => match vl fr g, vls fr args with
    | some (.func (.func f) first cap), some vs => if first.size = 0 then (if bar then C f (vs ++ cap.toList) (fun v h' => K (.v v) fr { h' with bar := h.bar }) { h with bar := h.ob.length } else C f (vs ++ cap.toList) (fun v h' => K (.v v) fr h') h) else False
    | _, _ => False
  | .bsl sz n z parts => match partsV fr (parts.map fun p => (p.1 * sz, sz, p.2)) with
    | some ps => match fillC (reps z n) ps with
      | some cs => K (.v (.slice (some ⟨h.ob.length, 0, none⟩) n n)) fr (mkO h sz cs)
      | none => False
    | none => False
  | o => match qO o fr h with
    | some v => K v fr h
    | none => False

def wI (C : CT) (i : AI) (K : Fr → AH → Prop) (fr : Fr) (h : AH) : Prop :=
  match i.guard with
  | none => wO C i.op fr (fun v fr' h' => K (fr'.put i.dst v) h') h
  | some (g, b) => match look fr.tm g with
    | some (.v (.bool t)) => if t = b then wO C i.op fr (fun v fr' h' => K (fr'.put i.dst v) h') h else K (fr.put i.dst (.v undef)) h
    | some (.v (.tuple _)) => K (fr.put i.dst (.v undef)) h
    | _ => False
def wIs (C : CT) : List AI → (Fr → AH → Prop) → Fr → AH → Prop
  | [], K, fr, h => K fr h
  | i :: r, K, fr, h => wI C i (wIs C r K) fr h
/-- Only these temporaries are held further. -/
def keepL (tm : List (Nat × TV)) : List Nat → List (Nat × TV)
  | [] => []
  | k :: ks => match look tm k with
    | some v => (k, v) :: keepL tm ks
    | none => keepL tm ks
def keepT (fr : Fr) (ks : List Nat) : Fr := { fr with tm := keepL fr.tm ks }

/-- A loop: the least relation that its rounds keep. -/
def lfp (step : (Fr → AH → Prop) → Fr → AH → Prop) (fr : Fr) (h : AH) : Prop := ∀ I : Fr → AH → Prop, (∀ fr h, step I fr h → I fr h) → I fr h

def wC (C : CT) : AC → (Ex → Fr → AH → Prop) → Fr → AH → Prop
  | .skip, Q, fr, h => Q .normal fr h
  | .reg ops ds, Q, fr, h => wIs C ops (fun fr h => Q .normal (keepT fr ds) h) fr h
  | .seq a b, Q, fr, h => wC C a (fun e fr h => match e with | .normal => wC C b Q fr h | e => Q e fr h) fr h
  | .cond c a b, Q, fr, h => match vl fr c with
    | some (.bool t) => if t then wC C a Q fr h else wC C b Q fr h
    | _ => False
  | .block id a, Q, fr, h => wC C a (fun e fr h => match e with | .exit i => if i = id then Q .normal fr h else Q (.exit i) fr h | e => Q e fr h) fr h
  | .loop a, Q, fr, h => lfp (fun I fr h => wC C a (fun e fr h => match e with | .normal => I fr h | e => Q e fr h) fr h) fr h
  | .exit id, Q, fr, h => Q (.exit id) fr h
  | .ret, Q, fr, h => Q .ret fr h

def resV (fr : Fr) (h : AH) : List AR → Option (List Value)
  | [] => some []
  | .t n :: r => match vl fr (.t n), resV fr h r with
    | some v, some vs => if isW v then some (v :: vs) else none
    | _, _ => none
  | .c a n agg :: r => match ad fr a with
    | some p => match ldA fr h n p, resV fr h r with
      | some cs, some vs => match ag agg cs with
        | some v => some (v :: vs)
        | none => none
      | _, _ => none
    | none => none
def one : List Value → Value
  | [v] => v
  | vs => .tuple vs.toArray
def endQ (af : AF) (Q : Value → AH → Prop) (e : Ex) (fr : Fr) (h : AH) : Prop := match e with
  | .exit _ => False
  | _ => match resV fr h af.res with
    | some vs => Q (one vs) h
    | none => False
def args0 : Nat → List Value → List (Nat × TV)
  | _, [] => []
  | n, v :: r => (n, .v v) :: args0 (n + 1) r
def enter (af : AF) (args : List Value) : Fr := { tm := args0 0 args, bx := List.replicate af.nb (0, []) }

/-- A table of functions; and what is known of functions that aren't told here. -/
structure Tab where
  fn : Nat → Option AF
  ext : CT

/-- A call comes to an end and Q holds there: the least such relation. -/
def Runs (T : Tab) (f : Nat) (args : List Value) (Q : Value → AH → Prop) (h : AH) : Prop :=
  ∀ Y : CT, (∀ f args Q h, T.ext f args Q h → Y f args Q h) →
    (∀ f af args Q h, T.fn f = some af → args.length = af.np → wC Y af.body (endQ af Q) (enter af args) h → Y f args Q h) → Y f args Q h
end Am
end Go.Proofs.YtfhlblclcdhbiaaGreatDoor
namespace Go.Proofs.YtfhlblclcdhbiaaGreatDoor
open Go
namespace Am

def plain0 : Value → Bool
  | .bool _ | .int .. | .string _ | .pointer none | .slice none 0 0 => true
  | _ => false
def plainV : Value → Bool
  | .agg cs => cs.toList.all plain0
  | v => plain0 v
def cX : Operand → Option X
  | .tmp t => some (.t t)
  | .const v => if plainV v then some (.c v) else none
  | .func f => some (.c (.func (.func f) #[] #[]))
  | .global _ => none
def cXs : List Operand → Option (List X)
  | [] => some []
  | x :: r => match cX x, cXs r with
    | some a, some l => some (a :: l)
    | _, _ => none
def cOX : Option Operand → Option (Option X)
  | none => some none
  | some x => match cX x with
    | some a => some (some a)
    | none => none
def szT (P : Program) (t : TypeId) : Option Nat := (P.info? t).map (·.size)
def byT (P : Program) (t : TypeId) : Option Nat := (P.info? t).map (·.bytes)
def aggT (P : Program) (t : TypeId) : Option Bool := match P.underlying t with
  | some (.struct _) | some (.array _ _) => some true
  | some _ => some false
  | none => none
/-- cells and form of a variable of type t -/
def varT (P : Program) (t : TypeId) : Option (Nat × Bool) := match aggT P t with
  | some true => match szT P t with
    | some n => some (n, true)
    | none => none
  | some false => some (1, false)
  | none => none
def zeT (P : Program) (t : TypeId) : Option (List Value) := match P.info? t with
  | some i => match i.zero with
    | some z => if plainV z then some (cl z) else none
    | none => none
  | none => none
def elT (P : Program) (t : TypeId) : Option TypeId := match P.underlying t with
  | some (.slice e) => some e
  | _ => none
def sigFs (P : Program) (sig : TypeId → Option (List Nat)) : List Field → Nat → Nat → Option (List Nat)
  | [], off, n => if off = n then some [] else none
  | f :: r, off, n => if f.name ≠ "_" ∧ f.offset = off then match sig f.type, sigFs P sig r (off + P.cellsOf f.type) n with
      | some a, some b => some (a ++ b)
      | _, _ => none
    else none
/-- a type whose values are compared cell by cell: the cells' kinds (0: a whole number, 1: a bool, 2: a string) -/
def sigT (P : Program) : Nat → TypeId → Option (List Nat)
  | 0, _ => none
  | d + 1, t => match P.underlying t with
    | some .bool => if P.cellsOf t = 1 then some [1] else none
    | some (.int _) => if P.cellsOf t = 1 then some [0] else none
    | some .string => if P.cellsOf t = 1 then some [2] else none
    | some (.struct fs) => if P.stoodInHeld t then none else sigFs P (sigT P d) fs.toList 0 (P.cellsOf t)
    | _ => none

def cParts (P : Program) (fs : Array Field) : List (Nat × Operand) → Option (List (Nat × Nat × X))
  | [] => some []
  | (i, x) :: r => match fs[i]?, cX x, cParts P fs r with
    | some f, some a, some l => match szT P f.type with
      | some n => some ((f.offset, n, a) :: l)
      | none => none
    | _, _, _ => none
def cPartsA (sz : Nat) : List (Nat × Operand) → Option (List (Nat × Nat × X))
  | [] => some []
  | (i, x) :: r => match cX x, cPartsA sz r with
    | some a, some l => some ((i * sz, sz, a) :: l)
    | _, _ => none
def cPartsS : List (Nat × Operand) → Option (List (Nat × X))
  | [] => some []
  | (i, x) :: r => match cX x, cPartsS r with
    | some a, some l => some ((i, a) :: l)
    | _, _ => none

/-- what comes to local variables: dst, variable; and what points into them -/
structure Hint where
  box : List (Nat × Nat)
  loc : List Nat
def Hint.isLoc (H : Hint) : Operand → Bool
  | .tmp t => H.loc.contains t
  | _ => false
def Hint.boxOf (H : Hint) : Option Tmp → Option Nat
  | some d => (H.box.find? (·.1 == d)).map (·.2)
  | none => none

def cE (P : Program) (neg : Bool) (op : BinOp) (xt : TypeId) (x y : X) : Option AO := match P.underlying xt with
  | some (.int _) | some .string => some (.bin op x y)
  | some .bool => some (.beq neg x y)
  | some (.slice _) => some (.snil neg x y)
  | some (.struct _) => if P.eqGuardType P.depth xt then none else match sigT P 100 xt with
    | some s => some (.eqs neg s x y)
    | none => none
  | _ => none
def cB (P : Program) (op : BinOp) (xt : TypeId) (x y : X) : Option AO :=
  match op with
  | .eql => cE P false .eql xt x y
  | .neq => cE P true .neq xt x y
  | op => match P.underlying xt with
    | some (.int _) | some .string => some (.bin op x y)
    | _ => none
def cCall (P : Program) (draw : Bool) (c : Call) : Option AO :=
  match c.callee with
  | .value (.func f) => match cXs c.args.toList with
    | some l => some (.call f l draw)
    | none => none
  | .value g => match cX g, cXs c.args.toList with
    | some a, some l => some (.callv a l draw)
    | _, _ => none
  | .builtin .len => match c.args.toList, c.argTypes.toList with
    | [x], [t] => match P.underlying t, cX x with
      | some (.slice _), some a => some (.len a)
      | some .string, some a => some (.slen a)
      | _, _ => none
    | _, _ => none
  | .builtin .append => match c.args.toList, c.argTypes.toList with
    | [s, x], [t, u] => match elT P t, elT P u, cX s, cX x with
      | some e, some _, some a, some b => match szT P e, byT P e, zeT P e with
        | some n, some m, some z => if 0 < m ∧ z.length = n ∧ n ≠ 0 then some (.app n m a b) else none
        | _, _, _ => none
      | _, _, _, _ => none
    | _, _ => none
  | .builtin .min => match c.args.toList with
    | [x, y] => match cX x, cX y with
      | some a, some b => some (.mm false a b)
      | _, _ => none
    | _ => none
  | .builtin .max => match c.args.toList with
    | [x, y] => match cX x, cX y with
      | some a, some b => some (.mm true a b)
      | _, _ => none
    | _ => none
  | _ => none
def cO (P : Program) (H : Hint) (draw : Bool) (o : Oper) : Option AO :=
  match o.op with
  | .move x | .assign x => match cX x with
    | some a => some (.mv a)
    | none => none
  | .nilCheck x => match cX x with
    | some a => some (.nilck a)
    | none => none
  | .pick c a b => match cX c, cX a, cX b with
    | some c, some a, some b => some (.pick c a b)
    | _, _, _ => none
  | .alloc t => match zeT P t with
    | some z => match H.boxOf o.dst with
      | some k => some (.lalloc k z)
      | none => some (.halloc z)
    | none => none
  | .box _ x => match cX x with
    | some a => match H.boxOf o.dst with
      | some k => some (.lbox k a)
      | none => some (.hbox a)
    | none => none
  | .load t a => match varT P t, cX a with
    | some (n, g), some x => some (if H.isLoc a then .lload n g x else .load n g x)
    | _, _ => none
  | .store t a x => match szT P t, cX a, cX x with
    | some n, some p, some v => some (if H.isLoc a then .lstore n p v else .store n p v)
    | _, _, _ => none
  | .binOp op xt x y _ => match cX x, cX y with
    | some a, some b => cB P op xt a b
    | _, _ => none
  | .unOp op _ x => match cX x with
    | some a => some (.un op a)
    | none => none
  | .convert s d x => match cX x with
    | some a => match P.underlying s, P.underlying d with
      | some (.int _), some (.int k) => some (.conv k a)
      | some .string, some .string => some (.same a)
      | some (.slice e), some .string => match P.underlying e with
        | some (.int .u8) => some (.b2s a)
        | _ => none
      | _, _ => none
    | none => none
  | .fieldAddr s x f => match P.underlying s, cX x with
    | some (.struct fs), some a => match fs[f]? with
      | some g => match szT P g.type with
        | some (_ + 1) => some (.fa g.offset a)
        | _ => none
      | none => none
    | _, _ => none
  | .field s x f => match P.underlying s, cX x with
    | some (.struct fs), some a => match fs[f]? with
      | some g => match varT P g.type with
        | some (n, b) => some (.fld g.offset n b a)
        | none => none
      | none => none
    | _, _ => none
  | .indexAddr t x i => match P.underlying t, cX x, cX i with
    | some (.slice e), some a, some j => match szT P e with
      | some n => some (.ia n a j)
      | none => none
    | some (.array l e), some a, some j => match szT P e with
      | some n => if 2 ≤ l then some (.iaa l n a j) else none
      | none => none
    | _, _, _ => none
  | .index t x i => match P.underlying t, cX x, cX i with
    | some .string, some a, some j => some (.ixs a j)
    | some (.array l e), some a, some j => match varT P e, szT P e with
      | some (n, b), some n' => if n = n' then some (.ixa l n b a j) else none
      | _, _ => none
    | _, _, _ => none
  | .makeSlice t l c => match elT P t, cX l, cX c with
    | some e, some a, some b => match szT P e, byT P e, zeT P e with
      | some n, some m, some z => if z.length = n ∧ n ≠ 0 then some (.mk n m z a b) else none
      | _, _, _ => none
    | _, _, _ => none
  | .slice t x lo hi mx => match P.underlying t, cX x, cOX lo, cOX hi, cOX mx with
    | some .string, some a, some l, some h, some none => some (.sls a l h)
    | some (.slice e), some a, some l, some h, some m => match szT P e with
      | some n => if m.isSome && h.isNone then none else some (.sl n a l h m)
      | none => none
    | _, _, _, _, _ => none
  | .extract x j => match cX x with
    | some a => some (.ext j a)
    | none => none
  | .makeFunc (.func f) first cap => if first.size = 0 then match cXs cap.toList with
      | some l => some (.mkfn f l)
      | none => none
    else none
  | .build t parts => match P.underlying t, zeT P t with
    | some (.struct fs), some z => match cParts P fs parts.toList with
      | some l => if fs.toList.all (fun f => (szT P f.type).isSome) then some (.bld z l) else none
      | none => none
    | some (.array _ e), some z => match szT P e with
      | some n => match cPartsA n parts.toList with
        | some l => some (.bld z l)
        | none => none
      | none => none
    | _, _ => none
  | .buildSlice t n parts => match elT P t with
    | some e => match szT P e, zeT P e, cPartsS parts.toList with
      | some s, some z, some l => if z.length = s ∧ s ≠ 0 ∧ n * s ≤ 16777216 then some (.bsl s n z l) else none
      | _, _, _ => none
    | none => none
  | .call c => cCall P draw c
  | _ => none

/-- reads memory; acts on it (makes, writes, calls) -/
inductive Cls where
  | pure | lread | hread | act (quiet : Bool)
  deriving DecidableEq
/-- what an operation does to memory; 'act true': it may be passed by a read of the heap -/
def cls : AO → Cls
  | .load .. | .b2s .. | .sl .. => .hread
  | .lload .. => .lread
  | .lbox .. | .lalloc .. | .lstore .. => .act true
  | .hbox .. | .halloc .. | .mk .. | .bsl .. => .act true
  | .call _ _ b | .callv _ _ b => .act b
  | .store .. | .app .. => .act false
  | _ => .pure
def onBox : AO → Bool
  | .lbox .. | .lalloc .. | .lstore .. => true
  | _ => false
/-- may these two be carried out in either order? -/
def either (a b : AO) : Bool :=
  match cls a, cls b with
  | .act _, .act _ => onBox a != onBox b
  | .lread, .act _ => !onBox b
  | .act _, .lread => !onBox a
  | .hread, .act q => q
  | .act q, .hread => q
  | _, _ => true
/-- what stands before an operation, by its edges: all of them -/
def befores (ops : List Oper) : List (List Nat) :=
  ops.foldl (fun acc o => acc ++ [(o.after.toList.filter (Region.binds .any)).flatMap fun e => e.on :: acc.getD e.on []]) []
def ox : Option X → List X
  | some x => [x]
  | none => []
/-- an operation's operands -/
def AO.xs : AO → List X
  | .mv x | .nilck x => [x]
  | .pick a b c => [a, b, c]
  | .lbox _ x | .hbox x => [x]
  | .lalloc .. | .halloc .. => []
  | .load _ _ a | .lload _ _ a => [a]
  | .store _ a x | .lstore _ a x => [a, x]
  | .bin _ x y | .eqs _ _ x y | .beq _ x y | .snil _ x y | .mm _ x y => [x, y]
  | .un _ x | .conv _ x | .same x | .b2s x | .fa _ x | .fld _ _ _ x => [x]
  | .ia _ x i | .iaa _ _ x i | .ixs x i | .ixa _ _ _ x i => [x, i]
  | .mk _ _ _ l c => [l, c]
  | .sls x l h => x :: (ox l ++ ox h)
  | .sl _ x l h m => x :: (ox l ++ (ox h ++ ox m))
  | .ext _ x | .len x | .slen x => [x]
  | .app _ _ s x => [s, x]
  | .call _ args _ => args
  | .callv g args _ => g :: args
  | .mkfn _ cap => cap
  | .bld _ ps => ps.map (·.2.2)
  | .bsl _ _ _ ps => ps.map (·.2)
def tmpsOf (l : List X) : List Nat := l.filterMap fun x => match x with | .t n => some n | .c _ => none
/-- the temporaries that an instruction looks at -/
def AI.reads (i : AI) : List Nat := tmpsOf i.op.xs ++ (match i.guard with | some (g, _) => [g] | none => [])
/-- b looks at what a yields -/
def touches (a b : AI) : Bool := match a.dst with | some d => b.reads.contains d | none => false
def sameDst (a b : AI) : Bool := match a.dst, b.dst with | some d, some e => d == e | _, _ => false
def plainX : X → Bool
  | .t _ => true
  | .c v => plainV v
def pairOk (ai aj : AI) (bound : Bool) : Bool := !sameDst ai aj && (bound || (!touches ai aj && !touches aj ai && either aj.op ai.op))
/-- the order of each two is bound, or can't be seen -/
def allPairs (aos : List AI) (bf : List (List Nat)) : Bool :=
  aos.all (fun a => cls a.op != .hread || a.op.xs.all plainX) && (List.range aos.length).all fun i => (List.range i).all fun j =>
    match aos[i]?, aos[j]? with
    | some ai, some aj => pairOk ai aj ((bf.getD i []).contains j)
    | _, _ => false
def edgesBack (ops : List Oper) : Nat → Bool := fun n => match ops with
  | [] => true
  | o :: r => o.after.toList.all (fun e => decide (e.on < n) || !Region.binds .any e) && edgesBack r (n + 1)

def dstOk (nt : Nat) : Option Tmp → Bool
  | some d => decide (d < nt)
  | none => true
def cI (P : Program) (H : Hint) (nt : Nat) (draw : Bool) (ops : Array Oper) (o : Oper) : Option AI :=
  if dstOk nt o.dst then
    match cO P H draw o, o.guard with
    | some a, none => some ⟨o.dst, none, a⟩
    | some a, some (j, b) => match (ops[j]?).bind (·.dst) with
      | some d => some ⟨o.dst, some (d, b), a⟩
      | none => none
    | none, _ => none
  else none
def cIs (P : Program) (H : Hint) (nt : Nat) (draw : Bool) (ops : Array Oper) : List Oper → Option (List AI)
  | [] => some []
  | o :: r => match cI P H nt draw ops o, cIs P H nt draw ops r with
    | some a, some l => some (a :: l)
    | _, _ => none
/-- the temporaries that are held behind a region -/
def keysOf (keep : List (Nat × List Nat)) (id : Nat) : List Nat := match keep.find? (fun p => Nat.beq p.1 id) with
  | some p => p.2
  | none => []
def cC (P : Program) (H : Hint) (nt : Nat) (keep : List (Nat × List Nat)) : Code → Option AC
  | .skip => some .skip
  | .region id ops draw => match cIs P H nt draw ops ops.toList with
    | some l => if draw && !(allPairs l (befores ops.toList) && edgesBack ops.toList 0) then none else some (.reg l (keysOf keep id))
    | none => none
  | .seq a b => match cC P H nt keep a, cC P H nt keep b with
    | some x, some y => some (.seq x y)
    | _, _ => none
  | .cond c a b => match cX c, cC P H nt keep a, cC P H nt keep b with
    | some z, some x, some y => some (.cond z x y)
    | _, _, _ => none
  | .block id a => match cC P H nt keep a with
    | some x => some (.block id x)
    | none => none
  | .loop a => match cC P H nt keep a with
    | some x => some (.loop x)
    | none => none
  | .exit id => some (.exit id)
  | .ret => some .ret
  | _ => none
def cR (P : Program) : List ResultVar → Option (List AR)
  | [] => some []
  | .tmp t :: r => match cR P r with
    | some l => some (.t t :: l)
    | none => none
  | .cell a t :: r => match varT P t, cR P r with
    | some (n, g), some l => some (.c (.t a) n g :: l)
    | _, _ => none
def cF (P : Program) (H : Hint) (keep : List (Nat × List Nat)) (fn : Func) : Option AF :=
  match fn.body with
  | some c => match cC P H fn.ntmps keep c, cR P fn.results.toList with
    | some b, some r => if fn.nfree + fn.params.size ≤ fn.ntmps ∧ fn.name ≠ "runtime.NumGoroutine" then some { np := fn.params.size + fn.nfree, nb := H.box.length, body := b, res := r } else none
    | _, _ => none
  | none => none
end Am
end Go.Proofs.YtfhlblclcdhbiaaGreatDoor
namespace Go.Proofs.YtfhlblclcdhbiaaGreatDoor
open Go
namespace Am

/-- Where an abstract row lies: a block, a place in it, the block's cells, an element's size; is it the call's own? -/
structure Ent where
  b : Nat
  sh : Nat
  N : Nat
  sz : Nat
  own : Bool
abbrev Bt := Nat → Option Ent

inductive A2 {α β : Type} (R : α → β → Prop) : List α → List β → Prop where
  | nil : A2 R [] []
  | cons {a b x y} (h : R a b) (t : A2 R x y) : A2 R (a :: x) (b :: y)
section
variable {α β : Type} {R R' : α → β → Prop}
theorem A2.len {x : List α} {y : List β} (h : A2 R x y) : x.length = y.length := by
  induction h with
  | nil => rfl
  | cons _ _ ih => simp [ih]
theorem A2.imp {x : List α} {y : List β} (h : A2 R x y) (hr : ∀ a b, R a b → R' a b) : A2 R' x y := by
  induction h with
  | nil => exact .nil
  | cons h _ ih => exact .cons (hr _ _ h) ih
theorem A2.get {x : List α} {y : List β} (h : A2 R x y) : ∀ (i : Nat) a, x[i]? = some a → ∃ b, y[i]? = some b ∧ R a b := by
  induction h with
  | nil => intro i a h; simp at h
  | cons h _ ih =>
    intro i a hi
    cases i with
    | zero => simp at hi; subst hi; exact ⟨_, rfl, h⟩
    | succ i => simp at hi; simpa using ih i a hi
theorem A2.of_get {x : List α} {y : List β} (hl : x.length = y.length) (h : ∀ (i : Nat) a, x[i]? = some a → ∃ b, y[i]? = some b ∧ R a b) : A2 R x y := by
  induction x generalizing y with
  | nil => cases y with
    | nil => exact .nil
    | cons _ _ => simp at hl
  | cons a x ih =>
    cases y with
    | nil => simp at hl
    | cons b y =>
      obtain ⟨b', hb, hr⟩ := h 0 a rfl
      simp at hb
      subst hb
      exact .cons hr (ih (by simpa using hl) fun i a' hi => by simpa using h (i + 1) a' (by simpa using hi))
theorem A2.append {x x' : List α} {y y' : List β} (h : A2 R x y) (h' : A2 R x' y') : A2 R (x ++ x') (y ++ y') := by
  induction h with
  | nil => exact h'
  | cons h _ ih => exact .cons h ih
theorem A2.take {x : List α} {y : List β} (h : A2 R x y) : ∀ n, A2 R (x.take n) (y.take n) := by
  induction h with
  | nil => intro n; simp; exact .nil
  | cons h _ ih => intro n; cases n with
    | zero => simp; exact .nil
    | succ n => simp; exact .cons h (ih n)
theorem A2.drop {x : List α} {y : List β} (h : A2 R x y) : ∀ n, A2 R (x.drop n) (y.drop n) := by
  induction h with
  | nil => intro n; simp; exact .nil
  | cons h t ih => intro n; cases n with
    | zero => simp; exact .cons h t
    | succ n => simp; exact ih n
end

inductive BR (β : Bt) : Value → Value → Prop where
  | bool (b : Bool) : BR β (.bool b) (.bool b)
  | int (k : IntKind) (n : Int) : BR β (.int k n) (.int k n)
  | string (s : ByteArray) : BR β (.string s) (.string s)
  | pnil : BR β (.pointer none) (.pointer none)
  | ptr {o off : Nat} {e : Ent} (h : β o = some e) : BR β (.pointer (some ⟨o, off, none⟩)) (.pointer (some ⟨e.b, e.sh + off, none⟩))
  | snil : BR β (.slice none 0 0) (.slice none 0 0)
  | sl {o off n c c' : Nat} {e : Ent} (h : β o = some e) (hn : n ≤ c) (hc : c ≤ c') (h0 : c = 0 → c' = 0) (hN : e.own = true → e.sh + off + c' * e.sz ≤ e.N) :
      BR β (.slice (some ⟨o, off, none⟩) n c) (.slice (some ⟨e.b, e.sh + off, none⟩) n c')
inductive CR (β : Bt) : Value → Value → Prop where
  | base {x u} (h : BR β x u) : CR β x u
  | func {f : FuncId} {cs cs' : List Value} (h : A2 (BR β) cs cs') : CR β (.func (.func f) #[] cs.toArray) (.func (.func f) #[] cs'.toArray)
inductive WR (β : Bt) : Value → Value → Prop where
  | cell {x u} (h : CR β x u) : WR β x u
  | agg {cs cs' : List Value} (h : A2 (CR β) cs cs') : WR β (.agg cs.toArray) (.agg cs'.toArray)
inductive VR (β : Bt) : Value → Value → Prop where
  | w {x u} (h : WR β x u) : VR β x u
  | tup {vs vs' : List Value} (h : A2 (WR β) vs vs') : VR β (.tuple vs.toArray) (.tuple vs'.toArray)
/-- The blocks of the call's own variables: how often each has been made, where it lies now. -/
abbrev Lam := List (Option (Nat × Nat))
def blk (lam : Lam) (k : Nat) : Option Nat := match lam[k]? with
  | some (some (_, b)) => some b
  | _ => none
inductive TR (β : Bt) (lam : Lam) : TV → Value → Prop where
  | v {x u} (h : VR β x u) : TR β lam (.v x) u
  | l {k g g' off b b' : Nat} (h : lam[k]? = some (some (g', b))) (hg : g ≤ g') (hb : g = g' → b' = b) : TR β lam (.l k g off) (.pointer (some ⟨b', off, none⟩))
  | x (u : Value) : TR β lam .x u

def Sub (β β' : Bt) : Prop := ∀ o e, β o = some e → β' o = some e
theorem Sub.refl (β : Bt) : Sub β β := fun _ _ h => h
theorem Sub.trans {a b c : Bt} (h : Sub a b) (k : Sub b c) : Sub a c := fun o e x => k o e (h o e x)
section
variable {β β' : Bt}
theorem BR.mono (s : Sub β β') {x u : Value} (h : BR β x u) : BR β' x u := by
  cases h with
  | bool => exact .bool _
  | int => exact .int _ _
  | string => exact .string _
  | pnil => exact .pnil
  | ptr h => exact .ptr (s _ _ h)
  | snil => exact .snil
  | sl h hn hc h0 hN => exact .sl (s _ _ h) hn hc h0 hN
theorem CR.mono (s : Sub β β') {x u : Value} (h : CR β x u) : CR β' x u := by
  cases h with
  | base h => exact .base (h.mono s)
  | func h => exact .func (h.imp fun _ _ h => h.mono s)
theorem WR.mono (s : Sub β β') {x u : Value} (h : WR β x u) : WR β' x u := by
  cases h with
  | cell h => exact .cell (h.mono s)
  | agg h => exact .agg (h.imp fun _ _ h => h.mono s)
theorem VR.mono (s : Sub β β') {x u : Value} (h : VR β x u) : VR β' x u := by
  cases h with
  | w h => exact .w (h.mono s)
  | tup h => exact .tup (h.imp fun _ _ h => h.mono s)
theorem VR.base {x u : Value} (h : BR β x u) : VR β x u := .w (.cell (.base h))
theorem VR.undef : VR β Go.undef Go.undef := .tup (vs := []) (vs' := []) .nil
end

/-- A row that may still be used. -/
def alive (h : AH) (o : Nat) : Prop := ∃ z cs, h.ob[o]? = some (some (z, cs))

/-- The abstract heap, as far as it is mapped, lies in the world. -/
structure RH (B0 : Nat) (β : Bt) (h : AH) (w : World) : Prop where
  dom : ∀ o e, β o = some e → o < h.ob.length
  cell : ∀ o e z cs, β o = some e → h.ob[o]? = some (some (z, cs)) → (e.own = true → z = e.sz ∧ e.sh + cs.length ≤ e.N) ∧
    ∀ i x, cs[i]? = some x → ∃ u, w.cell? ⟨e.b, e.sh + i, none⟩ = some u ∧ CR β x u
  blk : ∀ o e, β o = some e → e.own = true → B0 ≤ e.b ∧ ∃ c t, w.heap[e.b]? = some (.cells c t (0, 0)) ∧ c.size = e.N
  ro : ∀ o e, β o = some e → e.own = false → o < h.bar ∧ e.b < B0
  inj : ∀ o1 e1 o2 e2, β o1 = some e1 → β o2 = some e2 → e1.own = true → e2.own = true → alive h o1 → alive h o2 → e1.b = e2.b → o1 = o2
  b0 : B0 ≤ w.heap.size
  bar : h.bar ≤ h.ob.length

/-- What has happened since (β, h, w). -/
structure Step (β : Bt) (h : AH) (w : World) (β' : Bt) (h' : AH) (w' : World) : Prop where
  sub : Sub β β'
  new : ∀ o e, β' o = some e → β o = none → h.ob.length ≤ o ∧ e.own = true ∧
    (w.heap.size ≤ e.b ∨ ∃ o1 e1, β o1 = some e1 ∧ e1.own = true ∧ h.bar ≤ o1 ∧ alive h o1 ∧ e1.b = e.b)
  keep : ∀ b, b < w.heap.size → (∀ o e, β o = some e → e.own = true → h.bar ≤ o → alive h o → e.b ≠ b) → w'.heap[b]? = w.heap[b]?
  size : w.heap.size ≤ w'.heap.size
  os : w'.os = w.os
  tape : w'.tape = w.tape
  output : w'.output = w.output
  bar : h'.bar = h.bar
  len : h.ob.length ≤ h'.ob.length
  low : ∀ o, o < h.bar → h'.ob[o]? = h.ob[o]?
  dead : ∀ o, o < h.ob.length → alive h' o → alive h o

theorem Step.refl (β : Bt) (h : AH) (w : World) : Step β h w β h w :=
  ⟨.refl _, fun o e h1 h2 => (by rw [h2] at h1; cases h1), fun _ _ _ => rfl, Nat.le_refl _, rfl, rfl, rfl, rfl, Nat.le_refl _, fun _ _ => rfl, fun _ _ h => h⟩
theorem alive.lt {h : AH} {o : Nat} (a : alive h o) : o < h.ob.length := by
  obtain ⟨z, cs, e⟩ := a
  exact (List.getElem?_eq_some_iff.mp e).1
theorem Step.trans {β1 β2 β3 : Bt} {h1 h2 h3 : AH} {w1 w2 w3 : World} (a : Step β1 h1 w1 β2 h2 w2) (b : Step β2 h2 w2 β3 h3 w3) (d1 : ∀ o e, β1 o = some e → o < h1.ob.length) : Step β1 h1 w1 β3 h3 w3 := by
  have shared : ∀ o1 e1 (eb : Nat), β2 o1 = some e1 → e1.own = true → h2.bar ≤ o1 → alive h2 o1 → e1.b = eb →
      (w1.heap.size ≤ eb ∨ ∃ o1 e1, β1 o1 = some e1 ∧ e1.own = true ∧ h1.bar ≤ o1 ∧ alive h1 o1 ∧ e1.b = eb) := by
    intro o1 e1 eb h hown hbar hal he
    cases hb : β1 o1 with
    | none =>
      obtain ⟨_, _, hx⟩ := a.new o1 e1 h hb
      rw [he] at hx
      exact hx
    | some e' =>
      have := a.sub _ _ hb
      rw [h] at this
      cases this
      exact .inr ⟨o1, e1, hb, hown, a.bar ▸ hbar, a.dead _ (d1 _ _ hb) hal, he⟩
  refine ⟨a.sub.trans b.sub, ?_, ?_, Nat.le_trans a.size b.size, b.os.trans a.os, b.tape.trans a.tape, b.output.trans a.output, b.bar.trans a.bar, Nat.le_trans a.len b.len, ?_, ?_⟩
  · intro o e h3' hn
    cases hb : β2 o with
    | none =>
      obtain ⟨hl, hown, hx⟩ := b.new o e h3' hb
      refine ⟨Nat.le_trans a.len hl, hown, ?_⟩
      rcases hx with hx | ⟨o1, e1, hx1, hx2, hx3, hx4, hx5⟩
      · exact .inl (Nat.le_trans a.size hx)
      · exact shared o1 e1 e.b hx1 hx2 hx3 hx4 hx5
    | some e' =>
      have := b.sub _ _ hb
      rw [h3'] at this
      cases this
      exact a.new o e hb hn
  · intro k hk hno
    have e1 := a.keep k hk hno
    rw [b.keep k (Nat.lt_of_lt_of_le hk a.size) ?_, e1]
    intro o e ho hown hbar hal he
    rcases shared o e k ho hown hbar hal he with hx | ⟨o1, e1, hx1, hx2, hx3, hx4, hx5⟩
    · omega
    · exact hno o1 e1 hx1 hx2 hx3 hx4 hx5
  · intro o ho
    rw [b.low o (a.bar ▸ ho), a.low o ho]
  · intro o ho hal
    exact a.dead o ho (b.dead o (Nat.lt_of_lt_of_le ho a.len) hal)

/-- The frame's temporaries. -/
def FrR (β : Bt) (lam : Lam) (fr : Fr) (tmps : Array Value) : Prop := ∀ n v, look fr.tm n = some v → TR β lam v (tmps.getD n undef)
/-- The frame's own variables: in blocks that were made since the call began (W: how many there were). -/
structure BxR (W : Nat) (β : Bt) (lam : Lam) (bx : List (Nat × List Value)) (w : World) : Prop where
  len : lam.length = bx.length
  box : ∀ (k b : Nat), blk lam k = some b → W ≤ b ∧ ∃ (g : Nat) (cs : List Value) (c : Array Value) (t : TypeId), lam[k]? = some (some (g, b)) ∧ bx[k]? = some (g, cs) ∧ w.heap[b]? = some (.cells c t (0, 0)) ∧ A2 (CR β) cs c.toList
  apart : ∀ (k b : Nat), blk lam k = some b → ∀ o e, β o = some e → e.own = true → e.b ≠ b
  inj : ∀ (k k' b : Nat), blk lam k = some b → blk lam k' = some b → k = k'

/-- All of it, inside a call that began at (β0, h0, w0). -/
structure St (B0 : Nat) (β0 : Bt) (h0 : AH) (w0 : World) (nt : Nat) (β : Bt) (lam : Lam) (fr : Fr) (h : AH) (tmps : Array Value) (w : World) : Prop where
  step : Step β0 h0 w0 β h w
  rh : RH B0 β h w
  frr : FrR β lam fr tmps
  bxr : BxR w0.heap.size β lam fr.bx w
  size : tmps.size = nt
end Am
end Go.Proofs.YtfhlblclcdhbiaaGreatDoor
namespace Go.Proofs.YtfhlblclcdhbiaaGreatDoor
open Go
namespace Am
section
variable {β : Bt} {lam : Lam} {fr : Fr}

theorem plain0_br {v : Value} (h : plain0 v = true) : BR β v v := by
  unfold plain0 at h
  split at h
  · exact .bool _
  · exact .int _ _
  · exact .string _
  · exact .pnil
  · exact .snil
  · cases h
theorem a2_self {R : Value → Value → Prop} {l : List Value} (h : ∀ x ∈ l, R x x) : A2 R l l := by
  induction l with
  | nil => exact .nil
  | cons a l ih => exact .cons (h a (by simp)) (ih fun x hx => h x (by simp [hx]))
theorem plain_cells {l : List Value} (h : l.all plain0 = true) : A2 (CR β) l l :=
  a2_self fun x hx => .base (plain0_br (List.all_eq_true.mp h x hx))
theorem plain_vr {v : Value} (h : plainV v = true) : WR β v v := by
  unfold plainV at h
  split at h
  · rename_i cs
    have := WR.agg (β := β) (plain_cells h)
    simpa using this
  · exact .cell (.base (plain0_br h))
theorem plain_cl {v : Value} (h : plainV v = true) : A2 (CR β) (cl v) (cl v) := by
  unfold plainV at h
  split at h
  · exact plain_cells h
  · rename_i h'
    have : cl v = [v] := by
      unfold cl
      split
      · rename_i cs; exact absurd rfl (h' cs)
      · rfl
    rw [this]
    exact .cons (.base (plain0_br h)) .nil

theorem tv_sound {a : Act} (hf : FrR β lam fr a.tmps) {x : Operand} {y : X} (hc : cX x = some y) {v : TV} (h : tv fr y = some v) : TR β lam v (a.eval x) := by
  unfold cX at hc
  split at hc
  · cases hc
    exact hf _ _ h
  · split at hc
    · rename_i hp
      cases hc
      simp only [tv, Option.some.injEq] at h
      subst h
      exact .v (.w (plain_vr hp))
    · cases hc
  · cases hc
    simp only [tv, Option.some.injEq] at h
    subst h
    exact .v (.w (.cell (.func (cs := []) (cs' := []) .nil)))
  · cases hc
theorem vl_tv {y : X} {v : Value} (h : vl fr y = some v) : tv fr y = some (.v v) := by
  unfold vl at h
  split at h
  · rename_i x hx; cases h; exact hx
  · cases h
theorem vl_sound {a : Act} (hf : FrR β lam fr a.tmps) {x : Operand} {y : X} (hc : cX x = some y) {v : Value} (h : vl fr y = some v) : VR β v (a.eval x) := by
  cases tv_sound hf hc (vl_tv h) with
  | v h => exact h
theorem ad_sound {a : Act} (hf : FrR β lam fr a.tmps) {x : Operand} {y : X} (hc : cX x = some y) {p : Ad} (h : ad fr y = some p) :
    match p with
    | .l k g off => ∃ g' b b', lam[k]? = some (some (g', b)) ∧ g ≤ g' ∧ (g = g' → b' = b) ∧ a.eval x = .pointer (some ⟨b', off, none⟩)
    | .h o off => ∃ e, β o = some e ∧ a.eval x = .pointer (some ⟨e.b, e.sh + off, none⟩) := by
  unfold ad at h
  split at h
  · rename_i hv
    cases h
    have := tv_sound hf hc hv
    generalize a.eval x = u at this
    cases this with
    | l h hg hb => exact ⟨_, _, _, h, hg, hb, rfl⟩
  · rename_i hv
    cases h
    have := tv_sound hf hc hv
    generalize a.eval x = u at this
    cases this with
    | v h =>
      cases h with
      | w h => cases h with
        | cell h => cases h with
          | base h => cases h with
            | ptr h => exact ⟨_, h, rfl⟩
  · cases h
theorem vls_sound {a : Act} (hf : FrR β lam fr a.tmps) : ∀ {xs : List Operand} {ys : List X}, cXs xs = some ys → ∀ {vs : List Value}, vls fr ys = some vs → A2 (VR β) vs (xs.map a.eval)
  | [], ys, hc, vs, h => by
    simp only [cXs, Option.some.injEq] at hc
    subst hc
    simp only [vls, Option.some.injEq] at h
    subst h
    exact .nil
  | x :: xs, ys, hc, vs, h => by
    simp only [cXs] at hc
    split at hc
    · rename_i y l hy hl
      cases hc
      simp only [vls] at h
      split at h
      · rename_i v vs' hv hvs
        cases h
        exact .cons (vl_sound hf hy hv) (vls_sound hf hl hvs)
      · cases h
    · cases hc
theorem oX_sound {a : Act} (hf : FrR β lam fr a.tmps) {x : Option Operand} {y : Option X} (hc : cOX x = some y) {v : Option Value} (h : oX fr y = some v) :
    (v = none ∧ x.map a.eval = none) ∨ ∃ u u', v = some u ∧ x.map a.eval = some u' ∧ VR β u u' := by
  unfold cOX at hc
  split at hc
  · cases hc
    simp only [oX, Option.some.injEq] at h
    exact .inl ⟨h.symm, rfl⟩
  · split at hc
    · rename_i y hy
      cases hc
      simp only [oX] at h
      split at h
      · rename_i u hu
        cases h
        exact .inr ⟨_, _, rfl, rfl, vl_sound hf hy hu⟩
      · cases h
    · cases hc

theorem vr_int {k : IntKind} {n : Int} {u : Value} (h : VR β (.int k n) u) : u = .int k n := by
  cases h with | w h => cases h with | cell h => cases h with | base h => cases h; rfl
theorem vr_bool {b : Bool} {u : Value} (h : VR β (.bool b) u) : u = .bool b := by
  cases h with | w h => cases h with | cell h => cases h with | base h => cases h; rfl
theorem vr_string {s : ByteArray} {u : Value} (h : VR β (.string s) u) : u = .string s := by
  cases h with | w h => cases h with | cell h => cases h with | base h => cases h; rfl
theorem vr_snil {n c : Nat} {u : Value} (h : VR β (.slice none n c) u) : n = 0 ∧ c = 0 ∧ u = .slice none 0 0 := by
  cases h with | w h => cases h with | cell h => cases h with | base h => cases h; exact ⟨rfl, rfl, rfl⟩
theorem vr_slice {p : Addr} {n c : Nat} {u : Value} (h : VR β (.slice (some p) n c) u) :
    ∃ o off e c', p = ⟨o, off, none⟩ ∧ u = .slice (some ⟨e.b, e.sh + off, none⟩) n c' ∧ β o = some e ∧ n ≤ c ∧ c ≤ c' ∧ (c = 0 → c' = 0) ∧ (e.own = true → e.sh + off + c' * e.sz ≤ e.N) := by
  cases h with | w h => cases h with | cell h => cases h with | base h => cases h with
    | sl h hn hc h0 hN => exact ⟨_, _, _, _, rfl, rfl, h, hn, hc, h0, hN⟩
theorem vr_agg {cs : Array Value} {u : Value} (h : VR β (.agg cs) u) : ∃ cs', u = .agg cs' ∧ A2 (CR β) cs.toList cs'.toList := by
  cases h with | w h => cases h with
    | cell h => cases h with | base h => cases h
    | agg h => exact ⟨_, rfl, by simpa using h⟩
theorem vr_tup {vs : Array Value} {u : Value} (h : VR β (.tuple vs) u) : ∃ vs', u = .tuple vs' ∧ A2 (WR β) vs.toList vs'.toList := by
  cases h with
  | w h => cases h with | cell h => cases h with | base h => cases h
  | tup h => exact ⟨_, rfl, by simpa using h⟩
theorem vr_func {f : FuncId} {cap : Array Value} {u : Value} (h : VR β (.func (.func f) #[] cap) u) : ∃ cap', u = .func (.func f) #[] cap' ∧ A2 (BR β) cap.toList cap'.toList := by
  cases h with | w h => cases h with | cell h => cases h with
    | base h => cases h
    | func h => exact ⟨_, rfl, by simpa using h⟩
theorem vr_w {v u : Value} (h : VR β v u) (hw : isW v = true) : WR β v u := by
  cases h with
  | w h => exact h
  | tup h => cases hw
theorem cr_cl {v u : Value} (h : CR β v u) : cl v = [v] ∧ u.cells.toList = [u] ∧ u.oneCell' = true := by
  cases h with
  | base h => cases h <;> exact ⟨rfl, rfl, rfl⟩
  | func h => exact ⟨rfl, rfl, rfl⟩
theorem wr_cl {v u : Value} (h : WR β v u) : A2 (CR β) (cl v) u.cells.toList := by
  cases h with
  | cell h =>
    obtain ⟨h1, h2, _⟩ := cr_cl h
    rw [h1, h2]
    exact .cons h .nil
  | agg h => simpa [cl, Value.cells] using h
theorem a2_one {x y : List Value} (h : A2 (CR β) x y) : ∀ v ∈ y, v.oneCell' = true := by
  induction h with
  | nil => simp
  | cons h _ ih =>
    intro v hv
    rcases List.mem_cons.mp hv with rfl | hv
    · exact (cr_cl h).2.2
    · exact ih v hv
theorem ag_w {b : Bool} {cs cs' : List Value} (h : A2 (CR β) cs cs') {v : Value} (hv : ag b cs = some v) :
    WR β v (if b then .agg cs'.toArray else cs'.headD undef) ∧ (b = false → cs'.length = 1) := by
  unfold ag at hv
  split at hv
  · rename_i hb
    cases hv
    subst hb
    exact ⟨.agg h, fun h => by cases h⟩
  · rename_i hb
    split at hv
    · cases hv
      cases h with
      | cons h t =>
        cases t
        simp only [Bool.not_eq_true] at hb
        subst hb
        exact ⟨.cell h, fun _ => rfl⟩
    · cases hv
theorem vr_isB {v u : Value} (h : VR β v u) (hb : isB v = true) : BR β v u := by
  cases h with
  | w h => cases h with
    | cell h => cases h with
      | base h => exact h
      | func h => cases hb
    | agg h => cases hb
  | tup h => cases hb
theorem a2_isB : ∀ {vs us : List Value}, A2 (VR β) vs us → vs.all isB = true → A2 (BR β) vs us
  | [], _, .nil, _ => .nil
  | v :: vs, _, .cons h t, hb => by
    simp only [List.all_cons, Bool.and_eq_true] at hb
    exact .cons (vr_isB h hb.1) (a2_isB t hb.2)
end

section
variable {B0 : Nat} {β : Bt} {h : AH} {w : World}
theorem sub_get {cs : List Value} {off n : Nat} {l : List Value} (hs : sub cs off n = some l) : off + n ≤ cs.length ∧ l.length = n ∧ ∀ i, i < n → l[i]? = cs[off + i]? := by
  unfold sub at hs
  split at hs
  · rename_i hle
    cases hs
    refine ⟨hle, by simp; omega, fun i hi => ?_⟩
    rw [List.getElem?_take_of_lt hi, List.getElem?_drop]
  · cases hs
theorem addr_add (b o i : Nat) : (⟨b, o, none⟩ : Addr).add i = ⟨b, o + i, none⟩ := by
  unfold Addr.add
  split
  · rename_i h; subst h; rfl
  · rfl
theorem rd_cells (hr : RH B0 β h w) {o off n : Nat} {e : Ent} (he : β o = some e) {cs : List Value} (hs : rd h o off n = some cs) :
    cs.length = n ∧ ∃ us : List Value, us.length = n ∧ A2 (CR β) cs us ∧ ∀ (i : Nat) u, us[i]? = some u → w.cell? ⟨e.b, e.sh + off + i, none⟩ = some u := by
  unfold rd at hs
  split at hs
  · rename_i z row hrow
    obtain ⟨hle, hl, hget⟩ := sub_get hs
    refine ⟨hl, (List.range n).map (fun i => (w.cell? ⟨e.b, e.sh + off + i, none⟩).getD undef), by simp, ?_, ?_⟩
    · refine A2.of_get (by simp [hl]) fun i a hi => ?_
      have hin : i < n := by have := (List.getElem?_eq_some_iff.mp hi).1; omega
      rw [hget i hin] at hi
      obtain ⟨u, hu, hcr⟩ := (hr.cell o e z row he hrow).2 (off + i) a hi
      rw [show e.sh + (off + i) = e.sh + off + i from by omega] at hu
      exact ⟨u, by simp [hin, hu], hcr⟩
    · intro i u hi
      have hin : i < n := by have := (List.getElem?_eq_some_iff.mp hi).1; simpa using this
      have h1 : row[off + i]? = some (row[off + i]'(by omega)) := List.getElem?_eq_getElem (by omega)
      obtain ⟨u', hu, _⟩ := (hr.cell o e z row he hrow).2 (off + i) _ h1
      rw [show e.sh + (off + i) = e.sh + off + i from by omega] at hu
      simp only [List.getElem?_map, List.getElem?_range hin, Option.map_some, Option.some.injEq] at hi
      rw [hu] at hi
      simp at hi
      subst hi
      exact hu
  · cases hs
theorem run_cells {P : Program} {b o : Nat} {us : List Value} (h : ∀ (i : Nat) u, us[i]? = some u → w.cell? ⟨b, o + i, none⟩ = some u) :
    (loadCells ⟨b, o, none⟩ us.length).run P w = .ok us.toArray w :=
  run_loadCells_list w _ us fun j v hj => by rw [addr_add]; exact h j v hj
end
end Am
end Go.Proofs.YtfhlblclcdhbiaaGreatDoor
