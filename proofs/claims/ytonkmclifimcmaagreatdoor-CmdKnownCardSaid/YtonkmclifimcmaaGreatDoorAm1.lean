/- THE ABSTRACT MACHINE, part 1: its values, its code, what compiles to it, and that each operation does what the model does. -/
import GoSem.Decode
import GoSem.Elab.Main
import Derived.Orders
import Derived.Calls
import Derived.Laws.Sem
import Derived.Laws.World
import Derived.Laws.Cells
import Derived.Laws.Append
import GoSem.Dispatch
import Derived.Laws.StructEq
import Derived.ChangeKeysEq
import Derived.Laws.BytesString
import Derived.Laws.Tables
namespace Am
open Go

/-! Values, heap -/
inductive V where
  | b (x : Bool)
  | i (k : IntKind) (n : Int)
  | s (x : List Nat)
  | pn
  | p (b o : Nat)
  | sn
  | sl (b o n sz : Nat) (cap : Option Nat)
  | mn
  | m (r : Nat)
  | f (fn : Nat) (fs cs : List V)
  | nf
  | ic (t : Nat) (v : V)
  | ni
  | a (cs : List V)
  | t (vs : List V)
  | lp (o : Nat)
  | lsl (o n : Nat)
  deriving Inhabited

def undef : V := .t []

inductive B where
  | cells (cs : List V)
  | map (es : List (V × V))

/-- a trie by the number's bits -/
inductive Tr where
  | lf
  | nd (l : Tr) (x : Option B) (r : Tr)

def Tr.get : Nat → Tr → Nat → Option B
  | 0, _, _ => none
  | _ + 1, .lf, _ => none
  | k + 1, .nd l x r, n => match n with
    | 0 => x
    | n + 1 => bif Nat.beq (n % 2) 0 then Tr.get k l (n / 2) else Tr.get k r (n / 2)
def Tr.set : Nat → Tr → Nat → Option B → Tr
  | 0, t, _, _ => t
  | k + 1, .lf, n, v => match n with
    | 0 => .nd .lf v .lf
    | n + 1 => bif Nat.beq (n % 2) 0 then .nd (Tr.set k .lf (n / 2) v) none .lf else .nd .lf none (Tr.set k .lf (n / 2) v)
  | k + 1, .nd l x r, n, v => match n with
    | 0 => .nd l v r
    | n + 1 => bif Nat.beq (n % 2) 0 then .nd (Tr.set k l (n / 2) v) x r else .nd l x (Tr.set k r (n / 2) v)

/-- what a variable of the program's holds from the start on: its block's cells; or one value of an interface -/
inductive GK where
  | tab (b : Nat) (l : List V)
  | err (b : Nat)

structure H where
  n : Nat
  t : Tr
  g : List GK

def H.get (h : H) (b : Nat) : Option B := Tr.get (b + 1) h.t b
def H.set (h : H) (b : Nat) (v : Option B) : H := ⟨h.n, Tr.set (b + 1) h.t b v, h.g⟩
def H.new (h : H) (v : B) : H := ⟨h.n + 1, Tr.set (h.n + 1) h.t h.n (some v), h.g⟩

/-! Code -/
inductive X where
  | v (j : Nat)
  | t (d : Nat)
  | c (x : V)

/-- a plain cell's kind; how two values are compared -/
inductive Ck where | b | i | s
inductive Q where | bo | nu | st | ag (ks : List Ck) | pt | sl | mp | fn | ic

/-- the base of a local place: the slot itself, or a temporary that holds a place in it -/
inductive O where
  | mv (x : X)
  | pick (c a b : X)
  | un (op : UnOp) (x : X)
  | bin (op : BinOp) (x y : X)
  | eqv (ne : Bool) (q : Q) (x y : X)
  | cvI (k : IntKind) (x : X)
  | same (x : X)                                   -- a conversion that changes nothing (string to string, slice to slice of one type)
  | b2s (x : X)                                    -- bytes to a string
  | s2b (x : X)                                    -- a string to bytes
  | i2s (x : X)                                    -- an integer to a string (a rune)
  | ext (x : X) (i : Nat)
  | fld (x : X) (o : Nat) (g : Bool) (sz : Nat)
  | idx (x i : X) (len : Nat) (g : Bool) (sz : Nat)
  | sidx (x i : X)
  | bld (zero : List V) (ps : List (Nat × Nat × X))
  | lenS (x : X)
  | lenL (x : X)
  | lenA (n : Nat)
  | lenM (x : X)
  | capL (x : X)
  | mnx (mx : Bool) (xs : List X)
  | sub (x : X) (sz : Nat) (lo hi mx : Option X)              -- slice of a slice
  | ssub (x : X) (lo hi : Option X)                -- slice of a string
  | asub (x : X) (len sz : Nat) (lo hi : Option X)        -- slice of an array behind a pointer
  | nilc (x : X)
  | mkf (f : Nat) (fs cs : List X)
  | mki (t : Nat) (x : X)
  -- places in local boxes
  | lal (s : Nat) (zero : List V)
  | lbx (s : Nat) (x : X)
  | lbs (s n sz : Nat) (zero : List V) (ps : List (Nat × Nat × X))
  | lfa (s : Nat) (d : Option Nat) (o : Nat)
  | lia (s : Nat) (d : Option Nat) (i : X) (len sz : Nat)
  | lld (s : Nat) (d : Option Nat) (g : Bool) (sz : Nat)
  | lst (s : Nat) (d : Option Nat) (x : X) (sz : Nat)
  | lsub (s : Nat) (d : Option Nat) (len sz : Nat) (lo hi : Option X)
  | lb2s (s : Nat) (d : Nat)
  -- the heap
  | hal (zero : List V)
  | hbx (x : X)
  | hbs (n sz : Nat) (zero : List V) (ps : List (Nat × Nat × X))
  | mks (l c : X) (sz by_ : Nat) (zero : List V)
  | fa (x : X) (o : Nat)
  | ia (x i : X) (sz : Nat)                        -- of a slice
  | iaA (x i : X) (len sz : Nat)                   -- of an array behind a pointer
  | ld (x : X) (g : Bool) (sz : Nat)
  | st (x v : X) (sz : Nat)
  | app (x y : X) (sz by_ : Nat)
  | appS (x y : X) (by_ : Nat)                     -- a string behind bytes
  | appL (x : X) (s d sz by_ : Nat)                -- a local slice behind
  | appM (x n : X) (sz by_ : Nat) (zero : List V)  -- so many zeros behind
  | cpy (x y : X) (sz : Nat)
  | cpyS (x y : X)
  | clr (x : X) (sz : Nat) (zero : List V)
  | mkm
  | look (q : Q) (x k : X) (ok : Bool) (zero : V)
  | mup (q : Q) (x k v : X)
  | mdel (q : Q) (x k : X)
  | mclr (x : X)
  | usd (x : X)
  | uss (x n : X)
  | call (f : Nat) (as : List X)
  | callv (f : X) (as : List X)
  | no

structure RO where
  g : Option (Nat × Bool)     -- the guard: how far back, what is wanted
  d : Option Nat              -- the variable that is written
  o : O

inductive K where
  | skip
  | bad
  | reg (ops : List RO)
  | dreg (ops : List RO) (fl : List (Nat × Option Nat))
  | seq (a b : K)
  | cond (x : X) (a b : K)
  | block (id : Nat) (b : K)
  | loop (b : K)
  | exit (id : Nat)
  | ret

inductive RV where
  | v (j : Nat)
  | l (s : Nat) (g : Bool) (sz : Nat)

structure CF where
  nv : Nat
  nl : Nat
  np : Nat
  body : K
  res : List RV


/-! Evaluating -/
def lget : List V → Nat → V
  | [], _ => undef
  | v :: _, 0 => v
  | _ :: l, n + 1 => lget l n
def lset : List V → Nat → V → List V
  | [], _, _ => []
  | _ :: l, 0, v => v :: l
  | x :: l, n + 1, v => x :: lset l n v

def nlt (a b : Nat) : Bool := Nat.blt a b
def ilt : Int → Int → Bool
  | .ofNat a, .ofNat b => Nat.blt a b
  | .ofNat _, .negSucc _ => false
  | .negSucc _, .ofNat _ => true
  | .negSucc a, .negSucc b => Nat.blt b a
def ieq : Int → Int → Bool
  | .ofNat a, .ofNat b => Nat.beq a b
  | .ofNat _, .negSucc _ => false
  | .negSucc _, .ofNat _ => false
  | .negSucc a, .negSucc b => Nat.beq a b
def keq : IntKind → IntKind → Bool
  | .i8, .i8 | .i16, .i16 | .i32, .i32 | .i64, .i64 | .u8, .u8 | .u16, .u16 | .u32, .u32 | .u64, .u64 => true
  | _, _ => false
/-- the kind's bound: 2 to its bits, less one for a sign -/
def klim : IntKind → Nat
  | .i8 => 128 | .i16 => 32768 | .i32 => 2147483648 | .i64 => 9223372036854775808
  | .u8 => 256 | .u16 => 65536 | .u32 => 4294967296 | .u64 => 18446744073709551616
def kmod : IntKind → Nat
  | .i8 | .u8 => 256 | .i16 | .u16 => 65536 | .i32 | .u32 => 4294967296 | .i64 | .u64 => 18446744073709551616
def ksg : IntKind → Bool
  | .i8 | .i16 | .i32 | .i64 => true
  | _ => false
def wr (k : IntKind) : Int → Int
  | .ofNat a => bif Nat.blt a (klim k) then .ofNat a else k.wrap (.ofNat a)
  | .negSucc a => bif ksg k && Nat.blt a (klim k) then .negSucc a else k.wrap (.negSucc a)
def bitsSlow (op : BinOp) (k : IntKind) (a b : Int) : Option Int :=
  let x := (BitVec.ofInt k.bits a)
  let y := (BitVec.ofInt k.bits b)
  match op with
  | .and => some (k.wrap (x &&& y).toNat)
  | .or => some (k.wrap (x ||| y).toNat)
  | .xor => some (k.wrap (x ^^^ y).toNat)
  | .andNot => some (k.wrap (x &&& ~~~y).toNat)
  | _ => none
def bitsOp (op : BinOp) (k : IntKind) : Int → Int → Option Int
  | .ofNat a, .ofNat b =>
    bif Nat.blt a (kmod k) && Nat.blt b (kmod k) then
      match op with
      | .and => some (wr k (.ofNat (Nat.land a b)))
      | .or => some (wr k (.ofNat (Nat.lor a b)))
      | .xor => some (wr k (.ofNat (Nat.xor a b)))
      | .andNot => some (wr k (.ofNat (Nat.land a (Nat.xor (kmod k - 1) b))))
      | _ => none
    else none
  | a, b => bitsSlow op k a b
def arith (op : BinOp) (k : IntKind) (x y : Int) : Option V :=
  match op with
  | .add => some (.i k (wr k (Int.add x y)))
  | .sub => some (.i k (wr k (Int.sub x y)))
  | .mul => some (.i k (wr k (Int.mul x y)))
  | .quo => bif ieq y 0 then none else some (.i k (wr k (Int.tdiv x y)))
  | .rem => bif ieq y 0 then none else some (.i k (Int.tmod x y))
  | .eql => some (.b (ieq x y))
  | .neq => some (.b (!ieq x y))
  | .lss => some (.b (ilt x y))
  | .leq => some (.b (!ilt y x))
  | .gtr => some (.b (ilt y x))
  | .geq => some (.b (!ilt x y))
  | _ => (bitsOp op k x y).map (.i k)
def shiftOp (op : BinOp) (k : IntKind) (x : Int) : Int → Option V
  | .ofNat n =>
    let m := bif Nat.blt n k.bits then n else k.bits
    match op with
    | .shl => some (.i k (wr k (Int.mul x (.ofNat (Nat.pow 2 m)))))
    | .shr => some (.i k (Int.fdiv x (.ofNat (Nat.pow 2 m))))
    | _ => none
  | .negSucc _ => none
def slt : List Nat → List Nat → Bool
  | _, [] => false
  | [], _ :: _ => true
  | a :: x, b :: y => Nat.blt a b || (Nat.beq a b && slt x y)
def seq : List Nat → List Nat → Bool
  | [], [] => true
  | a :: x, b :: y => Nat.beq a b && seq x y
  | _, _ => false
def slen : List Nat → Nat → Nat
  | [], n => n
  | _ :: l, n => slen l (n + 1)
def sapp : List Nat → List Nat → List Nat
  | [], y => y
  | a :: x, y => a :: sapp x y
def beqB : Bool → Bool → Bool
  | true, true => true
  | false, false => true
  | _, _ => false
/-- one plain cell against another -/
def ceq : Ck → V → V → Option Bool
  | .i, .i k x, .i k' y => bif keq k k' then some (ieq x y) else none
  | .b, .b x, .b y => some (beqB x y)
  | .s, .s x, .s y => some (seq x y)
  | _, _, _ => none
def csEq : List Ck → List V → List V → Option Bool
  | [], [], [] => some true
  | k :: ks, x :: xs, y :: ys => match ceq k x y with
    | some r => match csEq ks xs ys with
      | some r' => some (r && r')
      | none => none
    | none => none
  | _, _, _ => none
def qeq : Q → V → V → Option Bool
  | .bo, x, y => ceq .b x y
  | .nu, x, y => ceq .i x y
  | .st, x, y => ceq .s x y
  | .ag ks, .a xs, .a ys => csEq ks xs ys
  | .pt, .pn, .pn => some true
  | .pt, .pn, .p _ _ => some false
  | .pt, .p _ _, .pn => some false
  | .sl, .sn, .sn => some true
  | .sl, .sn, .sl .. => some false
  | .sl, .sl .., .sn => some false
  | .mp, .mn, .mn => some true
  | .mp, .mn, .m _ => some false
  | .mp, .m _, .mn => some false
  | .fn, .nf, .nf => some true
  | .fn, .nf, .f .. => some false
  | .fn, .f .., .nf => some false
  | .ic, .ni, .ni => some true
  | .ic, .ni, .ic .. => some false
  | .ic, .ic .., .ni => some false
  | _, _, _ => none
def binOp (op : BinOp) (x y : V) : Option V :=
  match x, y with
  | .i k a, .i k' b =>
    match op with
    | .shl | .shr => shiftOp op k a b
    | _ => bif keq k k' then arith op k a b else none
  | .s a, .s b =>
    match op with
    | .add => bif Nat.blt (slen a 0 + slen b 0) 4611686018427387904 then some (.s (sapp a b)) else none
    | .eql => some (.b (seq a b))
    | .neq => some (.b (!seq a b))
    | .lss => some (.b (slt a b))
    | .leq => some (.b (slt a b || seq a b))
    | .gtr => some (.b (!(slt a b || seq a b)))
    | .geq => some (.b (!slt a b))
    | _ => none
  | _, _ => none
def unOp (op : UnOp) : V → Option V
  | .i k n => match op with
    | .neg => some (.i k (wr k (Int.sub 0 n)))
    | .xor => (bitsOp .xor k (bif ksg k then .negSucc 0 else .ofNat (kmod k - 1)) n).map (.i k)
    | _ => none
  | .b x => match op with
    | .not => some (.b (!x))
    | _ => none
  | _ => none

def getX (vs ts : List V) : X → V
  | .v j => lget vs j
  | .t d => lget ts d
  | .c x => x
def getXs (vs ts : List V) : List X → List V
  | [] => []
  | x :: xs => getX vs ts x :: getXs vs ts xs

/-- the cells of a value; a tuple, a place have none -/
def V.cs? : V → Option (List V)
  | .a cs => some cs
  | .t _ => none
  | .lp _ => none
  | .lsl _ _ => none
  | v => some [v]
def V.cs (v : V) : List V := match v.cs? with
  | some cs => cs
  | none => []
def vlen : List V → Nat → Nat
  | [], n => n
  | _ :: l, n => vlen l (n + 1)
def vtake : Nat → List V → List V
  | 0, _ => []
  | _ + 1, [] => []
  | n + 1, x :: l => x :: vtake n l
def vdrop : Nat → List V → List V
  | 0, l => l
  | _ + 1, [] => []
  | n + 1, _ :: l => vdrop n l
def vapp : List V → List V → List V
  | [], y => y
  | a :: x, y => a :: vapp x y
def vrep : Nat → List V → List V
  | 0, _ => []
  | n + 1, l => vapp l (vrep n l)
/-- cells out of a row: n of them from o on; none where they are not all there -/
def part (cs : List V) (o n : Nat) : Option (List V) :=
  let r := vtake n (vdrop o cs)
  bif Nat.beq (vlen r 0) n then some r else none
def mkV (g : Bool) (cs : List V) : Option V :=
  bif g then some (.a cs) else match cs with
    | [v] => some v
    | _ => none
def rd (cs : List V) (o : Nat) (g : Bool) (sz : Nat) : Option V :=
  match part cs o sz with
  | some r => mkV g r
  | none => none
/-- cells written over a row's, from o on -/
def over : List V → Nat → List V → List V
  | cs, _, [] => cs
  | [], _, _ => []
  | _ :: cs, 0, v :: vs => v :: over cs 0 vs
  | c :: cs, o + 1, vs => c :: over cs o vs
def wrt (cs : List V) (o : Nat) (new : List V) : Option (List V) :=
  bif Nat.ble (o + vlen new 0) (vlen cs 0) then some (over cs o new) else none

abbrev Ls := List (Option (List V))
def slot : Ls → Nat → Option (List V)
  | [], _ => none
  | x :: _, 0 => x
  | _ :: l, n + 1 => slot l n
def setSlot : Ls → Nat → List V → Ls
  | [], _, _ => []
  | _ :: l, 0, v => some v :: l
  | x :: l, n + 1, v => x :: setSlot l n v

inductive Rs where
  | no
  | ok (v : V) (ls : Ls) (h : H)

def Rs.of (ls : Ls) (h : H) : Option V → Rs
  | some v => .ok v ls h
  | none => .no

def inat : V → Option Nat
  | .i _ (.ofNat n) => some n
  | _ => none
/-- the bounds of a slice expression: low, high -/
def lowB (vs ts : List V) (lo : Option X) (h : Nat) : Option (Nat × Nat) :=
  match lo with
  | none => some (0, h)
  | some x => match inat (getX vs ts x) with
    | some l => bif Nat.ble l h then some (l, h) else none
    | none => none
def bounds (vs ts : List V) (len : Nat) (capOk : Nat → Bool) (lo hi : Option X) : Option (Nat × Nat) :=
  match hi with
  | none => lowB vs ts lo len
  | some x => match inat (getX vs ts x) with
    | some n => bif capOk n then lowB vs ts lo n else none
    | none => none
/-- may a slice be cut there? Its cap, where it is known, or its length -/
def capOk (cap : Option Nat) (n k : Nat) : Bool :=
  match cap with
  | some c => Nat.ble k c
  | none => Nat.ble k n
def bytesOf : List V → Option (List Nat)
  | [] => some []
  | .i .u8 (.ofNat n) :: l => bif Nat.blt n 256 then (match bytesOf l with | some r => some (n :: r) | none => none) else none
  | _ :: _ => none
def vbytes : List Nat → List V
  | [] => []
  | n :: l => .i .u8 (.ofNat n) :: vbytes l
def fillAll (vs ts : List V) : List V → List (Nat × Nat × X) → Option (List V)
  | cs, [] => some cs
  | cs, (o, sz, x) :: r =>
    match (getX vs ts x).cs? with
    | some n => bif Nat.beq (vlen n 0) sz then (match wrt cs o n with | some cs => fillAll vs ts cs r | none => none) else none
    | none => none
/-- what a slice holds: its cells; its elements have so many each -/
def cellsOf (h : H) (sz' : Nat) : V → Option (List V)
  | .sn => some []
  | .sl b o n sz _ => bif Nat.beq sz sz' then (match h.get b with
    | some (.cells cs) => part cs o (n * sz)
    | _ => none) else none
  | _ => none
def place (ts : List V) : Option Nat → Option Nat
  | none => some 0
  | some d => match lget ts d with
    | .lp o => some o
    | _ => none
def lenSl : V → Nat
  | .sl _ _ n _ _ => n
  | _ => 0
/-- append of cells to a slice -/
def append (h : H) (x : V) (k sz by_ : Nat) (new : List V) : Option (V × H) :=
  match x with
  | .sn => bif Nat.beq k 0 then some (.sn, h)
      else bif Nat.ble (k * by_) 1099511627776 then some (.sl h.n 0 k sz none, h.new (.cells new)) else none
  | .sl b o n sz' cap =>
    bif !Nat.beq sz sz' then none else
    bif Nat.beq k 0 then some (x, h) else
    match h.get b with
    | some (.cells cs) =>
      match part cs o (n * sz) with
      | none => none
      | some old =>
        bif !Nat.ble ((n + k) * by_) 1099511627776 then none else
        match cap with
        | none => some (.sl h.n 0 (n + k) sz none, (h.set b none).new (.cells (vapp old new)))
        | some c =>
          bif Nat.ble (n + k) c then
            match wrt cs (o + n * sz) new with
            | some cs => some (.sl b o (n + k) sz cap, h.set b (some (.cells cs)))
            | none => none
          else some (.sl h.n 0 (n + k) sz none, h.new (.cells (vapp old new)))
    | _ => none
  | _ => none
def minMax (mx : Bool) : V → List V → Option V
  | v, [] => some v
  | .i k x, .i k' y :: r => bif keq k k' then minMax mx (.i k (bif (bif mx then ilt x y else ilt y x) then y else x)) r else none
  | _, _ => none
def mfind (q : Q) (k : V) : List (V × V) → Option (Option V)
  | [] => some none
  | (a, v) :: r => match qeq q k a with
    | some true => some (some v)
    | some false => mfind q k r
    | none => none
def isKey (q : Q) (k : V) : Bool := match qeq q k k with | some _ => true | none => false
def mput (q : Q) (k v : V) : List (V × V) → List (V × V)
  | [] => [(k, v)]
  | (a, x) :: r => match qeq q k a with
    | some true => (k, v) :: r
    | _ => (a, x) :: mput q k v r
def mdrop (q : Q) (k : V) : List (V × V) → List (V × V)
  | [] => []
  | (a, x) :: r => match qeq q k a with
    | some true => r
    | _ => (a, x) :: mdrop q k r

abbrev CallT := Nat → List V → H → Option (V × H)
def Rs.ofP (ls : Ls) : Option (V × H) → Rs
  | some (v, h) => .ok v ls h
  | none => .no

def e_mv (x : X) (_call : CallT) (vs ts : List V) (ls : Ls) (h : H) : Rs :=
  .ok (getX vs ts x) ls h
def e_pick (c : X) (a : X) (b : X) (_call : CallT) (vs ts : List V) (ls : Ls) (h : H) : Rs :=
  match getX vs ts c with
    | .b t => .ok (bif t then getX vs ts a else getX vs ts b) ls h
    | _ => .no
def e_un (op : UnOp) (x : X) (_call : CallT) (vs ts : List V) (ls : Ls) (h : H) : Rs :=
  Rs.of ls h (unOp op (getX vs ts x))
def e_bin (op : BinOp) (x : X) (y : X) (_call : CallT) (vs ts : List V) (ls : Ls) (h : H) : Rs :=
  Rs.of ls h (binOp op (getX vs ts x) (getX vs ts y))
def e_eqv (ne : Bool) (q : Q) (x : X) (y : X) (_call : CallT) (vs ts : List V) (ls : Ls) (h : H) : Rs :=
  match qeq q (getX vs ts x) (getX vs ts y) with
    | some r => .ok (.b (bif ne then !r else r)) ls h
    | none => .no
def e_cvI (k : IntKind) (x : X) (_call : CallT) (vs ts : List V) (ls : Ls) (h : H) : Rs :=
  match getX vs ts x with
    | .i _ n => .ok (.i k (wr k n)) ls h
    | _ => .no
def e_same (x : X) (_call : CallT) (vs ts : List V) (ls : Ls) (h : H) : Rs :=
  match getX vs ts x with
    | .s r => .ok (.s r) ls h
    | _ => .no
def e_b2s (x : X) (_call : CallT) (vs ts : List V) (ls : Ls) (h : H) : Rs :=
  match cellsOf h 1 (getX vs ts x) with
    | some cs => match bytesOf cs with
      | some r => .ok (.s r) ls h
      | none => .no
    | none => .no
def e_s2b (x : X) (_call : CallT) (vs ts : List V) (ls : Ls) (h : H) : Rs :=
  match getX vs ts x with
    | .s r => bif Nat.ble (slen r 0) 1099511627776 then .ok (.sl h.n 0 (slen r 0) 1 none) ls (h.new (.cells (vbytes r))) else .no
    | _ => .no
def e_i2s (x : X) (_call : CallT) (vs ts : List V) (ls : Ls) (h : H) : Rs :=
  match getX vs ts x with
    | .i _ (.ofNat n) => bif Nat.blt n 128 then .ok (.s [n]) ls h else .no
    | _ => .no
def e_ext (x : X) (j : Nat) (_call : CallT) (vs ts : List V) (ls : Ls) (h : H) : Rs :=
  match getX vs ts x with
    | .t l => bif Nat.blt j (vlen l 0) then .ok (lget l j) ls h else .no
    | _ => .no
def e_fld (x : X) (o : Nat) (g : Bool) (sz : Nat) (_call : CallT) (vs ts : List V) (ls : Ls) (h : H) : Rs :=
  match getX vs ts x with
    | .a cs => Rs.of ls h (rd cs o g sz)
    | _ => .no
def e_idx (x : X) (j : X) (len : Nat) (g : Bool) (sz : Nat) (_call : CallT) (vs ts : List V) (ls : Ls) (h : H) : Rs :=
  match getX vs ts x, inat (getX vs ts j) with
    | .a cs, some n => bif Nat.blt n len then Rs.of ls h (rd cs (n * sz) g sz) else .no
    | _, _ => .no
def e_sidx (x : X) (j : X) (_call : CallT) (vs ts : List V) (ls : Ls) (h : H) : Rs :=
  match getX vs ts x, inat (getX vs ts j) with
    | .s r, some n => match r[n]? with
      | some c => .ok (.i .u8 (.ofNat c)) ls h
      | none => .no
    | _, _ => .no
def e_bld (zero : List V) (ps : List (Nat × Nat × X)) (_call : CallT) (vs ts : List V) (ls : Ls) (h : H) : Rs :=
  match fillAll vs ts zero ps with
    | some cs => .ok (.a cs) ls h
    | none => .no
def e_lenS (x : X) (_call : CallT) (vs ts : List V) (ls : Ls) (h : H) : Rs :=
  match getX vs ts x with
    | .s r => .ok (.i .i64 (.ofNat (slen r 0))) ls h
    | _ => .no
def e_lenL (x : X) (_call : CallT) (vs ts : List V) (ls : Ls) (h : H) : Rs :=
  match getX vs ts x with
    | .sn => .ok (.i .i64 0) ls h
    | .sl _ _ n _ _ => .ok (.i .i64 (.ofNat n)) ls h
    | .lsl _ n => .ok (.i .i64 (.ofNat n)) ls h
    | _ => .no
def e_lenA (n : Nat) (_call : CallT) (_vs _ts : List V) (ls : Ls) (h : H) : Rs :=
  .ok (.i .i64 (.ofNat n)) ls h
def e_lenM (x : X) (_call : CallT) (vs ts : List V) (ls : Ls) (h : H) : Rs :=
  match getX vs ts x with
    | .mn => .ok (.i .i64 0) ls h
    | .m r => match h.get r with
      | some (.map es) => .ok (.i .i64 (.ofNat es.length)) ls h
      | _ => .no
    | _ => .no
def e_capL (x : X) (_call : CallT) (vs ts : List V) (ls : Ls) (h : H) : Rs :=
  match getX vs ts x with
    | .sn => .ok (.i .i64 0) ls h
    | .sl _ _ _ _ (some c) => .ok (.i .i64 (.ofNat c)) ls h
    | _ => .no
def e_mnx (mx : Bool) (xs : List X) (_call : CallT) (vs ts : List V) (ls : Ls) (h : H) : Rs :=
  match getXs vs ts xs with
    | v :: r => Rs.of ls h (minMax mx v r)
    | [] => .no
def e_sub (x : X) (sz' : Nat) (lo : Option X) (hi : Option X) (mx : Option X) (_call : CallT) (vs ts : List V) (ls : Ls) (h : H) : Rs :=
  match getX vs ts x with
    | .sn => match bounds vs ts 0 (fun n => Nat.beq n 0) lo hi with
      | some (_, _) => match mx with
        | none => .ok .sn ls h
        | some y => match inat (getX vs ts y) with
          | some 0 => .ok .sn ls h
          | _ => .no
      | none => .no
    | .sl b o n sz cap =>
      bif !Nat.beq sz sz' then .no else
      match bounds vs ts n (capOk cap n) lo hi with
      | none => .no
      | some (l, e) => match mx with
        | none => .ok (.sl b (o + l * sz) (e - l) sz (match cap with | some c => some (c - l) | none => none)) ls h
        | some y => match inat (getX vs ts y) with
          | some m => bif Nat.ble e m && capOk cap n m then .ok (.sl b (o + l * sz) (e - l) sz (some (m - l))) ls h else .no
          | none => .no
    | _ => .no
def e_ssub (x : X) (lo : Option X) (hi : Option X) (_call : CallT) (vs ts : List V) (ls : Ls) (h : H) : Rs :=
  match getX vs ts x with
    | .s r => match bounds vs ts (slen r 0) (fun k => Nat.ble k (slen r 0)) lo hi with
      | some (l, e) => .ok (.s ((r.drop l).take (e - l))) ls h
      | none => .no
    | _ => .no
def e_asub (x : X) (len : Nat) (sz : Nat) (lo : Option X) (hi : Option X) (_call : CallT) (vs ts : List V) (ls : Ls) (h : H) : Rs :=
  match getX vs ts x with
    | .p b o => match bounds vs ts len (fun k => Nat.ble k len) lo hi, h.get b with
      | some (l, e), some (.cells cs) => bif Nat.ble (o + len * sz) (vlen cs 0) then .ok (.sl b (o + l * sz) (e - l) sz (some (len - l))) ls h else .no
      | _, _ => .no
    | _ => .no
def e_nilc (x : X) (_call : CallT) (vs ts : List V) (ls : Ls) (h : H) : Rs :=
  match getX vs ts x with
    | .p b o => .ok (.p b o) ls h
    | .f a b c => .ok (.f a b c) ls h
    | _ => .no
def e_mkf (f : Nat) (fs : List X) (cs : List X) (_call : CallT) (vs ts : List V) (ls : Ls) (h : H) : Rs :=
  .ok (.f f (getXs vs ts fs) (getXs vs ts cs)) ls h
def e_mki (t : Nat) (x : X) (_call : CallT) (vs ts : List V) (ls : Ls) (h : H) : Rs :=
  .ok (.ic t (getX vs ts x)) ls h
def e_lal (s : Nat) (zero : List V) (_call : CallT) (_vs _ts : List V) (ls : Ls) (h : H) : Rs :=
  .ok undef (setSlot ls s zero) h
def e_lbx (s : Nat) (x : X) (_call : CallT) (vs ts : List V) (ls : Ls) (h : H) : Rs :=
  match (getX vs ts x).cs? with
    | some cs => .ok undef (setSlot ls s cs) h
    | none => .no
def e_lbs (s : Nat) (n : Nat) (sz : Nat) (zero : List V) (ps : List (Nat × Nat × X)) (_call : CallT) (vs ts : List V) (ls : Ls) (h : H) : Rs :=
  match fillAll vs ts (vrep n zero) ps with
    | some cs => bif Nat.beq (vlen cs 0) (n * sz) then .ok (.lsl 0 n) (setSlot ls s cs) h else .no
    | none => .no
def e_lfa (s : Nat) (d : Option Nat) (o : Nat) (_call : CallT) (_vs ts : List V) (ls : Ls) (h : H) : Rs :=
  match place ts d, slot ls s with
    | some p, some _ => .ok (.lp (p + o)) ls h
    | _, _ => .no
def e_lia (s : Nat) (d : Option Nat) (j : X) (len : Nat) (sz : Nat) (_call : CallT) (vs ts : List V) (ls : Ls) (h : H) : Rs :=
  match place ts d, slot ls s, inat (getX vs ts j) with
    | some p, some _, some n => bif Nat.blt n len then .ok (.lp (p + n * sz)) ls h else .no
    | _, _, _ => .no
def e_lld (s : Nat) (d : Option Nat) (g : Bool) (sz : Nat) (_call : CallT) (_vs ts : List V) (ls : Ls) (h : H) : Rs :=
  match place ts d, slot ls s with
    | some p, some cs => Rs.of ls h (rd cs p g sz)
    | _, _ => .no
def e_lst (s : Nat) (d : Option Nat) (x : X) (sz : Nat) (_call : CallT) (vs ts : List V) (ls : Ls) (h : H) : Rs :=
  match place ts d, slot ls s with
    | some p, some cs => match (getX vs ts x).cs? with
      | some new => bif Nat.beq (vlen new 0) sz then (match wrt cs p new with | some cs => .ok undef (setSlot ls s cs) h | none => .no) else .no
      | none => .no
    | _, _ => .no
def e_lsub (s : Nat) (d : Option Nat) (len : Nat) (sz : Nat) (lo : Option X) (hi : Option X) (_call : CallT) (vs ts : List V) (ls : Ls) (h : H) : Rs :=
  match place ts d, slot ls s with
    | some p, some _ => match bounds vs ts len (fun k => Nat.ble k len) lo hi with
      | some (l, e) => .ok (.lsl (p + l * sz) (e - l)) ls h
      | none => .no
    | _, _ => .no
def e_lb2s (s : Nat) (d : Nat) (_call : CallT) (_vs ts : List V) (ls : Ls) (h : H) : Rs :=
  match lget ts d, slot ls s with
    | .lsl o n, some cs => match part cs o n with
      | some r => match bytesOf r with
        | some r => .ok (.s r) ls h
        | none => .no
      | none => .no
    | _, _ => .no
def e_hal (zero : List V) (_call : CallT) (_vs _ts : List V) (ls : Ls) (h : H) : Rs :=
  .ok (.p h.n 0) ls (h.new (.cells zero))
def e_hbx (x : X) (_call : CallT) (vs ts : List V) (ls : Ls) (h : H) : Rs :=
  match (getX vs ts x).cs? with
    | some cs => .ok (.p h.n 0) ls (h.new (.cells cs))
    | none => .no
def e_hbs (n : Nat) (sz : Nat) (zero : List V) (ps : List (Nat × Nat × X)) (_call : CallT) (vs ts : List V) (ls : Ls) (h : H) : Rs :=
  match fillAll vs ts (vrep n zero) ps with
    | some cs => bif Nat.beq (vlen cs 0) (n * sz) then .ok (.sl h.n 0 n sz (some n)) ls (h.new (.cells cs)) else .no
    | none => .no
def e_mks (l : X) (c : X) (sz : Nat) (by_ : Nat) (zero : List V) (_call : CallT) (vs ts : List V) (ls : Ls) (h : H) : Rs :=
  match inat (getX vs ts l), inat (getX vs ts c) with
    | some l, some c => bif Nat.ble l c && Nat.ble (c * by_) 1099511627776 then .ok (.sl h.n 0 l sz (some c)) ls (h.new (.cells (vrep c zero))) else .no
    | _, _ => .no
def e_fa (x : X) (o : Nat) (_call : CallT) (vs ts : List V) (ls : Ls) (h : H) : Rs :=
  match getX vs ts x with
    | .p b p => .ok (.p b (p + o)) ls h
    | _ => .no
def e_ia (x : X) (j : X) (sz : Nat) (_call : CallT) (vs ts : List V) (ls : Ls) (h : H) : Rs :=
  match getX vs ts x, inat (getX vs ts j) with
    | .sl b o n sz' _, some k => bif Nat.blt k n && Nat.beq sz sz' then .ok (.p b (o + k * sz)) ls h else .no
    | _, _ => .no
def e_iaA (x : X) (j : X) (len : Nat) (sz : Nat) (_call : CallT) (vs ts : List V) (ls : Ls) (h : H) : Rs :=
  match getX vs ts x, inat (getX vs ts j) with
    | .p b o, some k => bif Nat.blt k len then .ok (.p b (o + k * sz)) ls h else .no
    | _, _ => .no
def e_ld (x : X) (g : Bool) (sz : Nat) (_call : CallT) (vs ts : List V) (ls : Ls) (h : H) : Rs :=
  match getX vs ts x with
    | .p b o => match h.get b with
      | some (.cells cs) => Rs.of ls h (rd cs o g sz)
      | _ => .no
    | _ => .no
def e_st (x : X) (v : X) (sz : Nat) (_call : CallT) (vs ts : List V) (ls : Ls) (h : H) : Rs :=
  match getX vs ts x with
    | .p b o => match h.get b with
      | some (.cells cs) => match (getX vs ts v).cs? with
        | some new => bif Nat.beq (vlen new 0) sz then (match wrt cs o new with | some cs => .ok undef ls (h.set b (some (.cells cs))) | none => .no) else .no
        | none => .no
      | _ => .no
    | _ => .no
def e_app (x : X) (y : X) (sz : Nat) (by_ : Nat) (_call : CallT) (vs ts : List V) (ls : Ls) (h : H) : Rs :=
  match cellsOf h sz (getX vs ts y) with
    | some new => Rs.ofP ls (append h (getX vs ts x) (lenSl (getX vs ts y)) sz by_ new)
    | none => .no
def e_appS (x : X) (y : X) (by_ : Nat) (_call : CallT) (vs ts : List V) (ls : Ls) (h : H) : Rs :=
  match getX vs ts y with
    | .s r => Rs.ofP ls (append h (getX vs ts x) (slen r 0) 1 by_ (vbytes r))
    | _ => .no
def e_appL (x : X) (s : Nat) (d : Nat) (sz : Nat) (by_ : Nat) (_call : CallT) (vs ts : List V) (ls : Ls) (h : H) : Rs :=
  match lget ts d, slot ls s with
    | .lsl o n, some cs => match part cs o (n * sz) with
      | some new => Rs.ofP ls (append h (getX vs ts x) n sz by_ new)
      | none => .no
    | _, _ => .no
def e_appM (x : X) (n : X) (sz : Nat) (by_ : Nat) (zero : List V) (_call : CallT) (vs ts : List V) (ls : Ls) (h : H) : Rs :=
  match inat (getX vs ts n) with
    | some k => Rs.ofP ls (append h (getX vs ts x) k sz by_ (vrep k zero))
    | none => .no
def e_cpy (x : X) (y : X) (sz : Nat) (_call : CallT) (vs ts : List V) (ls : Ls) (h : H) : Rs :=
  match cellsOf h sz (getX vs ts y), getX vs ts x with
    | some src, .sl b o n sz' _ => bif !Nat.beq sz sz' then .no else
      let m := bif Nat.ble (lenSl (getX vs ts y)) n then lenSl (getX vs ts y) else n
      match h.get b with
      | some (.cells cs) => match wrt cs o (vtake (m * sz) src) with
        | some cs => .ok (.i .i64 (.ofNat m)) ls (h.set b (some (.cells cs)))
        | none => .no
      | _ => .no
    | some _, .sn => .ok (.i .i64 0) ls h
    | _, _ => .no
def e_cpyS (x : X) (y : X) (_call : CallT) (vs ts : List V) (ls : Ls) (h : H) : Rs :=
  match getX vs ts y, getX vs ts x with
    | .s r, .sl b o n sz' _ => bif !Nat.beq sz' 1 then .no else
      let m := bif Nat.ble (slen r 0) n then slen r 0 else n
      match h.get b with
      | some (.cells cs) => match wrt cs o (vbytes (r.take m)) with
        | some cs => .ok (.i .i64 (.ofNat m)) ls (h.set b (some (.cells cs)))
        | none => .no
      | _ => .no
    | .s _, .sn => .ok (.i .i64 0) ls h
    | _, _ => .no
def e_clr (x : X) (sz : Nat) (zero : List V) (_call : CallT) (vs ts : List V) (ls : Ls) (h : H) : Rs :=
  match getX vs ts x with
    | .sn => .ok undef ls h
    | .sl b o n sz' _ => bif !Nat.beq sz sz' then .no else match h.get b with
      | some (.cells cs) => match wrt cs o (vrep n zero) with
        | some cs => .ok undef ls (h.set b (some (.cells cs)))
        | none => .no
      | _ => .no
    | _ => .no
def e_mkm  (_call : CallT) (_vs _ts : List V) (ls : Ls) (h : H) : Rs :=
  .ok (.m h.n) ls (h.new (.map []))
def e_look (q : Q) (x : X) (k : X) (ok : Bool) (zero : V) (_call : CallT) (vs ts : List V) (ls : Ls) (h : H) : Rs :=
  bif !isKey q (getX vs ts k) then .no else
    match getX vs ts x with
    | .mn => .ok (bif ok then .t [zero, .b false] else zero) ls h
    | .m r => match h.get r with
      | some (.map es) => match mfind q (getX vs ts k) es with
        | some none => .ok (bif ok then .t [zero, .b false] else zero) ls h
        | some (some v) => .ok (bif ok then .t [v, .b true] else v) ls h
        | none => .no
      | _ => .no
    | _ => .no
def e_mup (q : Q) (x : X) (k : X) (v : X) (_call : CallT) (vs ts : List V) (ls : Ls) (h : H) : Rs :=
  bif !isKey q (getX vs ts k) then .no else match getX vs ts x with
    | .m r => match h.get r with
      | some (.map es) => match mfind q (getX vs ts k) es with
        | some _ => .ok undef ls (h.set r (some (.map (mput q (getX vs ts k) (getX vs ts v) es))))
        | none => .no
      | _ => .no
    | _ => .no
def e_mdel (q : Q) (x : X) (k : X) (_call : CallT) (vs ts : List V) (ls : Ls) (h : H) : Rs :=
  bif !isKey q (getX vs ts k) then .no else match getX vs ts x with
    | .mn => .ok undef ls h
    | .m r => match h.get r with
      | some (.map es) => match mfind q (getX vs ts k) es with
        | some _ => .ok undef ls (h.set r (some (.map (mdrop q (getX vs ts k) es))))
        | none => .no
      | _ => .no
    | _ => .no
def e_mclr (x : X) (_call : CallT) (vs ts : List V) (ls : Ls) (h : H) : Rs :=
  match getX vs ts x with
    | .mn => .ok undef ls h
    | .m r => match h.get r with
      | some (.map _) => .ok undef ls (h.set r (some (.map [])))
      | _ => .no
    | _ => .no
def e_usd (_u0 : X) (_call : CallT) (_vs _ts : List V) (_ls : Ls) (_h : H) : Rs :=
  .no
def e_uss (_u0 : X) (_u1 : X) (_call : CallT) (_vs _ts : List V) (_ls : Ls) (_h : H) : Rs :=
  .no
def e_call (f : Nat) (as : List X) (call : CallT) (vs ts : List V) (ls : Ls) (h : H) : Rs :=
  Rs.ofP ls (call f (getXs vs ts as) h)
def e_callv (f : X) (as : List X) (call : CallT) (vs ts : List V) (ls : Ls) (h : H) : Rs :=
  match getX vs ts f with
    | .f n fs cs => Rs.ofP ls (call n (vapp fs (vapp (getXs vs ts as) cs)) h)
    | _ => .no
def e_no  (_call : CallT) (_vs _ts : List V) (_ls : Ls) (_h : H) : Rs :=
  .no
def evO (call : CallT) (vs ts : List V) (ls : Ls) (h : H) : O → Rs
  | .mv x0 => e_mv x0 call vs ts ls h
  | .pick x0 x1 x2 => e_pick x0 x1 x2 call vs ts ls h
  | .un x0 x1 => e_un x0 x1 call vs ts ls h
  | .bin x0 x1 x2 => e_bin x0 x1 x2 call vs ts ls h
  | .eqv x0 x1 x2 x3 => e_eqv x0 x1 x2 x3 call vs ts ls h
  | .cvI x0 x1 => e_cvI x0 x1 call vs ts ls h
  | .same x0 => e_same x0 call vs ts ls h
  | .b2s x0 => e_b2s x0 call vs ts ls h
  | .s2b x0 => e_s2b x0 call vs ts ls h
  | .i2s x0 => e_i2s x0 call vs ts ls h
  | .ext x0 x1 => e_ext x0 x1 call vs ts ls h
  | .fld x0 x1 x2 x3 => e_fld x0 x1 x2 x3 call vs ts ls h
  | .idx x0 x1 x2 x3 x4 => e_idx x0 x1 x2 x3 x4 call vs ts ls h
  | .sidx x0 x1 => e_sidx x0 x1 call vs ts ls h
  | .bld x0 x1 => e_bld x0 x1 call vs ts ls h
  | .lenS x0 => e_lenS x0 call vs ts ls h
  | .lenL x0 => e_lenL x0 call vs ts ls h
  | .lenA x0 => e_lenA x0 call vs ts ls h
  | .lenM x0 => e_lenM x0 call vs ts ls h
  | .capL x0 => e_capL x0 call vs ts ls h
  | .mnx x0 x1 => e_mnx x0 x1 call vs ts ls h
  | .sub x0 x1 x2 x3 x4 => e_sub x0 x1 x2 x3 x4 call vs ts ls h
  | .ssub x0 x1 x2 => e_ssub x0 x1 x2 call vs ts ls h
  | .asub x0 x1 x2 x3 x4 => e_asub x0 x1 x2 x3 x4 call vs ts ls h
  | .nilc x0 => e_nilc x0 call vs ts ls h
  | .mkf x0 x1 x2 => e_mkf x0 x1 x2 call vs ts ls h
  | .mki x0 x1 => e_mki x0 x1 call vs ts ls h
  | .lal x0 x1 => e_lal x0 x1 call vs ts ls h
  | .lbx x0 x1 => e_lbx x0 x1 call vs ts ls h
  | .lbs x0 x1 x2 x3 x4 => e_lbs x0 x1 x2 x3 x4 call vs ts ls h
  | .lfa x0 x1 x2 => e_lfa x0 x1 x2 call vs ts ls h
  | .lia x0 x1 x2 x3 x4 => e_lia x0 x1 x2 x3 x4 call vs ts ls h
  | .lld x0 x1 x2 x3 => e_lld x0 x1 x2 x3 call vs ts ls h
  | .lst x0 x1 x2 x3 => e_lst x0 x1 x2 x3 call vs ts ls h
  | .lsub x0 x1 x2 x3 x4 x5 => e_lsub x0 x1 x2 x3 x4 x5 call vs ts ls h
  | .lb2s x0 x1 => e_lb2s x0 x1 call vs ts ls h
  | .hal x0 => e_hal x0 call vs ts ls h
  | .hbx x0 => e_hbx x0 call vs ts ls h
  | .hbs x0 x1 x2 x3 => e_hbs x0 x1 x2 x3 call vs ts ls h
  | .mks x0 x1 x2 x3 x4 => e_mks x0 x1 x2 x3 x4 call vs ts ls h
  | .fa x0 x1 => e_fa x0 x1 call vs ts ls h
  | .ia x0 x1 x2 => e_ia x0 x1 x2 call vs ts ls h
  | .iaA x0 x1 x2 x3 => e_iaA x0 x1 x2 x3 call vs ts ls h
  | .ld x0 x1 x2 => e_ld x0 x1 x2 call vs ts ls h
  | .st x0 x1 x2 => e_st x0 x1 x2 call vs ts ls h
  | .app x0 x1 x2 x3 => e_app x0 x1 x2 x3 call vs ts ls h
  | .appS x0 x1 x2 => e_appS x0 x1 x2 call vs ts ls h
  | .appL x0 x1 x2 x3 x4 => e_appL x0 x1 x2 x3 x4 call vs ts ls h
  | .appM x0 x1 x2 x3 x4 => e_appM x0 x1 x2 x3 x4 call vs ts ls h
  | .cpy x0 x1 x2 => e_cpy x0 x1 x2 call vs ts ls h
  | .cpyS x0 x1 => e_cpyS x0 x1 call vs ts ls h
  | .clr x0 x1 x2 => e_clr x0 x1 x2 call vs ts ls h
  | .mkm => e_mkm  call vs ts ls h
  | .look x0 x1 x2 x3 x4 => e_look x0 x1 x2 x3 x4 call vs ts ls h
  | .mup x0 x1 x2 x3 => e_mup x0 x1 x2 x3 call vs ts ls h
  | .mdel x0 x1 x2 => e_mdel x0 x1 x2 call vs ts ls h
  | .mclr x0 => e_mclr x0 call vs ts ls h
  | .usd x0 => e_usd x0 call vs ts ls h
  | .uss x0 x1 => e_uss x0 x1 call vs ts ls h
  | .call x0 x1 => e_call x0 x1 call vs ts ls h
  | .callv x0 x1 => e_callv x0 x1 call vs ts ls h
  | .no => e_no  call vs ts ls h

inductive Ex where | n | x (id : Nat) | r
inductive CR where
  | no
  | ok (e : Ex) (vs ts : List V) (ls : Ls) (h : H)

def wantedG (ts : List V) : Option (Nat × Bool) → Bool
  | none => true
  | some (d, w) => match lget ts d with
    | .b x => match x, w with | true, true => true | false, false => true | _, _ => false
    | _ => false
def setD (vs : List V) : Option Nat → V → List V
  | none, _ => vs
  | some j, v => lset vs j v

def evOps (call : CallT) : List RO → List V → List V → Ls → H → CR
  | [], vs, ts, ls, h => .ok .n vs ts ls h
  | o :: r, vs, ts, ls, h =>
    bif wantedG ts o.g then
      match evO call vs ts ls h o.o with
      | .ok v ls h => evOps call r (setD vs o.d v) (v :: ts) ls h
      | .no => .no
    else evOps call r (setD vs o.d undef) (undef :: ts) ls h

/-- the way through a region -/
structure St where
  vs : List V
  ts : List V
  ls : Ls
  h : H
  v : V
inductive TR where
  | no
  | ok (tr : List St) (vs ts : List V) (ls : Ls) (h : H)
def TR.cons (s : St) : TR → TR
  | .no => .no
  | .ok tr vs ts ls h => .ok (s :: tr) vs ts ls h
def evTr (call : CallT) : List RO → List V → List V → Ls → H → TR
  | [], vs, ts, ls, h => .ok [] vs ts ls h
  | o :: r, vs, ts, ls, h =>
    bif wantedG ts o.g then
      match evO call vs ts ls h o.o with
      | .ok v ls' h' => TR.cons ⟨vs, ts, ls, h, v⟩ (evTr call r (setD vs o.d v) (v :: ts) ls' h')
      | .no => .no
    else TR.cons ⟨vs, ts, ls, h, undef⟩ (evTr call r (setD vs o.d undef) (undef :: ts) ls h)
def heapAt : List St → H → Nat → H
  | [], h, _ => h
  | s :: _, _, 0 => s.h
  | _ :: r, h, n + 1 => heapAt r h n
def stAt : List St → Nat → Option St
  | [], _ => none
  | s :: _, 0 => some s
  | _ :: r, n + 1 => stAt r n
def roAt : List RO → Nat → Option RO
  | [], _ => none
  | s :: _, 0 => some s
  | _ :: r, n + 1 => roAt r n
mutual
def veq : V → V → Bool
  | .b x, .b y => beqB x y
  | .i k x, .i k' y => keq k k' && ieq x y
  | .s x, .s y => seq x y
  | .pn, .pn => true
  | .p b o, .p b' o' => Nat.beq b b' && Nat.beq o o'
  | .sn, .sn => true
  | .sl b o n sz none, .sl b' o' n' sz' none => Nat.beq b b' && (Nat.beq o o' && (Nat.beq n n' && Nat.beq sz sz'))
  | .sl b o n sz (some c), .sl b' o' n' sz' (some c') => Nat.beq b b' && (Nat.beq o o' && (Nat.beq n n' && (Nat.beq sz sz' && Nat.beq c c')))
  | .mn, .mn => true
  | .m r, .m r' => Nat.beq r r'
  | .nf, .nf => true
  | .ic t x, .ic t' y => Nat.beq t t' && veq x y
  | .ni, .ni => true
  | .a x, .a y => veqs x y
  | .t x, .t y => veqs x y
  | _, _ => false
def veqs : List V → List V → Bool
  | [], [] => true
  | a :: x, b :: y => veq a b && veqs x y
  | _, _ => false
end
/-- what is read while the heap may be another one reads the same from it -/
def floats (call : CallT) (ops : List RO) (tr : List St) (h : H) : List (Nat × Option Nat) → Bool
  | [] => true
  | (r, x) :: fl =>
    (match stAt tr r, roAt ops r with
    | some s, some o => bif wantedG s.ts o.g then
        (match evO call s.vs s.ts s.ls (heapAt tr h (match x with | none => 0 | some k => k + 1)) o.o with
        | .ok v _ _ => veq v s.v
        | .no => false) else true
    | _, _ => false) && floats call ops tr h fl

def iter (f : List V → Ls → H → CR) : Nat → List V → Ls → H → CR
  | 0, _, _, _ => .no
  | n + 1, vs, ls, h => match f vs ls h with
    | .ok .n vs _ ls h => iter f n vs ls h
    | r => r

def evK (call : CallT) (N : Nat) : K → List V → List V → Ls → H → CR
  | .skip, vs, ts, ls, h => .ok .n vs ts ls h
  | .bad, _, _, _, _ => .no
  | .reg ops, vs, _, ls, h => evOps call ops vs [] ls h
  | .dreg ops fl, vs, _, ls, h => match fl with
    | [] => evOps call ops vs [] ls h
    | _ :: _ => match evTr call ops vs [] ls h with
      | .ok tr vs ts ls h => bif floats call ops tr h fl then .ok .n vs ts ls h else .no
      | .no => .no
  | .seq a b, vs, ts, ls, h => match evK call N a vs ts ls h with
    | .ok .n vs ts ls h => evK call N b vs ts ls h
    | r => r
  | .cond x a b, vs, ts, ls, h => match getX vs ts x with
    | .b t => bif t then evK call N a vs ts ls h else evK call N b vs ts ls h
    | _ => .no
  | .block id b, vs, ts, ls, h => match evK call N b vs ts ls h with
    | .ok (.x i) vs ts ls h => bif Nat.beq i id then .ok .n vs ts ls h else .ok (.x i) vs ts ls h
    | r => r
  | .loop b, vs, _, ls, h => iter (fun vs ls h => evK call N b vs [] ls h) N vs ls h
  | .exit id, vs, ts, ls, h => .ok (.x id) vs ts ls h
  | .ret, vs, ts, ls, h => .ok .r vs ts ls h

def evRes (vs : List V) (ls : Ls) : List RV → Option (List V)
  | [] => some []
  | .v j :: r => match evRes vs ls r with
    | some l => some (lget vs j :: l)
    | none => none
  | .l s g sz :: r => match slot ls s with
    | some cs => match rd cs 0 g sz, evRes vs ls r with
      | some v, some l => some (v :: l)
      | _, _ => none
    | none => none
def rep {α : Type} : Nat → α → List α
  | 0, _ => []
  | n + 1, x => x :: rep n x
def fin (c : CF) (vs : List V) (ls : Ls) (h : H) : Option (V × H) :=
  match evRes vs ls c.res with
  | some [v] => some (v, h)
  | some l => some (.t l, h)
  | none => none
def run (N : Nat) (call : CallT) (c : CF) (args : List V) (h : H) : Option (V × H) :=
  bif !Nat.beq (vlen args 0) c.np then none else match evK call N c.body (vapp args (rep (c.nv - c.np) undef)) [] (rep c.nl none) h with
  | .ok .n vs _ ls h => fin c vs ls h
  | .ok .r vs _ ls h => fin c vs ls h
  | _ => none
def evF (N : Nat) (sm : Nat → Option (List V → H → Option (V × H))) (tab : Nat → Option CF) : Nat → CallT
  | 0, _, _, _ => none
  | d + 1, f, args, h => match sm f with
    | some g => g args h
    | none => match tab f with
      | some c => run N (evF N sm tab d) c args h
      | none => none
end Am
namespace Am
open Go
inductive Kd where | v (j : Nat) | l (s : Nat) | b (s : Nat) | t
  deriving Repr, Inhabited, BEq

/-- the table of types; those structs that the model stands in for are none of these -/
structure TT where
  ty : Nat → Option TypeInfo
  sh : Nat → Bool
def tUnd (T : TT) (t : Nat) : Option TypeDesc :=
  match T.ty t with
  | some i => match i.desc with
    | .named _ u => match T.ty u with | some j => some j.desc | none => none
    | d => some d
  | none => none
def oneV : Value → Bool
  | .agg _ => false
  | .tuple _ => false
  | _ => true
mutual
def ofVal : Value → Option V
  | .bool b => some (.b b)
  | .int k n => some (.i k n)
  | .string s => some (.s (s.data.toList.map UInt8.toNat))
  | .pointer none => some .pn
  | .slice none 0 0 => some .sn
  | .map none => some .mn
  | .nilFunc => some .nf
  | .nilIface => some .ni
  | .agg ⟨cs⟩ => match ofCells cs with | some l => some (.a l) | none => none
  | .tuple ⟨cs⟩ => match ofVals cs with | some l => some (.t l) | none => none
  | _ => none
def ofCells : List Value → Option (List V)
  | [] => some []
  | v :: r => bif oneV v then (match ofVal v, ofCells r with
    | some x, some l => some (x :: l)
    | _, _ => none) else none
def ofVals : List Value → Option (List V)
  | [] => some []
  | v :: r => match ofVal v, ofVals r with
    | some x, some l => some (x :: l)
    | _, _ => none
end
structure TI where
  sz : Nat
  by_ : Nat
  zero : V
  zc : List V
  g : Bool
def isG : Option TypeDesc → Bool
  | some (.struct _) => true
  | some (.array _ _) => true
  | _ => false
def tInfo (T : TT) (t : Nat) : Option TI :=
  match T.ty t with
  | some i => match i.zero with
    | some z => match ofVal z with
      | some z => match tUnd T t with
        | some d => match z.cs? with
          | some zc => bif Nat.blt 0 i.size && Nat.blt 0 i.bytes && Nat.beq (vlen zc 0) i.size then some ⟨i.size, i.bytes, z, zc, isG (some d)⟩ else none
          | none => none
        | none => none
      | none => none
    | none => none
  | none => none
def findD (t : Nat) : List (Option Nat) → Nat → Option Nat
  | [], _ => none
  | some u :: r, n => bif Nat.beq u t then some n else findD t r (n + 1)
  | none :: r, n => findD t r (n + 1)
/-- what a temporary of the region is rooted in: a slot, and whether it is a slice of it -/
abbrev Rt := Option (Nat × Bool)
structure Ctx where
  ds : List (Option Nat)
  rt : List Rt
def rtAt : List Rt → Nat → Rt
  | [], _ => none
  | r :: _, 0 => r
  | _ :: l, n + 1 => rtAt l n
def opd (kd : List Kd) (c : Ctx) : Operand → Option X
  | .tmp t => match kd[t]? with
    | some (.v j) => some (.v j)
    | some .t | some (.b _) => match findD t c.ds 0 with
      | some d => match rtAt c.rt d with
        | none => some (.t d)
        | some _ => none
      | none => none
    | _ => none
  | .const v => match ofVal v with | some x => some (.c x) | none => none
  | .func f => some (.c (.f f [] []))
  | .global _ => none
def opds (kd : List Kd) (c : Ctx) : List Operand → Option (List X)
  | [] => some []
  | o :: r => match opd kd c o, opds kd c r with
    | some x, some l => some (x :: l)
    | _, _ => none
def opdO (kd : List Kd) (c : Ctx) : Option Operand → Option (Option X)
  | none => some none
  | some o => match opd kd c o with | some x => some (some x) | none => none
/-- a place in a local box, or a slice of one -/
def lpl (sl : Bool) (kd : List Kd) (c : Ctx) : Operand → Option (Nat × Option Nat)
  | .tmp t => match kd[t]? with
    | some (.l s) => bif sl then none else some (s, none)
    | some .t | some (.b _) => match findD t c.ds 0 with
      | some d => match rtAt c.rt d with
        | some (s, sl') => bif Bool.xor sl sl' then none else some (s, some d)
        | none => none
      | none => none
    | _ => none
  | _ => none
def fieldOf (T : TT) (t f : Nat) : Option (Nat × TI) :=
  match tUnd T t with
  | some (.struct fs) => match fs[f]? with
    | some fl => match tInfo T fl.type with
      | some i => some (fl.offset, i)
      | none => none
    | none => none
  | _ => none
def sliceOf (T : TT) (t : Nat) : Option TI :=
  match tUnd T t with
  | some (.slice e) => tInfo T e
  | _ => none
def partsA (kd : List Kd) (c : Ctx) (sz : Nat) : List (Nat × Operand) → Option (List (Nat × Nat × X))
  | [] => some []
  | (i, o) :: r => match opd kd c o, partsA kd c sz r with
    | some x, some l => some ((i * sz, sz, x) :: l)
    | _, _ => none
def allTy (T : TT) : List Field → Bool
  | [] => true
  | f :: r => match T.ty f.type with
    | some _ => allTy T r
    | none => false
def partsS (T : TT) (t : Nat) (kd : List Kd) (c : Ctx) : List (Nat × Operand) → Option (List (Nat × Nat × X))
  | [] => some []
  | (i, o) :: r => match opd kd c o, fieldOf T t i, partsS T t kd c r with
    | some x, some (off, ti), some l => some ((off, ti.sz, x) :: l)
    | _, _, _ => none
/-- is a type flat: numbers, bools, strings alone, in structs and arrays without blank fields? Its cells -/
def flatFs (fl : Nat → Option (List Ck)) (T : TT) : List Field → Nat → Option (List Ck)
  | [], _ => some []
  | f :: r, o => match fl f.type, tInfo T f.type with
    | some l, some ti => bif (f.name != "_") && Nat.beq f.offset o && Nat.beq ti.sz l.length then (match flatFs fl T r (o + l.length) with
      | some r => some (l ++ r)
      | none => none) else none
    | _, _ => none
def flat (T : TT) : Nat → Nat → Option (List Ck)
  | 0, _ => none
  | d + 1, t => match tUnd T t with
    | some .bool => some [.b]
    | some (.int _) => some [.i]
    | some .string => some [.s]
    | some (.struct fs) => bif T.sh t then flatFs (flat T d) T fs.toList 0 else none
    | some (.array n e) => match flat T d e, tInfo T e with
      | some l, some ti => bif Nat.beq ti.sz l.length then some (List.replicate n l).flatten else none
      | _, _ => none
    | _ => none
def isC : Operand → Bool
  | .const _ => true
  | _ => false
def slotOf (kd : List Kd) : Option Nat → Option (Nat × Bool)
  | some t => match kd[t]? with
    | some (.l s) => some (s, false)
    | some (.b s) => some (s, true)
    | _ => none
  | none => none
/-- may a slot be laid anew: does no temporary of the region lie in it? -/
def freeS (s : Nat) : List Rt → Bool
  | [] => true
  | some (s', _) :: r => !Nat.beq s s' && freeS s r
  | none :: r => freeS s r
def u8 (T : TT) (e : Nat) : Bool := match tUnd T e with | some (.int .u8) => true | _ => false
def o? {α : Type} (x : Option α) (f : α → O × Rt) : O × Rt := match x with | some a => f a | none => (.no, none)
def convO (T : TT) (src dst : Nat) (kd : List Kd) (c : Ctx) (x : Operand) : O :=
  match tUnd T src, tUnd T dst with
  | some (.slice e), some .string => bif u8 T e then (match lpl true kd c x with
      | some (s, some d) => .lb2s s d
      | _ => match opd kd c x with | some x => .b2s x | none => .no) else .no
  | some _, some (.int k) => match opd kd c x with | some x => .cvI k x | none => .no
  | some (.int _), some .string => match opd kd c x with | some x => .i2s x | none => .no
  | some .string, some .string => match opd kd c x with | some x => .same x | none => .no
  | some .string, some (.slice e) => bif u8 T e then (match opd kd c x with | some x => .s2b x | none => .no) else .no
  | _, _ => .no
/-- a map's key's kind -/
def keyQ (T : TT) (t : Nat) : Option Q :=
  match tUnd T t with
  | some .bool => some .bo
  | some (.int _) => some .nu
  | some .string => some .st
  | some (.struct _) => (flat T 20 t).map .ag
  | some (.array _ _) => (flat T 20 t).map .ag
  | _ => none
def callO (T : TT) (kd : List Kd) (cx : Ctx) (cl : Call) : O :=
  match cl.callee with
  | .value (.func f) => match opds kd cx cl.args.toList with | some l => .call f l | none => .no
  | .value f => match opd kd cx f, opds kd cx cl.args.toList with | some x, some l => .callv x l | _, _ => .no
  | .invoke .. => .no
  | .builtin b =>
    match b, cl.args.toList, cl.argTypes.toList with
    | .len, [x], [t] => match tUnd T t with
      | some .string => match opd kd cx x with | some x => .lenS x | none => .no
      | some (.slice _) => match opd kd cx x with | some x => .lenL x | none => .no
      | some (.map _ _) => match opd kd cx x with | some x => .lenM x | none => .no
      | some (.array n _) => .lenA n
      | some (.pointer a) => match tUnd T a with | some (.array n _) => .lenA n | _ => .no
      | _ => .no
    | .cap, [x], [t] => match tUnd T t with
      | some (.slice _) => match opd kd cx x with | some x => .capL x | none => .no
      | some (.array n _) => .lenA n
      | _ => .no
    | .append, [x, y], [t, u] => match tUnd T t with
      | some (.slice e) => match tInfo T e, opd kd cx x with
        | some ti, some x => match tUnd T u with
          | some (.slice _) => match lpl true kd cx y with
            | some (s, some d) => .appL x s d ti.sz ti.by_
            | _ => match opd kd cx y with | some y => .app x y ti.sz ti.by_ | none => .no
          | some .string => match opd kd cx y with | some y => bif Nat.beq ti.sz 1 then .appS x y ti.by_ else .no | none => .no
          | _ => .no
        | _, _ => .no
      | _ => .no
    | .copy, [x, y], [t, u] => match tUnd T t with
      | some (.slice e) => match tInfo T e, opd kd cx x, opd kd cx y with
        | some ti, some x, some y => match tUnd T u with
          | some (.slice _) => .cpy x y ti.sz
          | some .string => .cpyS x y
          | _ => .no
        | _, _, _ => .no
      | _ => .no
    | .clear, [x], [t] => match tUnd T t with
      | some (.slice e) => match tInfo T e, opd kd cx x with
        | some ti, some x => .clr x ti.sz ti.zc
        | _, _ => .no
      | some (.map _ _) => match opd kd cx x with | some x => .mclr x | none => .no
      | _ => .no
    | .delete, [x, k], [t, _] => match tUnd T t with
      | some (.map kt _) => match keyQ T kt, opd kd cx x, opd kd cx k with | some q, some x, some k => .mdel q x k | _, _, _ => .no
      | _ => .no
    | .max, l, _ => match opds kd cx l with | some l => .mnx true l | none => .no
    | .min, l, _ => match opds kd cx l with | some l => .mnx false l | none => .no
    | _, _, _ => .no
def eqQ (T : TT) (t : Nat) (x y : Operand) : Option Q :=
  match tUnd T t with
  | some .bool => some .bo
  | some (.struct _) => (flat T 20 t).map .ag
  | some (.array _ _) => (flat T 20 t).map .ag
  | some (.pointer _) => some .pt
  | some (.slice _) => some .sl
  | some (.map _ _) => some .mp
  | some (.func ..) => some .fn
  | some (.interface _) => bif isC x || isC y then some .ic else none
  | _ => none
def isEq : BinOp → Bool
  | .eql => true
  | .neq => true
  | _ => false
def isNeq : BinOp → Bool
  | .neq => true
  | _ => false
def eqO (op : BinOp) (q : Option Q) (a b : X) : O :=
  match isEq op, q with
  | true, some q => .eqv (isNeq op) q a b
  | _, _ => .no
def compO (T : TT) (kd : List Kd) (c : Ctx) (o : Oper) : O × Rt :=
  match o.op with
  | .move x | .assign x => o? (opd kd c x) fun x => (.mv x, none)
  | .pick a x y => match opd kd c a, opd kd c x, opd kd c y with
    | some a, some x, some y => (.pick a x y, none)
    | _, _, _ => (.no, none)
  | .alloc t => o? (tInfo T t) fun ti => match slotOf kd o.dst with
    | some (s, false) => bif freeS s c.rt then (.lal s ti.zc, none) else (.no, none)
    | _ => (.hal ti.zc, none)
  | .box t x => match tInfo T t, opd kd c x with
    | some _, some x => match slotOf kd o.dst with
      | some (s, false) => bif freeS s c.rt then (.lbx s x, none) else (.no, none)
      | _ => (.hbx x, none)
    | _, _ => (.no, none)
  | .build t ps => o? (tInfo T t) fun ti => match tUnd T t with
    | some (.struct fs) => match partsS T t kd c ps.toList, allTy T fs.toList with
      | some l, true => (.bld ti.zc l, none)
      | _, _ => (.no, none)
    | some (.array _n e) => match tInfo T e with
      | some te => match partsA kd c te.sz ps.toList with
        | some l => (.bld ti.zc l, none)
        | none => (.no, none)
      | none => (.no, none)
    | _ => (.no, none)
  | .buildSlice t n ps => match sliceOf T t with
    | some te => match partsA kd c te.sz ps.toList with
      | some l => bif !Nat.ble (n * te.sz) 16777216 then (.no, none) else match slotOf kd o.dst with
        | some (s, true) => bif freeS s c.rt then (.lbs s n te.sz te.zc l, some (s, true)) else (.no, none)
        | _ => (.hbs n te.sz te.zc l, none)
      | none => (.no, none)
    | none => (.no, none)
  | .load t a => o? (tInfo T t) fun ti => match lpl false kd c a with
    | some (s, d) => (.lld s d ti.g ti.sz, none)
    | none => o? (opd kd c a) fun x => (.ld x ti.g ti.sz, none)
  | .store t a v => match tInfo T t, opd kd c v with
    | some ti, some v => match lpl false kd c a with
      | some (s, d) => (.lst s d v ti.sz, none)
      | none => o? (opd kd c a) fun x => (.st x v ti.sz, none)
    | _, _ => (.no, none)
  | .nilCheck x => o? (opd kd c x) fun x => (.nilc x, none)
  | .binOp op t x y _ => match opd kd c x, opd kd c y with
    | some a, some b => match tUnd T t with
      | some (.int _) => (.bin op a b, none)
      | some .string => (.bin op a b, none)
      | some _ => (eqO op (eqQ T t x y) a b, none)
      | none => (.no, none)
    | _, _ => (.no, none)
  | .unOp op _ x => o? (opd kd c x) fun x => (.un op x, none)
  | .convert src dst x => (convO T src dst kd c x, none)
  | .makeInterface t x => match tUnd T t with
    | some (.interface _) => (.no, none)
    | some _ => o? (opd kd c x) fun x => (.mki t x, none)
    | none => (.no, none)
  | .makeFunc (.func f) first captured => match opds kd c first.toList, opds kd c captured.toList with
    | some a, some b => (.mkf f a b, none)
    | _, _ => (.no, none)
  | .makeMap t r => match tUnd T t with
    | some (.map _ _) => match r with
      | none => (.mkm, none)
      | some (.const (.int _ _)) => (.mkm, none)
      | _ => (.no, none)
    | _ => (.no, none)
  | .makeSlice t l k => match sliceOf T t, opd kd c l, opd kd c k with
    | some te, some l, some k => (.mks l k te.sz te.by_ te.zc, none)
    | _, _, _ => (.no, none)
  | .slice t x lo hi mx => bif mx.isSome && hi.isNone then (.no, none) else match opdO kd c lo, opdO kd c hi, opdO kd c mx with
    | some lo, some hi, some mx => match tUnd T t with
      | some .string => match mx with
        | none => o? (opd kd c x) fun x => (.ssub x lo hi, none)
        | some _ => (.no, none)
      | some (.slice e) => match tInfo T e, opd kd c x with
        | some te, some x => (.sub x te.sz lo hi mx, none)
        | _, _ => (.no, none)
      | some (.array n e) => match tInfo T e, mx with
        | some te, none => match lpl false kd c x with
          | some (s, d) => (.lsub s d n te.sz lo hi, some (s, true))
          | none => o? (opd kd c x) fun x => (.asub x n te.sz lo hi, none)
        | _, _ => (.no, none)
      | some (.pointer a) => match tUnd T a, mx with
        | some (.array n e), none => match tInfo T e, opd kd c x with
          | some te, some x => (.asub x n te.sz lo hi, none)
          | _, _ => (.no, none)
        | _, _ => (.no, none)
      | _ => (.no, none)
    | _, _, _ => (.no, none)
  | .fieldAddr t x f => o? (fieldOf T t f) fun (off, _) => match lpl false kd c x with
    | some (s, d) => (.lfa s d off, some (s, false))
    | none => o? (opd kd c x) fun x => (.fa x off, none)
  | .field t x f => match fieldOf T t f, opd kd c x with
    | some (off, ti), some x => (.fld x off ti.g ti.sz, none)
    | _, _ => (.no, none)
  | .indexAddr t x i => match tUnd T t, opd kd c i with
    | some (.array n e), some i => o? (tInfo T e) fun te => match lpl false kd c x with
      | some (s, d) => (.lia s d i n te.sz, some (s, false))
      | none => o? (opd kd c x) fun x => (.iaA x i n te.sz, none)
    | some (.slice e), some i => match tInfo T e, opd kd c x with
      | some te, some x => (.ia x i te.sz, none)
      | _, _ => (.no, none)
    | _, _ => (.no, none)
  | .index t x i => match opd kd c x, opd kd c i with
    | some x, some i => match tUnd T t with
      | some .string => (.sidx x i, none)
      | some (.array n e) => o? (tInfo T e) fun te => (.idx x i n te.g te.sz, none)
      | _ => (.no, none)
    | _, _ => (.no, none)
  | .lookup t x k ok => match tUnd T t with
    | some (.map kt e) => match keyQ T kt, tInfo T e, opd kd c x, opd kd c k with
      | some q, some te, some x, some k => (.look q x k ok te.zero, none)
      | _, _, _, _ => (.no, none)
    | _ => (.no, none)
  | .mapUpdate t x k v => match tUnd T t with
    | some (.map kt _) => match keyQ T kt, opd kd c x, opd kd c k, opd kd c v with
      | some q, some x, some k, some v => (.mup q x k v, none)
      | _, _, _, _ => (.no, none)
    | _ => (.no, none)
  | .extract x i => o? (opd kd c x) fun x => (.ext x i, none)
  | .call cl => (callO T kd c cl, none)
  | _ => (.no, none)
/-- the guard: the operation that it looks at lies so far back -/
def dsAt : List (Option Nat) → Nat → Option Nat
  | [], _ => none
  | x :: _, 0 => x
  | _ :: l, n + 1 => dsAt l n
def grd (n : Nat) (c : Ctx) : Option (Nat × Bool) → Option (Option (Nat × Bool))
  | none => some none
  | some (j, w) => bif Nat.blt j n then (match dsAt c.ds (n - 1 - j) with
    | some t => match findD t c.ds 0, rtAt c.rt (n - 1 - j) with
      | some d, none => bif Nat.beq d (n - 1 - j) then some (some (n - 1 - j, w)) else none
      | _, _ => none
    | none => none) else none
def dstV (kd : List Kd) : Option Nat → Option (Option Nat)
  | none => some none
  | some t => match kd[t]? with
    | some (.v j) => some (some j)
    | some _ => some none
    | none => none
def dstT (kd : List Kd) : Option Nat → Option Nat
  | none => none
  | some t => match kd[t]? with
    | some .t => some t
    | some (.b _) => some t
    | _ => none
/-- an operation whose result goes to a local box's name is one that lays it, unguarded -/
def dstOk (kd : List Kd) (o : Oper) : Bool :=
  match slotOf kd o.dst with
  | some (_, false) => (match o.op with | .alloc _ => true | .box _ _ => true | _ => false) && o.guard.isNone
  | some (_, true) => (match o.op with | .buildSlice .. => true | _ => false)
  | none => true
def rtOk : Option Nat → Rt → Bool
  | some _, some _ => false
  | _, _ => true
def compR (T : TT) (kd : List Kd) : List Oper → Nat → Ctx → Option (List RO × Ctx)
  | [], _, c => some ([], c)
  | o :: r, n, c =>
    match grd n c o.guard, dstV kd o.dst with
    | some g, some d =>
      bif !(dstOk kd o && rtOk d (compO T kd c o).2) then none else
      match compR T kd r (n + 1) ⟨dstT kd o.dst :: c.ds, (compO T kd c o).2 :: c.rt⟩ with
      | some (l, c') => some (⟨g, d, (compO T kd c o).1⟩ :: l, c')
      | none => none
    | _, _ => none
/-- what an operation touches: a slot (and does it write there), the heap (does it read, does it write) -/
structure Fp where
  sl : Option Nat
  sw : Bool
  rh : Bool
  wh : Bool
def fp : O → Fp
  | .lal s _ => ⟨some s, true, false, false⟩
  | .lbx s _ => ⟨some s, true, false, false⟩
  | .lbs s _ _ _ _ => ⟨some s, true, false, false⟩
  | .lst s _ _ _ => ⟨some s, true, false, false⟩
  | .lfa s _ _ => ⟨some s, false, false, false⟩
  | .lia s _ _ _ _ => ⟨some s, false, false, false⟩
  | .lld s _ _ _ => ⟨some s, false, false, false⟩
  | .lsub s _ _ _ _ _ => ⟨some s, false, false, false⟩
  | .lb2s s _ => ⟨some s, false, false, false⟩
  | .appL _ s _ _ _ => ⟨some s, false, true, true⟩
  | .b2s _ => ⟨none, false, true, false⟩
  | .lenM _ => ⟨none, false, true, false⟩
  | .ld _ _ _ => ⟨none, false, true, false⟩
  | .asub _ _ _ _ _ => ⟨none, false, true, false⟩
  | .look _ _ _ _ _ => ⟨none, false, true, false⟩
  | .s2b _ => ⟨none, false, true, true⟩
  | .hal _ => ⟨none, false, true, true⟩
  | .hbx _ => ⟨none, false, true, true⟩
  | .hbs _ _ _ _ => ⟨none, false, true, true⟩
  | .mks _ _ _ _ _ => ⟨none, false, true, true⟩
  | .st _ _ _ => ⟨none, false, true, true⟩
  | .app _ _ _ _ => ⟨none, false, true, true⟩
  | .appS _ _ _ => ⟨none, false, true, true⟩
  | .appM _ _ _ _ _ => ⟨none, false, true, true⟩
  | .cpy _ _ _ => ⟨none, false, true, true⟩
  | .cpyS _ _ => ⟨none, false, true, true⟩
  | .clr _ _ _ => ⟨none, false, true, true⟩
  | .mkm => ⟨none, false, true, true⟩
  | .mup _ _ _ _ => ⟨none, false, true, true⟩
  | .mdel _ _ _ => ⟨none, false, true, true⟩
  | .mclr _ => ⟨none, false, true, true⟩
  | .call _ _ => ⟨none, false, true, true⟩
  | .callv _ _ => ⟨none, false, true, true⟩
  | _ => ⟨none, false, false, false⟩
/-- for each operation the set of those that are always ahead of it -/
def maskOf (acc : List Nat) : List Edge → Nat
  | [] => 0
  | e :: r => bif Region.binds .any e then Nat.lor (Nat.lor (2 ^ e.on) (acc.getD e.on 0)) (maskOf acc r) else maskOf acc r
def masks : List Oper → List Nat → List Nat
  | [], acc => acc
  | o :: r, acc => masks r (acc ++ [maskOf acc o.after.toList])
def confl (ops : Array Oper) (x y : Oper) (fx fy : Fp) : Bool :=
  (match x.dst with
   | some d => (y.looksAt ops).contains d || (match y.dst with | some e => Nat.beq e d | none => false)
   | none => false) ||
  ((match y.dst with
   | some d => (x.looksAt ops).contains d
   | none => false) ||
  ((match fx.sl, fy.sl with
   | some s, some s' => Nat.beq s s' && (fx.sw || fy.sw)
   | _, _ => false) || (fx.wh && fy.wh)))
def fpAt (l : List RO) (i : Nat) : Fp := match roAt l i with
  | some o => fp o.o
  | none => ⟨none, false, false, false⟩
def ordered (ops : Array Oper) (l : List RO) (ms : List Nat) (n : Nat) : Bool :=
  (List.range n).all fun j => (List.range j).all fun i =>
    match ops[i]?, ops[j]? with
    | some x, some y => !confl ops x y (fpAt l i) (fpAt l j) || Nat.testBit (ms.getD j 0) i
    | _, _ => false
def lastWh (l : List RO) : Nat → Option Nat
  | 0 => none
  | n + 1 => bif (fpAt l n).wh then some n else lastWh l n
/-- may the heap that r reads be the one behind x? -/
def mayMeet (l : List RO) (ms : List Nat) (n r x : Nat) : Bool :=
  (fpAt l x).wh && (!Nat.testBit (ms.getD x 0) r && (List.range n).all fun y => !((fpAt l y).wh && Nat.testBit (ms.getD r 0) y) || Nat.ble y x)
def mayMeet0 (l : List RO) (ms : List Nat) (n r : Nat) : Bool :=
  (List.range n).all fun y => !((fpAt l y).wh && Nat.testBit (ms.getD r 0) y)
def isOwn (o : Option Nat) (x : Nat) : Bool := match o with | some y => Nat.beq x y | none => false
def floatsOf (l : List RO) (ms : List Nat) (n : Nat) : List Nat → List (Nat × Option Nat)
  | [] => []
  | r :: rs => bif (fpAt l r).rh && !(fpAt l r).wh then
      (bif mayMeet0 l ms n r && (lastWh l r).isSome then [(r, none)] else []) ++
      (((List.range n).filter fun x => mayMeet l ms n r x && !isOwn (lastWh l r) x).map fun x => (r, some x)) ++ floatsOf l ms n rs
    else floatsOf l ms n rs
def backs (ops : Array Oper) : Bool := (List.range ops.size).all fun j => match ops[j]? with
  | some o => o.after.toList.all fun e => !Region.binds .any e || Nat.blt e.on j
  | none => true
def compK (T : TT) (kd : List Kd) : Code → Ctx → K × Ctx
  | .skip, c => (.skip, c)
  | .region _ ops draw, _ => match compR T kd ops.toList 0 ⟨[], []⟩ with
    | some (l, c) => (bif draw then (bif ordered ops l (masks ops.toList []) ops.size && backs ops then .dreg l (floatsOf l (masks ops.toList []) ops.size (List.range ops.size)) else .bad) else .reg l, c)
    | none => (.bad, ⟨[], []⟩)
  | .seq a b, c => let x := compK T kd a c; let y := compK T kd b x.2; (.seq x.1 y.1, y.2)
  | .cond t a b, c => match opd kd c t with
    | some x => (.cond x (compK T kd a c).1 (compK T kd b c).1, ⟨[], []⟩)
    | none => (.bad, ⟨[], []⟩)
  | .block id b, c => (.block id (compK T kd b c).1, ⟨[], []⟩)
  | .loop b, _ => (.loop (compK T kd b ⟨[], []⟩).1, ⟨[], []⟩)
  | .exit id, _ => (.exit id, ⟨[], []⟩)
  | .ret, _ => (.ret, ⟨[], []⟩)
  | _, _ => (.bad, ⟨[], []⟩)
def compRes (T : TT) (kd : List Kd) : List ResultVar → Option (List RV)
  | [] => some []
  | .tmp t :: r => match kd[t]?, compRes T kd r with
    | some (.v j), some l => some (.v j :: l)
    | _, _ => none
  | .cell a t :: r => match kd[a]?, tInfo T t, compRes T kd r with
    | some (.l s), some ti, some l => some (.l s ti.g ti.sz :: l)
    | _, _, _ => none
def countV : List Kd → Nat
  | [] => 0
  | .v _ :: r => countV r + 1
  | _ :: r => countV r
def countL : List Kd → Nat
  | [] => 0
  | .l _ :: r => countL r + 1
  | .b _ :: r => countL r + 1
  | _ :: r => countL r
/-- kinds as they are numbered: by their own order -/
def number : List Nat → Nat → Nat → List Kd
  | [], _, _ => []
  | 0 :: r, v, l => .v v :: number r (v + 1) l
  | 1 :: r, v, l => .l l :: number r v (l + 1)
  | 2 :: r, v, l => .b l :: number r v (l + 1)
  | _ :: r, v, l => .t :: number r v l
/-- the parameters are variables, the first ones -/
def parV : List Kd → Nat → Bool
  | _, 0 => true
  | .v _ :: r, n + 1 => parV r n
  | _, _ + 1 => false
def comp (T : TT) (ks : List Nat) (f : Func) : Option CF :=
  let kd := number ks 0 0
  bif !(Nat.ble kd.length f.ntmps && parV kd (f.params.size + f.nfree)) then none else match f.body, compRes T kd f.results.toList with
  | some c, some rs => some ⟨countV kd, countL kd, f.params.size + f.nfree, (compK T kd c ⟨[], []⟩).1, rs⟩
  | _, _ => none
end Am
namespace Am
open Go

/-! The list functions -/
@[simp] theorem vlen_eq (l : List V) (n : Nat) : vlen l n = l.length + n := by
  induction l generalizing n with
  | nil => simp [vlen]
  | cons x l ih => simp only [vlen, ih, List.length_cons]; omega
@[simp] theorem slen_eq (l : List Nat) (n : Nat) : slen l n = l.length + n := by
  induction l generalizing n with
  | nil => simp [slen]
  | cons x l ih => simp only [slen, ih, List.length_cons]; omega
@[simp] theorem vtake_eq (l : List V) (n : Nat) : vtake n l = l.take n := by
  induction n generalizing l with
  | zero => simp [vtake]
  | succ n ih => cases l <;> simp [vtake, ih]
@[simp] theorem vdrop_eq (l : List V) (n : Nat) : vdrop n l = l.drop n := by
  induction n generalizing l with
  | zero => simp [vdrop]
  | succ n ih => cases l <;> simp [vdrop, ih]
@[simp] theorem vapp_eq (x y : List V) : vapp x y = x ++ y := by
  induction x with
  | nil => rfl
  | cons a x ih => simp [vapp, ih]
@[simp] theorem sapp_eq (x y : List Nat) : sapp x y = x ++ y := by
  induction x with
  | nil => rfl
  | cons a x ih => simp [sapp, ih]
theorem lget_eq (l : List V) (n : Nat) : lget l n = l[n]?.getD undef := by
  induction l generalizing n with
  | nil => simp [lget]
  | cons x l ih => cases n <;> simp [lget, ih]
@[simp] theorem lset_eq (l : List V) (n : Nat) (v : V) : lset l n v = l.set n v := by
  induction l generalizing n with
  | nil => simp [lset]
  | cons x l ih => cases n <;> simp [lset, ih]
theorem vrep_eq (n : Nat) (l : List V) : vrep n l = (List.replicate n l).flatten := by
  induction n with
  | zero => rfl
  | succ n ih => simp [vrep, ih, List.replicate_succ]
@[simp] theorem rep_eq {α : Type} (n : Nat) (x : α) : rep n x = List.replicate n x := by
  induction n with
  | zero => rfl
  | succ n ih => simp [rep, ih, List.replicate_succ]
theorem part_eq (cs : List V) (o n : Nat) : part cs o n = if o + n ≤ cs.length ∨ n = 0 then some ((cs.drop o).take n) else none := by
  unfold part
  simp only [vtake_eq, vdrop_eq, vlen_eq, Nat.add_zero, List.length_take, List.length_drop]
  by_cases h : o + n ≤ cs.length ∨ n = 0
  · rw [if_pos h]
    have : Nat.beq (min n (cs.length - o)) n = true := by rw [Nat.beq_eq]; omega
    rw [this]; rfl
  · rw [if_neg h]
    have : Nat.beq (min n (cs.length - o)) n = false := by
      rw [Bool.eq_false_iff]; intro e; rw [Nat.beq_eq] at e; omega
    rw [this]; rfl
theorem part_some {cs r : List V} {o n : Nat} (h : part cs o n = some r) : r.length = n ∧ r = (cs.drop o).take n ∧ (o + n ≤ cs.length ∨ n = 0) := by
  rw [part_eq] at h
  split at h
  · rename_i hh
    cases h
    refine ⟨?_, rfl, hh⟩
    simp; omega
  · cases h
theorem over_length (cs : List V) (o : Nat) (new : List V) : (over cs o new).length = cs.length := by
  induction cs generalizing o new with
  | nil => cases new <;> simp [over]
  | cons c cs ih => cases new <;> cases o <;> simp [over, ih]
theorem over_get (cs : List V) (o : Nat) (new : List V) (i : Nat) (h : o + new.length ≤ cs.length) :
    (over cs o new)[i]? = if o ≤ i ∧ i < o + new.length then new[i - o]? else cs[i]? := by
  induction cs generalizing o new i with
  | nil =>
    cases new with
    | nil => simp [over]
    | cons v new => simp at h
  | cons c cs ih =>
    cases new with
    | nil => simp [over]; omega
    | cons v new =>
      cases o with
      | zero =>
        cases i with
        | zero => simp [over]
        | succ i =>
          simp only [over, List.getElem?_cons_succ]
          rw [ih 0 new i (by simp at h; omega)]
          simp only [List.length_cons, Nat.zero_add, Nat.zero_le, true_and, Nat.sub_zero]
          by_cases hi : i < new.length
          · rw [if_pos hi, if_pos (by omega)]; rfl
          · rw [if_neg hi, if_neg (by omega)]
      | succ o =>
        cases i with
        | zero => simp [over]
        | succ i =>
          simp only [over, List.getElem?_cons_succ]
          rw [ih o (v :: new) i (by simp at h ⊢; omega)]
          simp only [List.length_cons]
          by_cases hi : o ≤ i ∧ i < o + (new.length + 1)
          · rw [if_pos hi, if_pos (by omega)]; congr 1; omega
          · rw [if_neg hi, if_neg (by omega)]
theorem wrt_some {cs r new : List V} {o : Nat} (h : wrt cs o new = some r) : o + new.length ≤ cs.length ∧ r = over cs o new := by
  unfold wrt at h
  simp only [vlen_eq, Nat.add_zero] at h
  cases hb : Nat.ble (o + new.length) cs.length with
  | true => rw [hb] at h; simp at h; exact ⟨Nat.le_of_ble_eq_true hb, h.symm⟩
  | false => rw [hb] at h; simp at h

/-! The heap -/
theorem Tr.get_set (k : Nat) (t : Tr) (n m : Nat) (v : Option B) (hn : n < k) (hm : m < k) :
    Tr.get k (Tr.set k t n v) m = if m = n then v else Tr.get k t m := by
  induction k generalizing t n m with
  | zero => omega
  | succ k ih =>
    have key : ∀ (l r : Tr) (x : Option B), Tr.get (k + 1) (Tr.set (k + 1) (.nd l x r) n v) m = if m = n then v else Tr.get (k + 1) (.nd l x r) m := by
      intro l r x
      cases n with
      | zero => cases m <;> simp [Tr.set, Tr.get]
      | succ n =>
        cases hb : Nat.beq (n % 2) 0
        · have hn2 : n % 2 = 1 := by have : ¬ n % 2 = 0 := fun e => by rw [e] at hb; cases hb
                                     omega
          simp only [Tr.set, hb, cond_false]
          cases m with
          | zero => simp [Tr.get]
          | succ m =>
            simp only [Tr.get]
            cases hc : Nat.beq (m % 2) 0
            · have hm2 : m % 2 = 1 := by have : ¬ m % 2 = 0 := fun e => by rw [e] at hc; cases hc
                                         omega
              simp only [cond_false]
              rw [ih r (n / 2) (m / 2) (by omega) (by omega)]
              by_cases e : m = n
              · subst e; simp
              · rw [if_neg (by omega), if_neg (by omega)]
            · have hm2 : m % 2 = 0 := by rw [Nat.beq_eq] at hc; exact hc
              simp only [cond_true]
              rw [if_neg (by omega)]
        · have hn2 : n % 2 = 0 := by rw [Nat.beq_eq] at hb; exact hb
          simp only [Tr.set, hb, cond_true]
          cases m with
          | zero => simp [Tr.get]
          | succ m =>
            simp only [Tr.get]
            cases hc : Nat.beq (m % 2) 0
            · have hm2 : m % 2 = 1 := by have : ¬ m % 2 = 0 := fun e => by rw [e] at hc; cases hc
                                         omega
              simp only [cond_false]
              rw [if_neg (by omega)]
            · have hm2 : m % 2 = 0 := by rw [Nat.beq_eq] at hc; exact hc
              simp only [cond_true]
              rw [ih l (n / 2) (m / 2) (by omega) (by omega)]
              by_cases e : m = n
              · subst e; simp
              · rw [if_neg (by omega), if_neg (by omega)]
    cases t with
    | nd l x r => exact key l r x
    | lf =>
      have e : Tr.set (k + 1) .lf n v = Tr.set (k + 1) (.nd .lf none .lf) n v := by cases n <;> simp [Tr.set]
      have e2 : Tr.get (k + 1) .lf m = Tr.get (k + 1) (.nd .lf none .lf) m := by
        cases m with
        | zero => simp [Tr.get]
        | succ m => simp only [Tr.get]; cases Nat.beq (m % 2) 0 <;> simp <;> cases k <;> simp [Tr.get]
      rw [e, key, e2]
theorem Tr.get_fuel (k k' : Nat) (t : Tr) (m : Nat) (h : m < k) (h' : m < k') : Tr.get k t m = Tr.get k' t m := by
  induction k generalizing k' t m with
  | zero => omega
  | succ k ih =>
    cases k' with
    | zero => omega
    | succ k' =>
      cases t with
      | lf => rfl
      | nd l x r =>
        cases m with
        | zero => rfl
        | succ m =>
          simp only [Tr.get]
          rw [ih k' l (m / 2) (by omega) (by omega), ih k' r (m / 2) (by omega) (by omega)]
theorem Tr.set_fuel (k k' : Nat) (t : Tr) (n : Nat) (v : Option B) (h : n < k) (h' : n < k') : Tr.set k t n v = Tr.set k' t n v := by
  induction k generalizing k' t n with
  | zero => omega
  | succ k ih =>
    cases k' with
    | zero => omega
    | succ k' =>
      cases n with
      | zero => cases t <;> simp [Tr.set]
      | succ n => cases t <;> simp only [Tr.set] <;> rw [ih k' _ (n / 2) (by omega) (by omega)] <;> (try rw [ih k' _ (n / 2) (by omega) (by omega)])
theorem H.get_set (h : H) (b c : Nat) (v : Option B) : (h.set b v).get c = if c = b then v else h.get c := by
  unfold H.get H.set
  simp only
  rw [Tr.set_fuel (b + 1) (b + c + 1) _ _ _ (by omega) (by omega), Tr.get_fuel (c + 1) (b + c + 1) _ _ (by omega) (by omega), Tr.get_fuel (c + 1) (b + c + 1) h.t _ (by omega) (by omega)]
  exact Tr.get_set _ _ _ _ _ (by omega) (by omega)
theorem H.get_new (h : H) (c : Nat) (v : B) : (h.new v).get c = if c = h.n then some v else h.get c := by
  have : h.new v = ⟨h.n + 1, (h.set h.n (some v)).t, h.g⟩ := rfl
  rw [this]
  exact H.get_set h h.n c (some v)
@[simp] theorem H.g_set (h : H) (b : Nat) (v : Option B) : (h.set b v).g = h.g := rfl
@[simp] theorem H.g_new (h : H) (v : B) : (h.new v).g = h.g := rfl
@[simp] theorem H.n_set (h : H) (b : Nat) (v : Option B) : (h.set b v).n = h.n := rfl
@[simp] theorem H.n_new (h : H) (v : B) : (h.new v).n = h.n + 1 := rfl
end Am
namespace Am
open Go

/-- where an abstract block lies: the block, the first cell, how many cells there are in all -/
abbrev Mp := Nat → Option (Nat × Nat × Nat)

mutual
inductive VRel (μ : Mp) : V → Value → Prop
  | b (x : Bool) : VRel μ (.b x) (.bool x)
  | i (k : IntKind) (n : Int) : VRel μ (.i k n) (.int k n)
  | s (l : List Nat) (y : ByteArray) (h : y.data.toList.map UInt8.toNat = l) : VRel μ (.s l) (.string y)
  | pn : VRel μ .pn (.pointer none)
  | p {b o c β N : Nat} (h : μ b = some (c, β, N)) : VRel μ (.p b o) (.pointer (some ⟨c, β + o, none⟩))
  | sn : VRel μ .sn (.slice none 0 0)
  | sl {b o n sz c β N a k : Nat} {cap : Option Nat} (h : μ b = some (c, β, N)) (hn : n ≤ k) (hc : ∀ j, cap = some j → k = j) (ha : k = 0 ∨ a = β + o)
      (hN : β + o + k * sz ≤ N) : VRel μ (.sl b o n sz cap) (.slice (some ⟨c, a, none⟩) n k)
  | mn : VRel μ .mn (.map none)
  | m {r c β N : Nat} (h : μ r = some (c, β, N)) : VRel μ (.m r) (.map (some c))
  | f {n : Nat} {fs cs : List V} {fs' cs' : Array Value} (h : VRs μ fs fs'.toList) (h' : VRs μ cs cs'.toList) : VRel μ (.f n fs cs) (.func (.func n) fs' cs')
  | nf : VRel μ .nf .nilFunc
  | ic {t : Nat} {v : V} {v' : Value} (h : VRel μ v v') : VRel μ (.ic t v) (.iface t v')
  | ni : VRel μ .ni .nilIface
  | a {cs : List V} {cs' : Array Value} (h : VRs μ cs cs'.toList) (h1 : ∀ y ∈ cs'.toList, y.oneCell' = true) : VRel μ (.a cs) (.agg cs')
  | t {cs : List V} {cs' : Array Value} (h : VRs μ cs cs'.toList) : VRel μ (.t cs) (.tuple cs')
inductive VRs (μ : Mp) : List V → List Value → Prop
  | nil : VRs μ [] []
  | cons {x : V} {y : Value} {l : List V} {r : List Value} (h : VRel μ x y) (h' : VRs μ l r) : VRs μ (x :: l) (y :: r)
end

theorem VRel.undef (μ : Mp) : VRel μ Am.undef Go.undef := .t .nil

def Ext (μ μ' : Mp) : Prop := ∀ b r, μ b = some r → μ' b = some r
theorem Ext.refl (μ : Mp) : Ext μ μ := fun _ _ h => h
theorem Ext.trans {μ μ' μ'' : Mp} (h : Ext μ μ') (h' : Ext μ' μ'') : Ext μ μ'' := fun _ _ e => h' _ _ (h _ _ e)

mutual
theorem VRel.mono {μ μ' : Mp} (e : Ext μ μ') : ∀ {x : V} {y : Value}, VRel μ x y → VRel μ' x y
  | _, _, .b x => .b x
  | _, _, .i k n => .i k n
  | _, _, .s l y h => .s l y h
  | _, _, .pn => .pn
  | _, _, .p h => .p (e _ _ h)
  | _, _, .sn => .sn
  | _, _, .sl h hn hc ha hN => .sl (e _ _ h) hn hc ha hN
  | _, _, .mn => .mn
  | _, _, .m h => .m (e _ _ h)
  | _, _, .f h h' => .f (VRs.mono e h) (VRs.mono e h')
  | _, _, .nf => .nf
  | _, _, .ic h => .ic (VRel.mono e h)
  | _, _, .ni => .ni
  | _, _, .a h h1 => .a (VRs.mono e h) h1
  | _, _, .t h => .t (VRs.mono e h)
theorem VRs.mono {μ μ' : Mp} (e : Ext μ μ') : ∀ {x : List V} {y : List Value}, VRs μ x y → VRs μ' x y
  | _, _, .nil => .nil
  | _, _, .cons h h' => .cons (VRel.mono e h) (VRs.mono e h')
end

theorem VRs.length {μ : Mp} {x : List V} {y : List Value} (h : VRs μ x y) : x.length = y.length := by
  induction x generalizing y with
  | nil => cases h; rfl
  | cons a x ih => cases h with | cons h h' => simp [ih h']
theorem VRs.get {μ : Mp} {x : List V} {y : List Value} (h : VRs μ x y) (i : Nat) (a : V) (e : x[i]? = some a) : ∃ b, y[i]? = some b ∧ VRel μ a b := by
  induction x generalizing y i with
  | nil => simp at e
  | cons c x ih =>
    cases h with
    | cons h h' =>
      cases i with
      | zero => simp at e; subst e; exact ⟨_, rfl, h⟩
      | succ i => simp at e; simpa using ih h' i e
theorem VRs.of {μ : Mp} {x : List V} {y : List Value} (hl : x.length = y.length) (h : ∀ (i : Nat) (a : V) (b : Value), x[i]? = some a → y[i]? = some b → VRel μ a b) : VRs μ x y := by
  induction x generalizing y with
  | nil => cases y <;> simp at hl; exact .nil
  | cons a x ih =>
    cases y with
    | nil => simp at hl
    | cons b y => exact .cons (h 0 a b rfl rfl) (ih (by simpa using hl) fun i a b e e' => h (i + 1) a b (by simpa using e) (by simpa using e'))
theorem VRs.append {μ : Mp} {x x' : List V} {y y' : List Value} (h : VRs μ x y) (h' : VRs μ x' y') : VRs μ (x ++ x') (y ++ y') := by
  induction x generalizing y with
  | nil => cases h; exact h'
  | cons a x ih => cases h with | cons h h1 => exact .cons h (ih h1)
theorem VRs.take {μ : Mp} {x : List V} {y : List Value} (h : VRs μ x y) (n : Nat) : VRs μ (x.take n) (y.take n) := by
  induction x generalizing y n with
  | nil => cases h; simp; exact .nil
  | cons a x ih => cases h with | cons h h1 => cases n with | zero => exact .nil | succ n => exact .cons h (ih h1 n)
theorem VRs.drop {μ : Mp} {x : List V} {y : List Value} (h : VRs μ x y) (n : Nat) : VRs μ (x.drop n) (y.drop n) := by
  induction x generalizing y n with
  | nil => cases h; simp; exact .nil
  | cons a x ih => cases h with | cons h h1 => cases n with | zero => exact .cons h h1 | succ n => simpa using ih h1 n
theorem VRs.flat {μ : Mp} {x : List V} {y : List Value} (h : VRs μ x y) (n : Nat) : VRs μ (List.replicate n x).flatten (List.replicate n y).flatten := by
  induction n with
  | zero => exact .nil
  | succ n ih => simp only [List.replicate_succ, List.flatten_cons]; exact h.append ih

def oneCells (l : List Value) : Prop := ∀ y ∈ l, y.oneCell' = true

/-- the cells of a value -/
theorem VRel.cells {μ : Mp} {v : V} {y : Value} (h : VRel μ v y) {cs : List V} (e : v.cs? = some cs) : VRs μ cs y.cells.toList ∧ oneCells y.cells.toList := by
  cases h with
  | a h h1 => simp [V.cs?] at e; subst e; exact ⟨h, h1⟩
  | t h => simp [V.cs?] at e
  | f h h' => simp [V.cs?] at e; subst e; refine ⟨.cons (.f h h') .nil, ?_⟩; intro y hy; simp [Value.cells] at hy; subst hy; rfl
  | ic h => simp [V.cs?] at e; subst e; refine ⟨.cons (.ic h) .nil, ?_⟩; intro y hy; simp [Value.cells] at hy; subst hy; rfl
  | p h => simp [V.cs?] at e; subst e; refine ⟨.cons (.p h) .nil, ?_⟩; intro y hy; simp [Value.cells] at hy; subst hy; rfl
  | m h => simp [V.cs?] at e; subst e; refine ⟨.cons (.m h) .nil, ?_⟩; intro y hy; simp [Value.cells] at hy; subst hy; rfl
  | sl h hn hc ha hN => simp [V.cs?] at e; subst e; refine ⟨.cons (.sl h hn hc ha hN) .nil, ?_⟩; intro y hy; simp [Value.cells] at hy; subst hy; rfl
  | s l y h => simp [V.cs?] at e; subst e; refine ⟨.cons (.s l _ h) .nil, ?_⟩; intro y hy; simp [Value.cells] at hy; subst hy; rfl
  | b x => simp [V.cs?] at e; subst e; refine ⟨.cons (.b x) .nil, ?_⟩; intro y hy; simp [Value.cells] at hy; subst hy; rfl
  | i k n => simp [V.cs?] at e; subst e; refine ⟨.cons (.i k n) .nil, ?_⟩; intro y hy; simp [Value.cells] at hy; subst hy; rfl
  | pn => simp [V.cs?] at e; subst e; refine ⟨.cons .pn .nil, ?_⟩; intro y hy; simp [Value.cells] at hy; subst hy; rfl
  | sn => simp [V.cs?] at e; subst e; refine ⟨.cons .sn .nil, ?_⟩; intro y hy; simp [Value.cells] at hy; subst hy; rfl
  | mn => simp [V.cs?] at e; subst e; refine ⟨.cons .mn .nil, ?_⟩; intro y hy; simp [Value.cells] at hy; subst hy; rfl
  | nf => simp [V.cs?] at e; subst e; refine ⟨.cons .nf .nil, ?_⟩; intro y hy; simp [Value.cells] at hy; subst hy; rfl
  | ni => simp [V.cs?] at e; subst e; refine ⟨.cons .ni .nil, ?_⟩; intro y hy; simp [Value.cells] at hy; subst hy; rfl

/-- a row of cells in memory -/
structure Row (μ : Mp) (cs : List V) (w : World) (c β N : Nat) : Prop where
  ex : ∃ C e fr, w.heap[c]? = some (.cells C e fr) ∧ C.size = N ∧ (∀ i, fr.1 ≤ i → i < fr.2 → N ≤ i) ∧
    ∀ i x, cs[i]? = some x → ∃ y, C[β + i]? = some y ∧ VRel μ x y ∧ y.oneCell' = true
  le : β + cs.length ≤ N
inductive VPs (μ : Mp) : List (V × V) → List MapEntry → Prop
  | nil : VPs μ [] []
  | cons {k v : V} {e : MapEntry} {l : List (V × V)} {r : List MapEntry} (hk : VRel μ k e.key) (hv : VRel μ v e.val) (h : VPs μ l r) : VPs μ ((k, v) :: l) (e :: r)
def BRel (μ : Mp) (w : World) (c β N : Nat) : B → Prop
  | .cells cs => Row μ cs w c β N
  | .map es => ∃ E k, w.heap[c]? = some (.map E k) ∧ VPs μ es E.toList
def Live (μ : Mp) (h : H) (c : Nat) : Prop := ∃ b x β N, h.get b = some x ∧ μ b = some (c, β, N)
def GK.blk : GK → Nat
  | .tab b _ => b
  | .err b => b
def GK.obj : GK → Obj → Prop
  | .tab _ l, o => ∃ C e fr, o = .cells C e fr ∧ VRs (fun _ => none) l C.toList
  | .err _, o => ∃ tp p e fr, o = .cells #[.iface tp p] e fr
def GK.holds (w : World) (k : GK) : Prop := ∃ o, w.heap[k.blk]? = some o ∧ k.obj o
theorem GK.holds.lt {w : World} {k : GK} (h : k.holds w) : k.blk < w.heap.size := by
  obtain ⟨o, ho, _⟩ := h
  exact (Array.getElem?_eq_some_iff.1 ho).1
theorem GK.holds.keep {w w' : World} {k : GK} (h : k.holds w) (e : w'.heap[k.blk]? = w.heap[k.blk]?) : k.holds w' := by
  obtain ⟨o, ho, hk⟩ := h
  exact ⟨o, e.trans ho, hk⟩
structure HRel (μ : Mp) (h : H) (w : World) : Prop where
  blk : ∀ b x, h.get b = some x → ∃ c β N, μ b = some (c, β, N) ∧ BRel μ w c β N x
  inj : ∀ b b' x x' c β β' N N', h.get b = some x → h.get b' = some x' → μ b = some (c, β, N) → μ b' = some (c, β', N') → b = b'
  dom : ∀ b, h.n ≤ b → μ b = none
  glb : ∀ k ∈ h.g, k.holds w ∧ ¬ Live μ h k.blk
/-- what a step of the program may change -/
structure Fr (μ : Mp) (h : H) (w : World) (μ' : Mp) (h' : H) (w' : World) : Prop where
  ext : Ext μ μ'
  n : h.n ≤ h'.n
  size : w.heap.size ≤ w'.heap.size
  keep : ∀ c, c < w.heap.size → ¬ Live μ h c → w'.heap[c]? = w.heap[c]?
  live : ∀ c, Live μ' h' c → Live μ h c ∨ w.heap.size ≤ c
  tape : w'.tape = w.tape
  os : w'.os = w.os
  out : w'.output = w.output
  g : h'.g = h.g
theorem Fr.glb {μ h w μ' h' w'} (f : Fr μ h w μ' h' w') (hg : ∀ k ∈ h.g, k.holds w ∧ ¬ Live μ h k.blk) : ∀ k ∈ h'.g, k.holds w' ∧ ¬ Live μ' h' k.blk := by
  intro k hk
  rw [f.g] at hk
  obtain ⟨h1, h2⟩ := hg k hk
  refine ⟨h1.keep (f.keep _ h1.lt h2), fun hl => ?_⟩
  rcases f.live _ hl with h3 | h3
  · exact h2 h3
  · have := h1.lt; omega
theorem Fr.refl (μ : Mp) (h : H) (w : World) : Fr μ h w μ h w := ⟨Ext.refl _, Nat.le_refl _, Nat.le_refl _, fun _ _ _ => rfl, fun _ h => .inl h, rfl, rfl, rfl, rfl⟩
theorem Fr.trans {μ h w μ' h' w' μ'' h'' w''} (a : Fr μ h w μ' h' w') (b : Fr μ' h' w' μ'' h'' w'') : Fr μ h w μ'' h'' w'' where
  ext := a.ext.trans b.ext
  n := Nat.le_trans a.n b.n
  size := Nat.le_trans a.size b.size
  keep c hc hl := by
    have h1 : ¬ Live μ' h' c := fun hl' => (a.live c hl').elim hl fun h => by omega
    rw [b.keep c (Nat.lt_of_lt_of_le hc a.size) h1, a.keep c hc hl]
  live c hl := (b.live c hl).elim (fun h => a.live c h) fun h => .inr (Nat.le_trans a.size h)
  tape := b.tape.trans a.tape
  os := b.os.trans a.os
  out := b.out.trans a.out
  g := b.g.trans a.g

/-- the local boxes: each slot that is laid lies in a block of its own -/
abbrev Lm := Nat → Option Nat
structure LRel (μ : Mp) (κ : Lm) (ls : Ls) (h : H) (w : World) (w₀ : Nat) : Prop where
  blk : ∀ s cs, slot ls s = some cs → ∃ c, κ s = some c ∧ Row μ cs w c 0 cs.length ∧ ¬ Live μ h c ∧ w₀ ≤ c
  inj : ∀ s s' cs cs' c, slot ls s = some cs → slot ls s' = some cs' → κ s = some c → κ s' = some c → s = s'
  glo : ∀ k ∈ h.g, k.blk < w₀

theorem Row.lt {μ cs w c β N} (h : Row μ cs w c β N) : c < w.heap.size := by
  obtain ⟨C, e, fr, hc, _⟩ := h.ex
  exact (Array.getElem?_eq_some_iff.1 hc).1
theorem BRel.lt {μ w c β N x} (h : BRel μ w c β N x) : c < w.heap.size := by
  cases x with
  | cells cs => exact Row.lt h
  | map es => obtain ⟨E, k, hc, _⟩ := h; exact (Array.getElem?_eq_some_iff.1 hc).1
theorem Row.mono {μ μ' cs w w' c β N} (h : Row μ cs w c β N) (e : Ext μ μ') (hw : w'.heap[c]? = w.heap[c]?) : Row μ' cs w' c β N := by
  obtain ⟨⟨C, ty, fr, hc, hs, hf, hv⟩, hl⟩ := h
  exact ⟨⟨C, ty, fr, hw.trans hc, hs, hf, fun i x hx => let ⟨y, a, b, d⟩ := hv i x hx; ⟨y, a, b.mono e, d⟩⟩, hl⟩
theorem VPs.mono {μ μ' : Mp} (e : Ext μ μ') {l r} (h : VPs μ l r) : VPs μ' l r := by
  induction h with
  | nil => exact .nil
  | cons hk hv _ ih => exact .cons (hk.mono e) (hv.mono e) ih
theorem BRel.mono {μ μ' w w' c β N x} (h : BRel μ w c β N x) (e : Ext μ μ') (hw : w'.heap[c]? = w.heap[c]?) : BRel μ' w' c β N x := by
  cases x with
  | cells cs => exact Row.mono h e hw
  | map es => obtain ⟨E, k, hc, hv⟩ := h; exact ⟨E, k, hw.trans hc, hv.mono e⟩
theorem HRel.lt {μ h w b r} (hh : HRel μ h w) (e : μ b = some r) : b < h.n := by
  rcases Nat.lt_or_ge b h.n with h1 | h1
  · exact h1
  · rw [hh.dom b h1] at e; cases e
theorem HRel.liveLt {μ h w c} (hh : HRel μ h w) (l : Live μ h c) : c < w.heap.size := by
  obtain ⟨b, x, β, N, hb, hm⟩ := l
  obtain ⟨c', β', N', hm', hr⟩ := hh.blk b x hb
  rw [hm] at hm'; cases hm'
  exact hr.lt
end Am
namespace Am
open Go
variable {P : Program} {μ : Mp}

/-- the world but for one block -/
structure Only (w w' : World) (c : Nat) : Prop where
  keep : ∀ d, d ≠ c → w'.heap[d]? = w.heap[d]?
  size : w'.heap.size = w.heap.size
  tape : w'.tape = w.tape
  os : w'.os = w.os
  out : w'.output = w.output
theorem Only.refl (w : World) (c : Nat) : Only w w c := ⟨fun _ _ => rfl, rfl, rfl, rfl, rfl⟩
theorem Only.trans {w w' w'' : World} {c : Nat} (a : Only w w' c) (b : Only w' w'' c) : Only w w'' c :=
  ⟨fun d h => (b.keep d h).trans (a.keep d h), b.size.trans a.size, b.tape.trans a.tape, b.os.trans a.os, b.out.trans a.out⟩

theorem add_off (c o n : Nat) : (⟨c, o, none⟩ : Addr).add n = ⟨c, o + n, none⟩ := by
  unfold Addr.add
  split
  · rename_i h; subst h; rfl
  · rfl

theorem Row.cell {cs w c β N} (h : Row μ cs w c β N) (i : Nat) (x : V) (hx : cs[i]? = some x) :
    ∃ y, w.cell? ⟨c, β + i, none⟩ = some y ∧ VRel μ x y ∧ y.oneCell' = true := by
  obtain ⟨C, e, fr, hc, hs, hf, hv⟩ := h.ex
  obtain ⟨y, a, b, d⟩ := hv i x hx
  exact ⟨y, by simp [World.cell?, hc, a], b, d⟩
theorem Row.frozen {cs w c β N} (h : Row μ cs w c β N) (i : Nat) (hi : i < N) : w.frozen? ⟨c, i, none⟩ = false := by
  obtain ⟨C, e, fr, hc, hs, hf, hv⟩ := h.ex
  obtain ⟨lo, hi'⟩ := fr
  simp only [World.frozen?, hc]
  cases hb : (decide (lo ≤ i) && decide (i < hi')) with
  | false => rfl
  | true =>
    simp only [Bool.and_eq_true, decide_eq_true_eq] at hb
    have := hf i hb.1 hb.2
    omega
theorem Row.inside {cs w c β N} (h : Row μ cs w c β N) (i : Nat) (hi : i < N) : ∃ y, w.cell? ⟨c, i, none⟩ = some y := by
  obtain ⟨C, e, fr, hc, hs, hf, hv⟩ := h.ex
  refine ⟨C[i]'(by omega), ?_⟩
  simp [World.cell?, hc]

/-- reading a part of a row -/
theorem Row.loadH {cs w c β N} (h : Row μ cs w c β N) (o n : Nat) (hn : o + n ≤ cs.length) :
    ∃ ys : List Value, (∀ w1 : World, w1.heap = w.heap → (loadCells ⟨c, β + o, none⟩ n).run P w1 = .ok ys.toArray w1) ∧ VRs μ ((cs.drop o).take n) ys ∧ oneCells ys := by
  have key : ∀ n, o + n ≤ cs.length → ∃ ys : List Value, ys.length = n ∧ (∀ j v, ys[j]? = some v → w.cell? ⟨c, β + o + j, none⟩ = some v) ∧ VRs μ ((cs.drop o).take n) ys ∧ oneCells ys := by
    intro n
    induction n with
    | zero => exact fun _ => ⟨[], rfl, by simp, by simpa using VRs.nil, by simp [oneCells]⟩
    | succ n ih =>
      intro hn
      obtain ⟨ys, hl, h1, h2, h3⟩ := ih (by omega)
      obtain ⟨y, hy, hv, ho⟩ := h.cell (o + n) (cs[o + n]'(by omega)) (by simp)
      refine ⟨ys ++ [y], by simp [hl], ?_, ?_, ?_⟩
      · intro j v hj
        by_cases hjn : j < n
        · rw [List.getElem?_append_left (by omega)] at hj; exact h1 j v hj
        · rw [List.getElem?_append_right (by omega)] at hj
          have : j = n := by
            rcases Nat.lt_or_ge n j with h' | h'
            · rw [List.getElem?_eq_none (by simp; omega)] at hj; cases hj
            · omega
          subst this
          simp [hl] at hj; subst hj
          rw [Nat.add_assoc]; exact hy
      · have : (cs.drop o).take (n + 1) = (cs.drop o).take n ++ [cs[o + n]'(by omega)] := by
          rw [List.take_succ_eq_append_getElem (by simp; omega)]
          simp
        rw [this]
        exact h2.append (.cons hv .nil)
      · intro z hz
        rcases List.mem_append.1 hz with hz | hz
        · exact h3 z hz
        · simp at hz; subst hz; exact ho
  obtain ⟨ys, hl, h1, h2, h3⟩ := key n hn
  refine ⟨ys, fun w1 hw => ?_, h2, h3⟩
  have hc : ∀ a, w1.cell? a = w.cell? a := fun a => by unfold World.cell?; rw [hw]
  have := run_loadCells_list (P := P) w1 ⟨c, β + o, none⟩ ys (fun j v hj => by rw [add_off, hc]; exact h1 j v hj)
  rw [hl] at this
  exact this
theorem Row.load {cs w c β N} (h : Row μ cs w c β N) (o n : Nat) (hn : o + n ≤ cs.length) :
    ∃ ys : List Value, (loadCells ⟨c, β + o, none⟩ n).run P w = .ok ys.toArray w ∧ VRs μ ((cs.drop o).take n) ys ∧ oneCells ys :=
  let ⟨ys, a, b⟩ := h.loadH o n hn
  ⟨ys, a w rfl, b⟩

theorem setCell_only (w : World) (c i : Nat) (y : Value) : Only w (w.setCell ⟨c, i, none⟩ y) c := by
  refine ⟨fun d hd => ?_, by simp, rfl, rfl, rfl⟩
  simp only [World.setCell, Array.getElem?_modify]
  rw [if_neg (fun e => hd e.symm)]

/-- one cell of a row written -/
theorem Row.set {cs w c β N} (h : Row μ cs w c β N) (i : Nat) (x : V) (y : Value) (hv : VRel μ x y) (ho : y.oneCell' = true) :
    Row μ (cs.set i x) (w.setCell ⟨c, β + i, none⟩ y) c β N := by
  obtain ⟨⟨C, e, fr, hc, hs, hf, hvs⟩, hl⟩ := h
  refine ⟨⟨C.setIfInBounds (β + i) y, e, fr, ?_, by simpa using hs, hf, ?_⟩, by simpa using hl⟩
  · simp [World.setCell, Array.getElem?_modify, hc]
  · intro j z hz
    by_cases hj : j = i
    · subst hj
      have hlt : j < cs.length := by
        rcases Nat.lt_or_ge j cs.length with h' | h'
        · exact h'
        · rw [List.getElem?_eq_none (by simpa using h')] at hz; cases hz
      rw [List.getElem?_set_self hlt] at hz
      cases hz
      obtain ⟨y', hy', _⟩ := hvs j cs[j] (by simp [hlt])
      have hlt' : β + j < C.size := (Array.getElem?_eq_some_iff.1 hy').1
      exact ⟨y, by rw [Array.getElem?_setIfInBounds_self_of_lt hlt'], hv, ho⟩
    · rw [List.getElem?_set_ne (fun e => hj e.symm)] at hz
      obtain ⟨y', hy', a, b⟩ := hvs j z hz
      exact ⟨y', by rw [Array.getElem?_setIfInBounds_ne (by omega)]; exact hy', a, b⟩

/-- cells written into a row, one behind the other -/
theorem Row.store {w c β N} {cs : List V} (h : Row μ cs w c β N) (o : Nat) (new : List V) (ys : List Value) (hv : VRs μ new ys) (ho : oneCells ys) (hn : o + new.length ≤ cs.length) :
    ∃ w', (storeCells ⟨c, β + o, none⟩ ys).run P w = .ok () w' ∧ Row μ (over cs o new) w' c β N ∧ Only w w' c := by
  have key : ∀ (new : List V) (ys : List Value) (w : World) (cs : List V) (i : Nat), VRs μ new ys → oneCells ys → o + i + new.length ≤ cs.length → Row μ cs w c β N →
      ∃ w', (storeCells ⟨c, β + o, none⟩ ys i).run P w = .ok () w' ∧ Row μ (over cs (o + i) new) w' c β N ∧ Only w w' c := by
    intro new
    induction new with
    | nil =>
      intro ys w cs i hv _ _ hr
      cases hv
      refine ⟨w, by simp [storeCells], ?_, Only.refl _ _⟩
      have : over cs (o + i) [] = cs := by cases cs <;> simp [over]
      rw [this]; exact hr
    | cons x new ih =>
      intro ys w cs i hv ho hn hr
      cases hv with
      | cons hx hv =>
      rename_i y ys
      have hlt : o + i < cs.length := by simp at hn; omega
      have hoy : y.oneCell' = true := ho y (by simp)
      obtain ⟨u, hu, _, _⟩ := hr.cell (o + i) cs[o + i] (by simp [hlt])
      have hfr := hr.frozen (β + (o + i)) (by have := hr.le; omega)
      obtain ⟨w', h1, h2, h3⟩ := ih ys (w.setCell ⟨c, β + (o + i), none⟩ y) (cs.set (o + i) x) (i + 1) hv (fun z hz => ho z (by simp [hz])) (by simp at hn ⊢; omega) (hr.set (o + i) x y hx hoy)
      refine ⟨w', ?_, ?_, (setCell_only _ _ _ _).trans h3⟩
      · simp only [storeCells, Sem.run_bind, add_off]
        rw [run_store P w _ y _ hoy, Nat.add_assoc, hu]
        simp only [hfr, Bool.false_eq_true, if_false, Result.andThen_ok]
        exact h1
      · have : over cs (o + i) (x :: new) = over (cs.set (o + i) x) (o + (i + 1)) new := by
          apply List.ext_getElem?
          intro j
          rw [over_get _ _ _ _ (by simpa using (by simp at hn; omega : o + i + (new.length + 1) ≤ cs.length)), over_get _ _ _ _ (by simp at hn ⊢; omega)]
          simp only [List.length_cons]
          by_cases hj : j = o + i
          · subst hj
            rw [if_pos (by omega), if_neg (by omega)]
            simp [hlt]
          · by_cases hj2 : o + i ≤ j ∧ j < o + i + (new.length + 1)
            · rw [if_pos hj2, if_pos (by omega)]
              rw [show j - (o + i) = (j - (o + (i + 1))) + 1 by omega]; rfl
            · rw [if_neg hj2, if_neg (by omega), List.getElem?_set_ne (by omega)]
        rw [this]; exact h2
  have := key new ys w cs 0 hv ho (by simpa using hn) h
  simpa using this

/-- a new row -/
theorem Row.new (w : World) (cs : List V) (ys : List Value) (e : TypeId) (hv : VRs μ cs ys) (ho : oneCells ys) (more : List Value) :
    Row μ cs (w.alloc (.cells (ys ++ more).toArray e)) w.heap.size 0 (cs.length + more.length) := by
  refine ⟨⟨(ys ++ more).toArray, e, (0, 0), ?_, ?_, ?_, ?_⟩, by omega⟩
  · simp [World.alloc, -World.alloc_eq]
  · simp [hv.length]
  · intro i h1 h2; simp at h2
  · intro i x hx
    obtain ⟨y, hy, hr⟩ := hv.get i x hx
    refine ⟨y, ?_, hr, ho y (List.mem_of_getElem? hy)⟩
    have : i < ys.length := (List.getElem?_eq_some_iff.1 hy).1
    simp only [Nat.zero_add, List.getElem?_toArray]
    rw [List.getElem?_append_left this]; exact hy
theorem alloc_old (w : World) (o : Obj) (c : Nat) (h : c < w.heap.size) : (w.alloc o).heap[c]? = w.heap[c]? := by
  simp only [World.alloc, Array.getElem?_push]
  rw [if_neg (by omega)]

/-! What becomes of the relation -/
theorem live_put {h : H} {b : Nat} {x x' : B} (hb : h.get b = some x) (c : Nat) (l : Live μ (h.set b (some x')) c) : Live μ h c := by
  obtain ⟨d, y, β, N, hd, hm⟩ := l
  rw [H.get_set] at hd
  split at hd
  · rename_i e; subst e; exact ⟨d, x, β, N, hb, hm⟩
  · exact ⟨d, y, β, N, hd, hm⟩
theorem Fr.put {h : H} {w w' : World} {b c β N : Nat} {x x' : B} (hb : h.get b = some x) (hm : μ b = some (c, β, N)) (ho : Only w w' c) :
    Fr μ h w μ (h.set b (some x')) w' where
  ext := Ext.refl _
  n := Nat.le_refl _
  size := Nat.le_of_eq ho.size.symm
  keep d _ hl := ho.keep d fun e => hl (e ▸ ⟨b, x, β, N, hb, hm⟩)
  live d l := .inl (live_put hb d l)
  tape := ho.tape
  os := ho.os
  out := ho.out
  g := rfl

/-- a block of the heap is written -/
theorem HRel.put {h w w'} (hh : HRel μ h w) {b c β N : Nat} {x x' : B} (hb : h.get b = some x) (hm : μ b = some (c, β, N)) (ho : Only w w' c) (hr : BRel μ w' c β N x') :
    HRel μ (h.set b (some x')) w' := by
  refine ⟨fun d y hd => ?_, fun d d' y y' e β1 β2 N1 N2 hd hd' h1 h2 => ?_, fun d hd => hh.dom d (by simpa using hd), (Fr.put (x' := x') hb hm ho).glb hh.glb⟩
  · rw [H.get_set] at hd
    split at hd
    · rename_i e; subst e; cases hd; exact ⟨c, β, N, hm, hr⟩
    · rename_i e
      obtain ⟨c', β', N', hm', hr'⟩ := hh.blk d y hd
      refine ⟨c', β', N', hm', hr'.mono (Ext.refl _) (ho.keep c' fun ec => ?_)⟩
      subst ec
      exact e (hh.inj d b y x c' β' β N' N hd hb hm' hm)
  · have g : ∀ d y, (h.set b (some x')).get d = some y → ∃ z, h.get d = some z := by
      intro d y hd
      rw [H.get_set] at hd
      split at hd
      · rename_i e; subst e; exact ⟨x, hb⟩
      · exact ⟨y, hd⟩
    obtain ⟨z, hz⟩ := g d y hd
    obtain ⟨z', hz'⟩ := g d' y' hd'
    exact hh.inj d d' z z' e β1 β2 N1 N2 hz hz' h1 h2

/-- a new block -/
def upd (μ : Mp) (b : Nat) (r : Nat × Nat × Nat) : Mp := fun d => if d = b then some r else μ d
theorem upd_self (b : Nat) (r : Nat × Nat × Nat) : upd μ b r b = some r := by simp [upd]
theorem upd_ext {b : Nat} {r : Nat × Nat × Nat} (h : μ b = none) : Ext μ (upd μ b r) := by
  intro d s hd
  unfold upd
  split
  · rename_i e; subst e; rw [h] at hd; cases hd
  · exact hd
structure Grew (w w' : World) (o : Obj) : Prop where
  new : w'.heap[w.heap.size]? = some o
  keep : ∀ d, d < w.heap.size → w'.heap[d]? = w.heap[d]?
  size : w'.heap.size = w.heap.size + 1
  tape : w'.tape = w.tape
  os : w'.os = w.os
  out : w'.output = w.output
theorem Grew.alloc (w : World) (o : Obj) : Grew w (w.alloc o) o := ⟨by simp [World.alloc, -World.alloc_eq], fun d hd => alloc_old w o d hd, by simp, rfl, rfl, rfl⟩
theorem Grew.drew {w w' : World} {o : Obj} (g : Grew w.drew w' o) : Grew w w' o := ⟨g.new, g.keep, g.size, g.tape, g.os, g.out⟩
theorem HRel.drew {h w} (hh : HRel μ h w) : HRel μ h w.drew := ⟨fun b x hb => let ⟨c, β, N, hm, hr⟩ := hh.blk b x hb; ⟨c, β, N, hm, hr.mono (Ext.refl _) rfl⟩, hh.inj, hh.dom, hh.glb⟩

theorem Fr.new {h : H} {w w' : World} {o : Obj} (hh : HRel μ h w) (g : Grew w w' o) (x : B) (N : Nat) :
    Fr μ h w (upd μ h.n (w.heap.size, 0, N)) (h.new x) w' where
  ext := upd_ext (hh.dom h.n (Nat.le_refl _))
  n := by simp
  size := by rw [g.size]; omega
  keep d hd _ := g.keep d hd
  live d l := by
    obtain ⟨b, y, β, N', hb, hm⟩ := l
    rw [H.get_new] at hb
    unfold upd at hm
    split at hb
    · rename_i e; rw [if_pos e] at hm; cases hm; exact .inr (Nat.le_refl _)
    · rename_i e; rw [if_neg e] at hm; exact .inl ⟨b, y, β, N', hb, hm⟩
  tape := g.tape
  os := g.os
  out := g.out
  g := rfl
theorem HRel.new {h w w' o} (hh : HRel μ h w) (g : Grew w w' o) (x : B) (N : Nat) (hr : BRel (upd μ h.n (w.heap.size, 0, N)) w' w.heap.size 0 N x) :
    HRel (upd μ h.n (w.heap.size, 0, N)) (h.new x) w' := by
  have hn := hh.dom h.n (Nat.le_refl _)
  refine ⟨fun d y hd => ?_, fun d d' y y' e β1 β2 N1 N2 hd hd' h1 h2 => ?_, fun d hd => ?_, (Fr.new hh g x N).glb hh.glb⟩
  · rw [H.get_new] at hd
    split at hd
    · rename_i e; subst e; cases hd; exact ⟨_, _, _, upd_self _ _, hr⟩
    · obtain ⟨c', β', N', hm', hr'⟩ := hh.blk d y hd
      exact ⟨c', β', N', upd_ext hn _ _ hm', hr'.mono (upd_ext hn) (g.keep c' hr'.lt)⟩
  · rw [H.get_new] at hd hd'
    unfold upd at h1 h2
    split at hd <;> split at hd'
    · omega
    · rename_i e1 e2
      rw [if_pos e1] at h1; rw [if_neg e2] at h2; cases h1
      obtain ⟨c', β', N', hm', hr'⟩ := hh.blk d' y' hd'
      rw [hm'] at h2; cases h2
      exact absurd hr'.lt (by omega)
    · rename_i e1 e2
      rw [if_neg e1] at h1; rw [if_pos e2] at h2; cases h2
      obtain ⟨c', β', N', hm', hr'⟩ := hh.blk d y hd
      rw [hm'] at h1; cases h1
      exact absurd hr'.lt (by omega)
    · rename_i e1 e2
      rw [if_neg e1] at h1; rw [if_neg e2] at h2
      exact hh.inj d d' y y' e β1 β2 N1 N2 hd hd' h1 h2
  · simp at hd
    unfold upd
    rw [if_neg (by omega)]
    exact hh.dom d (by omega)
theorem Fr.die {h : H} {w : World} (b : Nat) : Fr μ h w μ (h.set b none) w where
  ext := Ext.refl _
  n := Nat.le_refl _
  size := Nat.le_refl _
  keep _ _ _ := rfl
  live d l := by
    obtain ⟨e, y, β, N', hb, hm⟩ := l
    rw [H.get_set] at hb
    split at hb
    · cases hb
    · exact .inl ⟨e, y, β, N', hb, hm⟩
  tape := rfl
  os := rfl
  out := rfl
  g := rfl
/-- a block dies -/
theorem HRel.die {h w} (hh : HRel μ h w) (b : Nat) : HRel μ (h.set b none) w := by
  refine ⟨fun d y hd => ?_, fun d d' y y' e β1 β2 N1 N2 hd hd' h1 h2 => ?_, fun d hd => hh.dom d (by simpa using hd), (Fr.die b).glb hh.glb⟩
  · rw [H.get_set] at hd
    split at hd
    · cases hd
    · exact hh.blk d y hd
  · rw [H.get_set] at hd hd'
    split at hd <;> first | cases hd | skip
    split at hd' <;> first | cases hd' | skip
    exact hh.inj d d' y y' e β1 β2 N1 N2 hd hd' h1 h2
theorem Fr.move {h : H} {w w' : World} (hh : HRel μ h w) {b c β N β' : Nat} {x x' : B} (hb : h.get b = some x) (hm : μ b = some (c, β, N)) (ho : Only w w' c) :
    Fr μ h w (upd μ h.n (c, β', N)) ((h.set b none).new x') w' where
  ext := upd_ext (hh.dom h.n (Nat.le_refl _))
  n := by simp
  size := Nat.le_of_eq ho.size.symm
  keep d _ hl := ho.keep d fun e => hl (e ▸ ⟨b, x, β, N, hb, hm⟩)
  live d l := by
    obtain ⟨e, y, β1, N', hg, hm'⟩ := l
    rw [H.get_new] at hg
    unfold upd at hm'
    split at hg
    · rename_i e1; simp at e1; rw [if_pos e1] at hm'; cases hm'; exact .inl ⟨b, x, β, N, hb, hm⟩
    · rename_i e1
      simp at e1
      rw [H.get_set] at hg
      split at hg
      · cases hg
      · rw [if_neg e1] at hm'; exact .inl ⟨e, y, β1, N', hg, hm'⟩
  tape := ho.tape
  os := ho.os
  out := ho.out
  g := rfl
/-- the dead block's cells go on under a new name -/
theorem HRel.move {h w w'} (hh : HRel μ h w) {b c β N β' : Nat} {x x' : B} (hb : h.get b = some x) (hm : μ b = some (c, β, N)) (ho : Only w w' c)
    (hr : BRel (upd μ h.n (c, β', N)) w' c β' N x') : HRel (upd μ h.n (c, β', N)) ((h.set b none).new x') w' := by
  have hn := hh.dom h.n (Nat.le_refl _)
  have hbn : b < h.n := hh.lt hm
  have key : ∀ d y, ((h.set b none).new x').get d = some y → (d = h.n ∧ y = x') ∨ (d ≠ h.n ∧ d ≠ b ∧ h.get d = some y) := by
    intro d y hd
    rw [H.get_new] at hd
    split at hd
    · rename_i e; cases hd; exact .inl ⟨e, rfl⟩
    · rename_i e
      rw [H.get_set] at hd
      split at hd
      · cases hd
      · rename_i e'; exact .inr ⟨e, e', hd⟩
  refine ⟨fun d y hd => ?_, fun d d' y y' e β1 β2 N1 N2 hd hd' h1 h2 => ?_, fun d hd => ?_, (Fr.move (β' := β') (x' := x') hh hb hm ho).glb hh.glb⟩
  · rcases key d y hd with ⟨rfl, rfl⟩ | ⟨e1, e2, hg⟩
    · exact ⟨_, _, _, upd_self _ _, hr⟩
    · obtain ⟨c', β'', N', hm', hr'⟩ := hh.blk d y hg
      refine ⟨c', β'', N', upd_ext hn _ _ hm', hr'.mono (upd_ext hn) (ho.keep c' fun ec => ?_)⟩
      subst ec
      exact e2 (hh.inj d b y x c' β'' β N' N hg hb hm' hm)
  · unfold upd at h1 h2
    rcases key d y hd with ⟨e1, _⟩ | ⟨e1, e2, hg⟩ <;> rcases key d' y' hd' with ⟨e3, _⟩ | ⟨e3, e4, hg'⟩
    · omega
    · rw [if_pos e1] at h1; rw [if_neg e3] at h2; cases h1
      exact absurd (hh.inj d' b y' x c β2 β N2 N hg' hb h2 hm) e4
    · rw [if_neg e1] at h1; rw [if_pos e3] at h2; cases h2
      exact absurd (hh.inj d b y x c β1 β N1 N hg hb h1 hm) e2
    · rw [if_neg e1] at h1; rw [if_neg e3] at h2
      exact hh.inj d d' y y' e β1 β2 N1 N2 hg hg' h1 h2
  · simp at hd
    unfold upd
    rw [if_neg (by omega)]
    exact hh.dom d (by omega)
end Am
namespace Am
open Go
variable {P : Program} {μ : Mp}

/-! Types -/
structure TOk (P : Program) (T : TT) : Prop where
  ty : ∀ t i, T.ty t = some i → P.info? t = some i
  sh : ∀ t, T.sh t = true → P.stoodInHeld t = false
theorem tUnd_ok {T : TT} (hT : TOk P T) {t : Nat} {d : TypeDesc} (h : tUnd T t = some d) : P.underlying t = some d := by
  unfold tUnd at h
  split at h
  · rename_i i hi
    have h1 := hT.ty t i hi
    unfold Program.underlying
    rw [h1]
    cases hd : i.desc with
    | named n u =>
      rw [hd] at h
      simp only at h
      split at h
      · rename_i j hj
        cases h
        have h2 := hT.ty u j hj
        obtain ⟨desc, str, sz, by_, hp, al, fa, z, cm, ms⟩ := i
        simp only at hd
        subst hd
        simp [h2]
      · cases h
    | _ =>
      rw [hd] at h
      simp only [Option.some.injEq] at h
      subst h
      obtain ⟨desc, str, sz, by_, hp, al, fa, z, cm, ms⟩ := i
      simp only at hd
      subst hd
      rfl
  · cases h
theorem run_underlying {t : Nat} {d : TypeDesc} {w : World} (h : P.underlying t = some d) : (underlying t).run P w = .ok d w := by
  simp [underlying, h]
theorem run_typeInfo {t : Nat} {i : TypeInfo} {w : World} (h : P.info? t = some i) : (typeInfo t).run P w = .ok i w := by
  simp [typeInfo, h]

mutual
theorem ofVal_ok : ∀ (v : Value) {x : V}, ofVal v = some x → ∀ μ, VRel μ x v
  | .bool b, x, h, μ => by simp [ofVal] at h; subst h; exact .b b
  | .int k n, x, h, μ => by simp [ofVal] at h; subst h; exact .i k n
  | .string s, x, h, μ => by simp only [ofVal, Option.some.injEq] at h; subst h; exact .s _ _ rfl
  | .pointer none, x, h, μ => by simp [ofVal] at h; subst h; exact .pn
  | .slice none 0 0, x, h, μ => by simp [ofVal] at h; subst h; exact .sn
  | .map none, x, h, μ => by simp [ofVal] at h; subst h; exact .mn
  | .nilFunc, x, h, μ => by simp [ofVal] at h; subst h; exact .nf
  | .nilIface, x, h, μ => by simp [ofVal] at h; subst h; exact .ni
  | .agg ⟨cs⟩, x, h, μ => by
    simp only [ofVal] at h
    split at h
    · rename_i l hl
      cases h
      exact .a (ofCells_ok cs hl μ).1 (ofCells_ok cs hl μ).2
    · cases h
  | .tuple ⟨cs⟩, x, h, μ => by
    simp only [ofVal] at h
    split at h
    · rename_i l hl
      cases h
      exact .t (ofValT_ok cs hl μ)
    · cases h
  | .float _ _, x, h, μ => by simp [ofVal] at h
  | .complex _ _ _, x, h, μ => by simp [ofVal] at h
  | .pointer (some _), x, h, μ => by simp [ofVal] at h
  | .slice none 0 (_ + 1), x, h, μ => by simp [ofVal] at h
  | .slice none (_ + 1) _, x, h, μ => by simp [ofVal] at h
  | .slice (some _) _ _, x, h, μ => by simp [ofVal] at h
  | .map (some _), x, h, μ => by simp [ofVal] at h
  | .chan _, x, h, μ => by simp [ofVal] at h
  | .func _ _ _, x, h, μ => by simp [ofVal] at h
  | .iface _ _, x, h, μ => by simp [ofVal] at h
theorem ofCells_ok : ∀ (l : List Value) {x : List V}, ofCells l = some x → ∀ μ, VRs μ x l ∧ oneCells l
  | [], x, h, μ => by simp [ofCells] at h; subst h; exact ⟨.nil, by simp [oneCells]⟩
  | v :: r, x, h, μ => by
    simp only [ofCells] at h
    cases hv : oneV v with
    | false => rw [hv] at h; simp at h
    | true =>
      rw [hv] at h
      simp only [cond_true] at h
      split at h
      · rename_i a l ha hl
        cases h
        refine ⟨.cons (ofVal_ok v ha μ) (ofCells_ok r hl μ).1, ?_⟩
        intro y hy
        rcases List.mem_cons.1 hy with rfl | hy
        · cases y <;> first | rfl | simp [oneV] at hv
        · exact (ofCells_ok r hl μ).2 y hy
      · cases h
theorem ofValT_ok : ∀ (l : List Value) {x : List V}, ofVals l = some x → ∀ μ, VRs μ x l
  | [], x, h, μ => by simp [ofVals] at h; subst h; exact .nil
  | v :: r, x, h, μ => by
    simp only [ofVals] at h
    split at h
    · rename_i a l ha hl
      cases h
      exact .cons (ofVal_ok v ha μ) (ofValT_ok r hl μ)
    · cases h
end
theorem tInfo_ok {T : TT} (hT : TOk P T) {t : Nat} {ti : TI} (h : tInfo T t = some ti) :
    ∃ i z d, P.info? t = some i ∧ i.zero = some z ∧ ofVal z = some ti.zero ∧ i.size = ti.sz ∧ i.bytes = ti.by_ ∧ 0 < ti.sz ∧ 0 < ti.by_ ∧
      P.underlying t = some d ∧ ti.g = isG (some d) ∧ ti.zero.cs? = some ti.zc ∧ ti.zc.length = ti.sz := by
  unfold tInfo at h
  split at h
  · rename_i i hi
    split at h
    · rename_i z hz
      split at h
      · rename_i x hx
        split at h
        · rename_i d hd
          split at h
          · rename_i zc hzc
            cases hb : (Nat.blt 0 i.size && Nat.blt 0 i.bytes && Nat.beq (vlen zc 0) i.size) with
            | false => rw [hb] at h; simp at h
            | true =>
              rw [hb] at h
              simp only [cond_true, Option.some.injEq] at h
              subst h
              simp only [Bool.and_eq_true, vlen_eq, Nat.add_zero, Nat.beq_eq] at hb
              exact ⟨i, z, d, hT.ty t i hi, hz, hx, rfl, rfl, by simpa using hb.1.1, by simpa using hb.1.2, tUnd_ok hT hd, rfl, hzc, hb.2⟩
          · cases h
        · cases h
      · cases h
    · cases h
  · cases h
theorem run_sizeOf {T : TT} (hT : TOk P T) {t : Nat} {ti : TI} (h : tInfo T t = some ti) (w : World) : (Go.sizeOf t).run P w = .ok ti.sz w := by
  obtain ⟨i, z, d, hi, hz, hx, hs, _⟩ := tInfo_ok hT h
  simp [Go.sizeOf, run_typeInfo hi, hs]
theorem run_isAgg {T : TT} (hT : TOk P T) {t : Nat} {ti : TI} (h : tInfo T t = some ti) (w : World) : (isAgg t).run P w = .ok ti.g w := by
  obtain ⟨i, z, d, hi, hz, hx, hs, hb, h0, h1, hd, hg, _⟩ := tInfo_ok hT h
  simp only [isAgg, Sem.run_bind, run_underlying hd, Result.andThen_ok, hg]
  cases d <;> rfl
theorem run_zeroValue {T : TT} (hT : TOk P T) {t : Nat} {ti : TI} (h : tInfo T t = some ti) (w : World) :
    ∃ z, (zeroValue t).run P w = .ok z w ∧ (∀ μ, VRel μ ti.zero z) ∧ (∀ μ, VRs μ ti.zc z.cells.toList) ∧ oneCells z.cells.toList ∧ z.cells.size = ti.sz := by
  obtain ⟨i, z, d, hi, hz, hx, _, _, _, _, _, _, hc, hl⟩ := tInfo_ok hT h
  have h1 := fun μ => (ofVal_ok z hx μ).cells hc
  refine ⟨z, by simp [zeroValue, run_typeInfo hi, hz], fun μ => ofVal_ok z hx μ, fun μ => (h1 μ).1, (h1 (fun _ => none)).2, ?_⟩
  rw [← Array.length_toList, ← (h1 (fun _ => none)).1.length, hl]

/-! One operation -/
structure FrW (w₀ : Nat) (μ : Mp) (h : H) (w : World) (μ' : Mp) (h' : H) (w' : World) : Prop where
  ext : Ext μ μ'
  n : h.n ≤ h'.n
  size : w.heap.size ≤ w'.heap.size
  keep : ∀ c, c < w₀ → ¬ Live μ h c → w'.heap[c]? = w.heap[c]?
  live : ∀ c, Live μ' h' c → Live μ h c ∨ w₀ ≤ c
  tape : w'.tape = w.tape
  os : w'.os = w.os
  out : w'.output = w.output
  g : h'.g = h.g
theorem FrW.refl (w₀ : Nat) (μ : Mp) (h : H) (w : World) : FrW w₀ μ h w μ h w := ⟨Ext.refl _, Nat.le_refl _, Nat.le_refl _, fun _ _ _ => rfl, fun _ h => .inl h, rfl, rfl, rfl, rfl⟩
theorem FrW.trans {w₀ : Nat} {μ h w μ' h' w' μ'' h'' w''} (a : FrW w₀ μ h w μ' h' w') (b : FrW w₀ μ' h' w' μ'' h'' w'') : FrW w₀ μ h w μ'' h'' w'' where
  ext := a.ext.trans b.ext
  n := Nat.le_trans a.n b.n
  size := Nat.le_trans a.size b.size
  keep c hc hl := by
    have h1 : ¬ Live μ' h' c := fun hl' => (a.live c hl').elim hl fun h => by omega
    rw [b.keep c hc h1, a.keep c hc hl]
  live c hl := (b.live c hl).elim (fun h => a.live c h) fun h => .inr h
  tape := b.tape.trans a.tape
  os := b.os.trans a.os
  out := b.out.trans a.out
  g := b.g.trans a.g
theorem Fr.weak {w₀ : Nat} {μ h w μ' h' w'} (a : Fr μ h w μ' h' w') (hw : w₀ ≤ w.heap.size) : FrW w₀ μ h w μ' h' w' :=
  ⟨a.ext, a.n, a.size, fun c hc hl => a.keep c (by omega) hl, fun c hl => (a.live c hl).imp id fun h => by omega, a.tape, a.os, a.out, a.g⟩
theorem LRel.frame {κ : Lm} {ls : Ls} {h h' : H} {w w' : World} {w₀ : Nat} {μ' : Mp} (hL : LRel μ κ ls h w w₀) (f : Fr μ h w μ' h' w') : LRel μ' κ ls h' w' w₀ := by
  refine ⟨fun s cs hs => ?_, hL.inj, by rw [f.g]; exact hL.glo⟩
  obtain ⟨c, hc, hr, hl, hw⟩ := hL.blk s cs hs
  refine ⟨c, hc, hr.mono f.ext (f.keep c hr.lt hl), fun hl' => ?_, hw⟩
  rcases f.live c hl' with h1 | h1
  · exact hl h1
  · have := hr.lt; omega

structure ORel (kd : List Kd) (c : Ctx) (μ : Mp) (κ : Lm) (vs ts : List V) (ls : Ls) (ev : Operand → Value) (xs : Operand → Prop) : Prop where
  v : ∀ o X, xs o → opd kd c o = some X → VRel μ (getX vs ts X) (ev o)
  l : ∀ o s d p cs, xs o → lpl false kd c o = some (s, d) → place ts d = some p → slot ls s = some cs → ∃ b, κ s = some b ∧ ev o = .pointer (some ⟨b, p, none⟩)
  sl : ∀ o s d p n cs, xs o → lpl true kd c o = some (s, some d) → lget ts d = .lsl p n → slot ls s = some cs →
    ∃ b q k, κ s = some b ∧ ev o = .slice (some ⟨b, q, none⟩) n k ∧ (k = 0 ∨ q = p) ∧ n ≤ k
/-- what an operation's result is to the machine's -/
def RR (μ : Mp) (κ : Lm) (rt : Rt) (lk : Option Nat) (v : V) (y : Value) : Prop :=
  match lk with
  | some s => ∃ c, κ s = some c ∧ y = .pointer (some ⟨c, 0, none⟩)
  | none => match rt with
    | none => VRel μ v y
    | some (s, false) => ∀ p, v = .lp p → ∃ c, κ s = some c ∧ y = .pointer (some ⟨c, p, none⟩)
    | some (s, true) => ∀ p n, v = .lsl p n → ∃ c q k, κ s = some c ∧ y = .slice (some ⟨c, q, none⟩) n k ∧ (k = 0 ∨ q = p) ∧ n ≤ k
def boxed : O → Option Nat
  | .lal s _ => some s
  | .lbx s _ => some s
  | _ => none
def lays : O → Option Nat
  | .lal s _ => some s
  | .lbx s _ => some s
  | .lbs s _ _ _ _ => some s
  | _ => none
structure Cx (P : Program) (T : TT) (kd : List Kd) (c : Ctx) (μ : Mp) (κ : Lm) (vs ts : List V) (ls : Ls) (h : H) (w : World) (w₀ : Nat) (ev : Operand → Value) (xs : Operand → Prop) : Prop where
  T : TOk P T
  O : ORel kd c μ κ vs ts ls ev xs
  H : HRel μ h w
  L : LRel μ κ ls h w w₀
  w : w₀ ≤ w.heap.size
def Res (μ : Mp) (κ : Lm) (h : H) (w : World) (w₀ : Nat) (op : O) (rt : Rt) (v : V) (ls' : Ls) (h' : H) (y : Value) (w' : World) : Prop :=
  ∃ μ' κ', HRel μ' h' w' ∧ LRel μ' κ' ls' h' w' w₀ ∧ FrW w₀ μ h w μ' h' w' ∧ RR μ' κ' rt (boxed op) v y ∧ ∀ s, lays op ≠ some s → κ' s = κ s
abbrev LetsOutT (_ : Exit → Act → World → Prop) : Prop := True
def Does (P : Program) (o : Oper) (ev : Operand → Value) (w : World) (R : Value → World → Prop) : Prop :=
  (∃ y w', R y w' ∧ ((execOp ev o).run P w = .ok (.value y) w' ∨ ((execOp ev o).run P w = .ok .skip w' ∧ y = Go.undef))) ∨
  ∃ f args w1, (execOp ev o).run P w = .ok (.enter f args) w1 ∧ Calls P f args w1 fun
    | .returned y, w' => R y w'
    | .outgrown, _ => False
    | .panicked _, _ => False
theorem Does.wp {o : Oper} {a : Act} {w : World} {R : Value → World → Prop} {next : Act → World → Prop} {Q : Exit → Act → World → Prop}
    (h : Does P o a.eval w R) (hn : ∀ y w', R y w' → next (a.put o.dst y) w') (_hq : LetsOutT Q) : o.wp P a w next Q := by
  unfold Oper.wp
  rcases h with ⟨y, w', hr, h | ⟨h, rfl⟩⟩ | ⟨f, args, w1, h, hc⟩
  · rw [h]; exact hn _ _ hr
  · rw [h]; exact hn _ _ hr
  · rw [h]
    refine Calls.mono hc fun e w' he => ?_
    cases e with
    | returned y => exact hn _ _ he
    | panicked ch => exact he.elim
    | outgrown => exact he.elim
def OpOK (P : Program) (T : TT) (call : CallT) (o : Oper) : Prop :=
  ∀ kd c μ κ vs ts ls h w w₀ ev v ls' h', Cx P T kd c μ κ vs ts ls h w w₀ ev (· ∈ o.op.operands) → evO call vs ts ls h (compO T kd c o).1 = .ok v ls' h' →
    Does P o ev w (Res μ κ h w w₀ (compO T kd c o).1 (compO T kd c o).2 v ls' h')
section
variable {T : TT} {kd : List Kd} {c : Ctx} {κ : Lm} {vs ts : List V} {ls ls' : Ls} {h h' : H} {w w' : World} {w₀ : Nat} {ev : Operand → Value} {xs : Operand → Prop} {o : Oper} {op : O} {v : V} {y : Value}
/-- nothing is changed -/
theorem Does.pure (hx : Cx P T kd c μ κ vs ts ls h w w₀ ev xs) (hv : VRel μ v y) (hb : boxed op = none) (hr : (execOp ev o).run P w = .ok (.value y) w) :
    Does P o ev w (Res μ κ h w w₀ op none v ls h) :=
  .inl ⟨y, w, ⟨μ, κ, hx.H, hx.L, FrW.refl _ _ _ _, by rw [hb]; exact hv, fun _ _ => rfl⟩, .inl hr⟩
/-- the heap is changed -/
theorem Does.heap {μ' : Mp} (hx : Cx P T kd c μ κ vs ts ls h w w₀ ev xs) (hH : HRel μ' h' w') (hf : Fr μ h w μ' h' w') (hv : VRel μ' v y) (hb : boxed op = none)
    (hr : (execOp ev o).run P w = .ok (.value y) w' ∨ ((execOp ev o).run P w = .ok .skip w' ∧ y = Go.undef)) :
    Does P o ev w (Res μ κ h w w₀ op none v ls h') :=
  .inl ⟨y, w', ⟨μ', κ, hH, hx.L.frame hf, hf.weak hx.w, by rw [hb]; exact hv, fun _ _ => rfl⟩, hr⟩
end
end Am
namespace Am
open Go

theorem ieq_eq (x y : Int) : ieq x y = (x == y) := by
  cases x <;> cases y <;> simp [ieq] <;> (rw [Bool.eq_iff_iff]; simp [Nat.beq_eq]) <;> omega
theorem ilt_eq (x y : Int) : ilt x y = decide (x < y) := by
  rw [Bool.eq_iff_iff]
  cases x <;> cases y <;> simp only [ilt, decide_eq_true_eq, Nat.blt_eq, Int.ofNat_eq_natCast, Int.negSucc_eq, Bool.false_eq_true, true_iff, false_iff] <;> omega
theorem keq_eq (j k : IntKind) : keq j k = decide (j = k) := by cases j <;> cases k <;> rfl
theorem klim_signed (k : IntKind) (h : k.signed = true) : klim k = 2 ^ (k.bits - 1) := by cases k <;> first | rfl | cases h
theorem klim_unsigned (k : IntKind) (h : k.signed = false) : klim k = 2 ^ k.bits := by cases k <;> first | rfl | cases h
theorem ksg_eq (k : IntKind) : ksg k = k.signed := by cases k <;> rfl
theorem bits_pos (k : IntKind) : 0 < k.bits := by cases k <;> decide
theorem wr_eq (k : IntKind) (n : Int) : wr k n = k.wrap n := by
  have hp := bits_pos k
  have hM : (2 : Int) ^ k.bits = 2 * 2 ^ (k.bits - 1) := by
    have : k.bits = (k.bits - 1) + 1 := by omega
    rw [this, Int.pow_succ]; simp; omega
  have hL : (0 : Int) < 2 ^ (k.bits - 1) := Int.pow_pos (by omega)
  cases n with
  | ofNat a =>
    simp only [wr]
    cases hb : Nat.blt a (klim k) with
    | false => rfl
    | true =>
      have ha : a < klim k := by simpa using hb
      simp only [cond_true]
      cases hs : k.signed with
      | true =>
        rw [klim_signed k hs] at ha
        have ha' : (a : Int) < 2 ^ (k.bits - 1) := by exact_mod_cast ha
        simp only [IntKind.wrap, hs, Bool.true_and, Int.ofNat_eq_natCast]
        simp only [Int.emod_eq_of_lt (by omega : 0 ≤ (a : Int)) (by omega : (a : Int) < 2 ^ k.bits)]
        rw [if_neg (by simp; omega)]
      | false =>
        rw [klim_unsigned k hs] at ha
        have ha' : (a : Int) < 2 ^ k.bits := by exact_mod_cast ha
        simp only [IntKind.wrap, hs, Bool.false_and, Int.ofNat_eq_natCast]
        simp only [Int.emod_eq_of_lt (by omega : 0 ≤ (a : Int)) (by omega : (a : Int) < 2 ^ k.bits)]
        simp
  | negSucc a =>
    simp only [wr]
    rw [ksg_eq]
    cases hs : k.signed with
    | false => rfl
    | true =>
      simp only [Bool.true_and]
      cases hb : Nat.blt a (klim k) with
      | false => rfl
      | true =>
        have ha : a < klim k := by simpa using hb
        rw [klim_signed k hs] at ha
        have ha' : (a : Int) < 2 ^ (k.bits - 1) := by exact_mod_cast ha
        simp only [cond_true, IntKind.wrap, hs, Bool.true_and]
        have : (Int.negSucc a) % 2 ^ k.bits = 2 ^ k.bits - (a + 1) := by
          rw [← Int.add_emod_right, Int.emod_eq_of_lt] <;> rw [Int.negSucc_eq] <;> omega
        simp only [this]
        rw [if_pos (by simp; omega), Int.negSucc_eq]
        omega
theorem kmod_eq (k : IntKind) : kmod k = 2 ^ k.bits := by cases k <;> rfl
theorem ofInt_nat (n a : Nat) : (BitVec.ofInt n (Int.ofNat a)) = BitVec.ofNat n a := by
  simp
theorem bitsOp_eq (op : BinOp) (k : IntKind) (x y r : Int) (h : bitsOp op k x y = some r) (P : Program) (w : World) :
    (Op.intBits op k x y).run P w = .ok (.int k r) w := by
  have slow : ∀ x y : Int, bitsSlow op k x y = some r → (Op.intBits op k x y).run P w = .ok (.int k r) w := by
    intro x y h
    cases op <;> simp [bitsSlow] at h <;> subst h <;> simp [Op.intBits]
  cases x with
  | negSucc a => exact slow _ _ h
  | ofNat a =>
  cases y with
  | negSucc b => exact slow _ _ h
  | ofNat b =>
    simp only [bitsOp] at h
    cases hb : (Nat.blt a (kmod k) && Nat.blt b (kmod k)) with
    | false => rw [hb] at h; simp at h
    | true =>
      rw [hb] at h
      rw [Bool.and_eq_true] at hb
      have ha : a < 2 ^ k.bits := by have := hb.1; rw [kmod_eq] at this; simpa using this
      have hb' : b < 2 ^ k.bits := by have := hb.2; rw [kmod_eq] at this; simpa using this
      simp only [cond_true] at h
      apply slow
      rw [← h]
      cases op <;> simp only [wr_eq] <;> try rfl
      · simp only [bitsSlow]
        congr 2
        simp only [ofInt_nat, BitVec.toNat_and, BitVec.toNat_ofNat, Nat.mod_eq_of_lt ha, Nat.mod_eq_of_lt hb']; rfl
      · simp only [bitsSlow]
        congr 2
        simp only [ofInt_nat, BitVec.toNat_or, BitVec.toNat_ofNat, Nat.mod_eq_of_lt ha, Nat.mod_eq_of_lt hb']; rfl
      · simp only [bitsSlow]
        congr 2
        simp only [ofInt_nat, BitVec.toNat_xor, BitVec.toNat_ofNat, Nat.mod_eq_of_lt ha, Nat.mod_eq_of_lt hb']; rfl
      · simp only [bitsSlow]
        congr 2
        simp only [ofInt_nat, BitVec.toNat_and, BitVec.toNat_not, BitVec.toNat_ofNat, Nat.mod_eq_of_lt ha, Nat.mod_eq_of_lt hb', kmod_eq]
        have : Nat.xor (2 ^ k.bits - 1) b = 2 ^ k.bits - 1 - b := by
          show (2 ^ k.bits - 1) ^^^ b = _
          apply Nat.eq_of_testBit_eq
          intro i
          rw [Nat.testBit_xor, Nat.testBit_two_pow_sub_one, Nat.sub_sub, Nat.add_comm 1 b, Nat.testBit_two_pow_sub_succ hb']
          by_cases hi : i < k.bits
          · simp [hi]
          · simp [hi]
            exact Nat.testBit_lt_two_pow (Nat.lt_of_lt_of_le hb' (Nat.pow_le_pow_right (by omega) (by omega)))
        rw [this]; rfl
theorem slt_eq : ∀ x y : List UInt8, Op.bytesLess x y = slt (x.map UInt8.toNat) (y.map UInt8.toNat)
  | _, [] => by cases ‹List UInt8› <;> simp [Op.bytesLess, slt]
  | [], _ :: _ => by simp [Op.bytesLess, slt]
  | a :: x, b :: y => by
    simp only [Op.bytesLess, slt, List.map_cons, slt_eq x y]
    congr 1
    · rw [Bool.eq_iff_iff]; simp [UInt8.lt_iff_toNat_lt]
    · congr 1
      rw [Bool.eq_iff_iff]; simp [Nat.beq_eq, UInt8.toNat_inj]
theorem seq_eq : ∀ x y : List UInt8, seq (x.map UInt8.toNat) (y.map UInt8.toNat) = (x == y)
  | [], [] => rfl
  | [], _ :: _ => rfl
  | _ :: _, [] => rfl
  | a :: x, b :: y => by
    simp only [seq, List.map_cons, seq_eq x y]
    rw [Bool.eq_iff_iff]; simp [Nat.beq_eq, UInt8.toNat_inj]
theorem seq_self (x y : List Nat) : seq x y = (x == y) := by
  induction x generalizing y with
  | nil => cases y <;> rfl
  | cons a x ih => cases y with
    | nil => rfl
    | cons b y => simp only [seq, ih]; rw [Bool.eq_iff_iff]; simp [Nat.beq_eq]
end Am
namespace Am
open Go
variable {P : Program} {μ : Mp}

theorem toList_bytes (s : ByteArray) : s.toList = s.data.toList := by rw [ByteArray.toList_eq]
def CkT (T : TT) (t : Nat) : Ck → Prop
  | .b => tUnd T t = some .bool
  | .i => ∃ j, tUnd T t = some (.int j)
  | .s => tUnd T t = some .string
theorem ceq_ok {T : TT} (hT : TOk P T) {k : Ck} {x y : V} {r : Bool} (h : ceq k x y = some r) {x' y' : Value} (hx : VRel μ x x') (hy : VRel μ y y') {t d : Nat}
    (ht : CkT T t k) (w : World) :
    (Op.equalIn (d + 1) t x' y').run P w = .ok r w := by
  cases k with
  | b =>
    cases x <;> simp [ceq] at h
    cases y <;> simp at h
    cases hx; cases hy
    rename_i a b
    rw [run_equalIn_bool' w d t _ _ (tUnd_ok hT ht), ← h]
    cases a <;> cases b <;> rfl
  | i =>
    obtain ⟨j, ht⟩ := ht
    cases x <;> simp [ceq] at h
    cases y <;> simp at h
    cases hx; cases hy
    rename_i k a k' b
    rw [keq_eq] at h
    by_cases e : k = k'
    · subst e
      simp at h
      rw [run_equalIn_int w d t _ j _ _ (tUnd_ok hT ht), ← h, ieq_eq]
    · simp [e] at h
  | s =>
    cases x <;> simp [ceq] at h
    cases y <;> simp at h
    cases hx with | s l a ha =>
    cases hy with | s l' b hb =>
    rw [run_equalIn_string w d t _ _ (tUnd_ok hT ht), ← h, ← ha, ← hb, seq_eq, toList_bytes, toList_bytes]

theorem csEq_append {ks ks' : List Ck} {xs xs' ys ys' : List V} {r : Bool} (hx : xs.length = ks.length) (hy : ys.length = ks.length)
    (h : csEq (ks ++ ks') (xs ++ xs') (ys ++ ys') = some r) : ∃ r1 r2, csEq ks xs ys = some r1 ∧ csEq ks' xs' ys' = some r2 ∧ r = (r1 && r2) := by
  induction ks generalizing xs ys r with
  | nil =>
    cases xs <;> simp at hx
    cases ys <;> simp at hy
    exact ⟨true, r, rfl, h, by simp⟩
  | cons k ks ih =>
    cases xs with
    | nil => simp at hx
    | cons x xs =>
      cases ys with
      | nil => simp at hy
      | cons y ys =>
        simp only [List.cons_append, csEq] at h ⊢
        cases hc : ceq k x y with
        | none => rw [hc] at h; simp at h
        | some r0 =>
          rw [hc] at h
          simp only at h ⊢
          cases hr : csEq (ks ++ ks') (xs ++ xs') (ys ++ ys') with
          | none => rw [hr] at h; simp at h
          | some r' =>
            rw [hr] at h
            simp only [Option.some.injEq] at h
            obtain ⟨r1, r2, h1, h2, rfl⟩ := ih (by simpa using hx) (by simpa using hy) hr
            exact ⟨r0 && r1, r2, by rw [h1], h2, by rw [← h, Bool.and_assoc]⟩

/-- a value of a flat type out of its cells -/
def packG (g : Bool) (l : List Value) : Value := if g then .agg l.toArray else l.headD Go.undef

/-- a part of an aggregate's cells -/
theorem run_part {T : TT} (hT : TOk P T) {t : Nat} {ti : TI} (h : tInfo T t = some ti) (l : List Value) (o : Nat) (hl : o + ti.sz ≤ l.length) (hg : ti.g = false → ti.sz = 1) (w : World) :
    (Go.part t l.toArray o).run P w = .ok (packG ti.g ((l.drop o).take ti.sz)) w := by
  simp only [Go.part, Sem.run_bind, run_isAgg hT h, Result.andThen_ok]
  cases hb : ti.g with
  | true =>
    simp only [if_true, Sem.run_bind, run_sizeOf hT h, Result.andThen_ok, Sem.run_pure, packG]
    congr 2
    simp
  | false =>
    have h1 := hg hb
    rw [h1] at hl ⊢
    simp only [Bool.false_eq_true, if_false]
    have : l.toArray[o]? = some (l[o]'(by omega)) := by simp
    rw [this]
    simp only [Sem.run_pure, packG, Bool.false_eq_true, if_false]
    congr 1
    rw [List.drop_eq_getElem_cons (by omega)]
    rfl
theorem VRs.packG {g : Bool} {x : List V} {y : List Value} (h : VRs μ x y) (h1 : oneCells y) (hg : g = false → x.length = 1) :
    ∃ v, mkV g x = some v ∧ VRel μ v (Am.packG g y) := by
  cases g with
  | true => exact ⟨.a x, rfl, .a (by simpa using h) (by simpa [oneCells] using h1)⟩
  | false =>
    match x, hg rfl with
    | [a], _ =>
      cases h with | cons h h' => cases h'; exact ⟨a, rfl, h⟩

/-- equality at a flat type -/
def EqAtF (P : Program) (T : TT) (D t : Nat) (ks : List Ck) : Prop :=
  ∀ (μ : Mp) (w : World) (xs ys : List V) (xs' ys' : List Value) (r : Bool), VRs μ xs xs' → VRs μ ys ys' → oneCells xs' → oneCells ys' → xs.length = ks.length → ys.length = ks.length →
    csEq ks xs ys = some r → (Op.equalIn D t (packG (isG (tUnd T t)) xs') (packG (isG (tUnd T t)) ys')).run P w = .ok r w
theorem tInfo_g {T : TT} {t : Nat} {ti : TI} (h : tInfo T t = some ti) : ti.g = isG (tUnd T t) := by
  unfold tInfo at h
  split at h
  · split at h
    · split at h
      · split at h
        · rename_i d hd
          split at h
          · simp only [Bool.cond_eq_ite] at h
            split at h
            · cases h; rw [hd]
            · cases h
          · cases h
        · cases h
      · cases h
    · cases h
  · cases h
theorem flat_one {T : TT} {d t : Nat} {ks : List Ck} (h : flat T d t = some ks) (hg : isG (tUnd T t) = false) : ks.length = 1 := by
  cases d with
  | zero => simp [flat] at h
  | succ d =>
    unfold flat at h
    cases hu : tUnd T t with
    | none => simp [hu] at h
    | some k => rw [hu] at h hg; cases k <;> simp [isG] at h hg <;> subst h <;> rfl
theorem len_split {α : Type} (l : List α) (o n : Nat) : l.drop o = (l.drop o).take n ++ l.drop (o + n) := by
  rw [← List.drop_drop, List.take_append_drop]
theorem part_eqF {T : TT} (hT : TOk P T) {D e : Nat} {ks : List Ck} {ti : TI} (hi : tInfo T e = some ti) (hs : ti.sz = ks.length) (hf : isG (tUnd T e) = false → ks.length = 1) (ih : EqAtF P T D e ks) {μ : Mp} (w : World)
    {xs ys : List V} {xs' ys' : List Value} {r : Bool} (hx : VRs μ xs xs') (hy : VRs μ ys ys') (ox : oneCells xs') (oy : oneCells ys') (o : Nat)
    (hlx : o + ks.length ≤ xs.length) (hly : o + ks.length ≤ ys.length) (hr : csEq ks ((xs.drop o).take ks.length) ((ys.drop o).take ks.length) = some r) :
    ∃ a b, (Go.part e xs'.toArray o).run P w = .ok a w ∧ (Go.part e ys'.toArray o).run P w = .ok b w ∧ (Op.equalIn D e a b).run P w = .ok r w := by
  have hg := tInfo_g hi
  have h1 : ti.g = false → ti.sz = 1 := fun h => by rw [hs]; exact hf (by rw [← hg]; exact h)
  refine ⟨_, _, run_part hT hi xs' o (by rw [hs, ← hx.length]; exact hlx) h1 w, run_part hT hi ys' o (by rw [hs, ← hy.length]; exact hly) h1 w, ?_⟩
  rw [hg, hs]
  refine ih μ w _ _ _ _ r ((hx.drop o).take _) ((hy.drop o).take _) ?_ ?_ ?_ ?_ hr
  · intro y h; exact ox y (List.mem_of_mem_drop (List.mem_of_mem_take h))
  · intro y h; exact oy y (List.mem_of_mem_drop (List.mem_of_mem_take h))
  · simp; omega
  · simp; omega
theorem flat_ok {T : TT} (hT : TOk P T) : ∀ (d t : Nat) (ks : List Ck), flat T d t = some ks → ∀ D, d ≤ D → EqAtF P T D t ks := by
  intro d
  induction d with
  | zero => intro t ks h; simp [flat] at h
  | succ d ih =>
    intro t ks h D hD μ w xs ys xs' ys' r hx hy ox oy hlx hly hr
    obtain ⟨D, rfl⟩ : ∃ e, D = e + 1 := ⟨D - 1, by omega⟩
    have scalar : ∀ k, ks = [k] → CkT T t k → isG (tUnd T t) = false → (Op.equalIn (D + 1) t (packG (isG (tUnd T t)) xs') (packG (isG (tUnd T t)) ys')).run P w = .ok r w := by
      intro k hk hc hg
      subst hk
      match xs, hlx with
      | [x], _ =>
        match ys, hly with
        | [y], _ =>
          cases hx with | cons hx hx' =>
          cases hx'
          cases hy with | cons hy hy' =>
          cases hy'
          simp only [csEq] at hr
          cases hc' : ceq k x y with
          | none => rw [hc'] at hr; simp at hr
          | some r0 =>
            rw [hc'] at hr
            simp at hr
            subst hr
            rw [hg]
            exact ceq_ok hT hc' hx hy hc w
    unfold flat at h
    cases hu : tUnd T t with
    | none => simp [hu] at h
    | some k =>
      rw [hu] at h
      cases k <;> simp only [reduceCtorEq] at h
      case bool => cases h; rw [← hu]; exact scalar .b rfl hu (by rw [hu]; rfl)
      case int j => cases h; rw [← hu]; exact scalar .i rfl ⟨j, hu⟩ (by rw [hu]; rfl)
      case string => cases h; rw [← hu]; exact scalar .s rfl hu (by rw [hu]; rfl)
      case struct fs =>
        cases hsh : T.sh t with
        | false => rw [hsh] at h; simp at h
        | true =>
          rw [hsh] at h
          simp only [cond_true] at h
          have hP := tUnd_ok hT hu
          have hfo : P.fieldsOf t = fs := by simp [Program.fieldsOf, hP]
          simp only [packG, isG, if_true]
          rw [run_equalIn_struct w D t _ _ (by rw [hfo]; exact hP) (hT.sh t hsh), hfo]
          have key : ∀ (l : List Field) (o : Nat) (ks : List Ck) (r : Bool), flatFs (flat T d) T l o = some ks → xs.length = o + ks.length → ys.length = o + ks.length →
              csEq ks (xs.drop o) (ys.drop o) = some r → (Op.eqFields D xs'.toArray ys'.toArray l).run P w = .ok r w := by
            intro l
            induction l with
            | nil =>
              intro o ks r h h1 h2 h3
              simp [flatFs] at h
              subst h
              simp at h1 h2
              rw [← h1, List.drop_length, h1, ← h2, List.drop_length] at h3
              simp [csEq] at h3
              subst h3
              simp [Op.eqFields]
            | cons f l ihl =>
              intro o ks r h h1 h2 h3
              simp only [flatFs] at h
              split at h
              · rename_i kf ti hkf hti
                cases hb : ((f.name != "_") && Nat.beq f.offset o && Nat.beq ti.sz kf.length) with
                | false => rw [hb] at h; simp at h
                | true =>
                  rw [hb] at h
                  simp only [Bool.and_eq_true, bne_iff_ne, ne_eq, Nat.beq_eq] at hb
                  obtain ⟨⟨hn, hoff⟩, hsz⟩ := hb
                  simp only [cond_true] at h
                  split at h
                  · rename_i kr hkr
                    cases h
                    simp only [List.length_append] at h1 h2
                    rw [len_split xs o kf.length, len_split ys o kf.length] at h3
                    obtain ⟨r1, r2, e1, e2, rfl⟩ := csEq_append (by simp; omega) (by simp; omega) h3
                    obtain ⟨a, b, p1, p2, p3⟩ := part_eqF hT hti hsz (flat_one hkf) (ih f.type kf hkf D (by omega)) w hx hy ox oy o (by omega) (by omega) e1
                    have ihr := ihl (o + kf.length) kr r2 hkr (by omega) (by omega) e2
                    simp only [Op.eqFields, hn, ne_eq, not_false_eq_true, if_true, Sem.run_bind, hoff, p1, p2, p3, Result.andThen_ok]
                    cases r1
                    · simp
                    · simpa using ihr
                  · cases h
              · cases h
          exact key fs.toList 0 ks r h (by omega) (by omega) (by simpa using hr)
      case array n e =>
        split at h
        · rename_i kl ti hkl hti
          cases hb : Nat.beq ti.sz kl.length with
          | false => rw [hb] at h; simp at h
          | true =>
            rw [hb] at h
            have hsz : ti.sz = kl.length := by simpa [Nat.beq_eq] using hb
            simp only [cond_true, Option.some.injEq] at h
            subst h
            have hP := tUnd_ok hT hu
            obtain ⟨i, z, dd, hi, _, _, his, _⟩ := tInfo_ok hT hti
            have hce : P.cellsOf e = kl.length := by simp [Program.cellsOf, hi, his, hsz]
            simp only [packG, isG, if_true]
            rw [run_equalIn_array w D _ _ hP hi, hce]
            have key : ∀ (m o : Nat) (r : Bool), o + m = n → csEq (List.replicate m kl).flatten (xs.drop (o * kl.length)) (ys.drop (o * kl.length)) = some r →
                (Op.eqItems D e kl.length xs'.toArray ys'.toArray (List.range' o m)).run P w = .ok r w := by
              intro m
              induction m with
              | zero =>
                intro o r hom h3
                have hx0 : xs.length = o * kl.length := by rw [hlx]; simp; rw [← hom]; simp
                have hy0 : ys.length = o * kl.length := by rw [hly]; simp; rw [← hom]; simp
                rw [← hx0, List.drop_length, hx0, ← hy0, List.drop_length] at h3
                simp [csEq] at h3
                subst h3
                simp [Op.eqItems]
              | succ m ihm =>
                intro o r hom h3
                have hx0 : xs.length = (o + (m + 1)) * kl.length := by rw [hlx]; simp; rw [← hom]
                have hy0 : ys.length = (o + (m + 1)) * kl.length := by rw [hly]; simp; rw [← hom]
                have hmul : (o + (m + 1)) * kl.length = o * kl.length + (m * kl.length + kl.length) := by rw [Nat.add_mul, Nat.succ_mul]
                rw [List.replicate_succ, List.flatten_cons, len_split xs (o * kl.length) kl.length, len_split ys (o * kl.length) kl.length] at h3
                obtain ⟨r1, r2, e1, e2, rfl⟩ := csEq_append (by simp; omega) (by simp; omega) h3
                obtain ⟨a, b, p1, p2, p3⟩ := part_eqF hT hti hsz (flat_one hkl) (ih e kl hkl D (by omega)) w hx hy ox oy (o * kl.length) (by omega) (by omega) e1
                have ihr := ihm (o + 1) r2 (by omega) (by rw [Nat.succ_mul]; exact e2)
                rw [List.range'_succ]
                simp only [Op.eqItems, Sem.run_bind, p1, p2, p3, Result.andThen_ok]
                cases r1
                · simp
                · simpa using ihr
            rw [List.range_eq_range']
            exact key n 0 r (by omega) (by simpa using hr)
        · cases h
end Am
namespace Am
open Go
variable {P : Program} {T : TT} {call : CallT} {μ : Mp}

theorem Rs.of_ok {ls ls' : Ls} {h h' : H} {x : Option V} {v : V} (e : Rs.of ls h x = .ok v ls' h') : x = some v ∧ ls' = ls ∧ h' = h := by
  cases x <;> simp [Rs.of] at e
  obtain ⟨rfl, rfl, rfl⟩ := e
  exact ⟨rfl, rfl, rfl⟩

theorem ok_move (d : Option Nat) (x : Operand) (ty : Nat) (pos : String) (af : Array Edge) (g : Option (Nat × Bool)) : OpOK P T call ⟨d, .move x, ty, pos, af, g⟩ := by
  intro kd c μ κ vs ts ls h w w₀ ev v ls' h' hx he
  simp only [compO] at he ⊢
  cases hX : opd kd c x with
  | none => simp [o?, hX, evO, e_no] at he
  | some X =>
    simp only [o?, hX, evO, e_mv, Rs.ok.injEq] at he ⊢
    obtain ⟨rfl, rfl, rfl⟩ := he
    exact Does.pure hx (hx.O.v _ _ (by simp [Op.operands]) hX) rfl rfl
theorem ok_assign (d : Option Nat) (x : Operand) (ty : Nat) (pos : String) (af : Array Edge) (g : Option (Nat × Bool)) : OpOK P T call ⟨d, .assign x, ty, pos, af, g⟩ := by
  intro kd c μ κ vs ts ls h w w₀ ev v ls' h' hx he
  simp only [compO] at he ⊢
  cases hX : opd kd c x with
  | none => simp [o?, hX, evO, e_no] at he
  | some X =>
    simp only [o?, hX, evO, e_mv, Rs.ok.injEq] at he ⊢
    obtain ⟨rfl, rfl, rfl⟩ := he
    exact Does.pure hx (hx.O.v _ _ (by simp [Op.operands]) hX) rfl rfl
theorem ok_pick (d : Option Nat) (x y z : Operand) (ty : Nat) (pos : String) (af : Array Edge) (g : Option (Nat × Bool)) : OpOK P T call ⟨d, .pick x y z, ty, pos, af, g⟩ := by
  intro kd c μ κ vs ts ls h w w₀ ev v ls' h' hx he
  simp only [compO] at he ⊢
  cases hX : opd kd c x with
  | none => simp [hX, evO, e_no] at he
  | some X =>
  cases hY : opd kd c y with
  | none => simp [hX, hY, evO, e_no] at he
  | some Y =>
  cases hZ : opd kd c z with
  | none => simp [hX, hY, hZ, evO, e_no] at he
  | some Z =>
    have rx := hx.O.v _ _ (by simp [Op.operands]) hX
    have ry := hx.O.v _ _ (by simp [Op.operands]) hY
    have rz := hx.O.v _ _ (by simp [Op.operands]) hZ
    simp only [hX, hY, hZ, evO, e_pick] at he ⊢
    cases hb : getX vs ts X with
    | b t =>
      rw [hb] at he rx
      simp only [Rs.ok.injEq] at he
      obtain ⟨rfl, rfl, rfl⟩ := he
      generalize hex : ev x = vx at rx
      cases rx
      refine Does.pure (y := if t then ev y else ev z) hx ?_ rfl ?_
      · cases t
        · exact rz
        · exact ry
      · cases t <;> simp [execOp, hex, asBool]
    | _ => rw [hb] at he; simp at he

theorem unOp_ok {op : UnOp} {x r : V} (e : unOp op x = some r) {y : Value} (hx : VRel μ x y) (w : World) : ∃ z, (Op.unary op y).run P w = .ok z w ∧ VRel μ r z := by
  cases x <;> simp only [unOp, reduceCtorEq] at e
  case i k n =>
    cases hx
    cases op <;> simp only [reduceCtorEq, Option.some.injEq] at e
    · subst e
      refine ⟨.int k (k.wrap (0 - n)), by simp [Op.unary, Op.intArith], ?_⟩
      rw [wr_eq]
      exact .i _ _
    · rw [Option.map_eq_some_iff] at e
      obtain ⟨r', he, rfl⟩ := e
      refine ⟨_, ?_, .i _ _⟩
      have hk : (bif ksg k then Int.negSucc 0 else Int.ofNat (kmod k - 1)) = (if k.signed then (-1 : Int) else k.max) := by
        cases k <;> rfl
      rw [hk] at he
      have := bitsOp_eq .xor k _ _ _ he P w
      simpa [Op.unary] using this
  case b x =>
    cases hx
    cases op <;> simp only [reduceCtorEq, Option.some.injEq] at e
    subst e
    exact ⟨.bool (!x), by simp [Op.unary], .b _⟩
theorem ok_unOp (d : Option Nat) (op : UnOp) (t : Nat) (x : Operand) (ty : Nat) (pos : String) (af : Array Edge) (g : Option (Nat × Bool)) : OpOK P T call ⟨d, .unOp op t x, ty, pos, af, g⟩ := by
  intro kd c μ κ vs ts ls h w w₀ ev v ls' h' hx he
  simp only [compO] at he ⊢
  cases hX : opd kd c x with
  | none => simp [o?, hX, evO, e_no] at he
  | some X =>
    simp only [o?, hX, evO, e_un] at he ⊢
    obtain ⟨e, rfl, rfl⟩ := Rs.of_ok he
    obtain ⟨z, h1, h2⟩ := unOp_ok (P := P) e (hx.O.v _ _ (by simp [Op.operands]) hX) w
    exact Does.pure hx h2 rfl (by simp [execOp, h1])

theorem shiftOp_ok {op : BinOp} {k yk : IntKind} {x y : Int} {r : V} (e : shiftOp op k x y = some r) (w : World) : ∃ z, (Op.shift op k x yk y).run P w = .ok z w ∧ VRel μ r z := by
  cases y with
  | negSucc n => simp [shiftOp] at e
  | ofNat n =>
    have hm : (bif Nat.blt n k.bits then n else k.bits) = min n k.bits := by
      cases hb : Nat.blt n k.bits with
      | true => have : n < k.bits := by simpa using hb
                simp; omega
      | false => have : ¬ n < k.bits := by intro h; rw [show Nat.blt n k.bits = true by simpa using h] at hb; cases hb
                 simp; omega
    simp only [shiftOp, hm] at e
    have hn : ¬ (Int.ofNat n < 0) := by simp
    cases op <;> simp only [reduceCtorEq, Option.some.injEq] at e <;> subst e
    · refine ⟨.int k (k.wrap (x * 2 ^ (min n k.bits))), by unfold Op.shift; rw [if_neg hn]; rfl, ?_⟩
      rw [wr_eq]
      have : Int.mul x (Int.ofNat (Nat.pow 2 (min n k.bits))) = x * 2 ^ (min n k.bits) := by
        show x * ((2 ^ (min n k.bits) : Nat) : Int) = _
        simp
      rw [this]
      exact .i _ _
    · refine ⟨.int k (x.fdiv (2 ^ (min n k.bits))), by unfold Op.shift; rw [if_neg hn]; rfl, ?_⟩
      have : Int.ofNat (Nat.pow 2 (min n k.bits)) = 2 ^ (min n k.bits) := by
        show ((2 ^ (min n k.bits) : Nat) : Int) = _
        simp
      rw [this]
      exact .i _ _
theorem arith_ok {op : BinOp} {k : IntKind} {x y : Int} {r : V} (e : arith op k x y = some r) (hs : op ≠ .shl ∧ op ≠ .shr) (t : TypeId) (w : World) :
    ∃ z, (Go.binOp op t (.int k x) (.int k y)).run P w = .ok z w ∧ VRel μ r z := by
  cases op <;> simp only [arith, Option.some.injEq] at e
  case shl => exact absurd rfl hs.1
  case shr => exact absurd rfl hs.2
  case add => subst e; exact ⟨_, by simp [Go.binOp, Op.intArith]; rfl, by rw [wr_eq]; exact .i _ _⟩
  case sub => subst e; exact ⟨_, by simp [Go.binOp, Op.intArith]; rfl, by rw [wr_eq]; exact .i _ _⟩
  case mul => subst e; exact ⟨_, by simp [Go.binOp, Op.intArith]; rfl, by rw [wr_eq]; exact .i _ _⟩
  case quo =>
    cases hb : ieq y 0 with
    | true => rw [hb] at e; simp at e
    | false =>
      rw [hb] at e
      simp at e
      subst e
      rw [ieq_eq] at hb
      have h0 : y ≠ 0 := by simpa using hb
      exact ⟨.int k (k.wrap (x.tdiv y)), by simp [Go.binOp, Op.intDiv, h0], by rw [wr_eq]; exact .i _ _⟩
  case rem =>
    cases hb : ieq y 0 with
    | true => rw [hb] at e; simp at e
    | false =>
      rw [hb] at e
      simp at e
      subst e
      rw [ieq_eq] at hb
      have h0 : y ≠ 0 := by simpa using hb
      exact ⟨.int k (x.tmod y), by simp [Go.binOp, Op.intDiv, h0], .i _ _⟩
  case and => rw [Option.map_eq_some_iff] at e; obtain ⟨r', he, rfl⟩ := e; exact ⟨_, by simpa [Go.binOp] using bitsOp_eq _ k _ _ _ he P w, .i _ _⟩
  case or => rw [Option.map_eq_some_iff] at e; obtain ⟨r', he, rfl⟩ := e; exact ⟨_, by simpa [Go.binOp] using bitsOp_eq _ k _ _ _ he P w, .i _ _⟩
  case xor => rw [Option.map_eq_some_iff] at e; obtain ⟨r', he, rfl⟩ := e; exact ⟨_, by simpa [Go.binOp] using bitsOp_eq _ k _ _ _ he P w, .i _ _⟩
  case andNot => rw [Option.map_eq_some_iff] at e; obtain ⟨r', he, rfl⟩ := e; exact ⟨_, by simpa [Go.binOp] using bitsOp_eq _ k _ _ _ he P w, .i _ _⟩
  case eql => subst e; exact ⟨_, by simp [Go.binOp, Op.intCmp]; rfl, by rw [ieq_eq]; exact .b _⟩
  case neq => subst e; exact ⟨_, by simp [Go.binOp, Op.intCmp]; rfl, by rw [ieq_eq]; exact .b _⟩
  case lss => subst e; exact ⟨_, by simp [Go.binOp, Op.intCmp]; rfl, by rw [ilt_eq]; exact .b _⟩
  case leq =>
    subst e
    refine ⟨.bool (decide (x ≤ y)), by simp [Go.binOp, Op.intCmp], ?_⟩
    rw [ilt_eq]
    have : (!decide (y < x)) = decide (x ≤ y) := by rw [Bool.eq_iff_iff]; simp
    rw [this]; exact .b _
  case gtr => subst e; exact ⟨.bool (decide (x > y)), by simp [Go.binOp, Op.intCmp], by rw [ilt_eq]; exact .b _⟩
  case geq =>
    subst e
    refine ⟨.bool (decide (x ≥ y)), by simp [Go.binOp, Op.intCmp], ?_⟩
    rw [ilt_eq]
    have : (!decide (x < y)) = decide (x ≥ y) := by rw [Bool.eq_iff_iff]; simp
    rw [this]; exact .b _
theorem binOp_ok {op : BinOp} {x y r : V} (e : binOp op x y = some r) {x' y' : Value} (hx : VRel μ x x') (hy : VRel μ y y') (t : TypeId) (w : World) :
    ∃ z, (Go.binOp op t x' y').run P w = .ok z w ∧ VRel μ r z := by
  unfold binOp at e
  split at e
  · rename_i k a k' b
    cases hx
    cases hy
    have main : (bif keq k k' then arith op k a b else none) = some r → (op ≠ .shl ∧ op ≠ .shr) → ∃ z, (Go.binOp op t (.int k a) (.int k' b)).run P w = .ok z w ∧ VRel μ r z := by
      intro h hs
      cases hk : keq k k' with
      | false => rw [hk] at h; simp at h
      | true =>
        rw [hk] at h
        rw [keq_eq] at hk
        have : k = k' := by simpa using hk
        subst this
        exact arith_ok h hs t w
    split at e
    · obtain ⟨z, h1, h2⟩ := shiftOp_ok (P := P) (μ := μ) (yk := k') e w
      exact ⟨z, by simpa [Go.binOp] using h1, h2⟩
    · obtain ⟨z, h1, h2⟩ := shiftOp_ok (P := P) (μ := μ) (yk := k') e w
      exact ⟨z, by simpa [Go.binOp] using h1, h2⟩
    · rename_i h1 h2
      exact main e ⟨fun h => h1 h, fun h => h2 h⟩
  · rename_i a b
    cases hx with | s _ x' hx =>
    cases hy with | s _ y' hy =>
    have hsx : x'.size = a.length := by rw [← hx, List.length_map, Array.length_toList]; rfl
    have hsy : y'.size = b.length := by rw [← hy, List.length_map, Array.length_toList]; rfl
    have heq : (x'.toList == y'.toList) = seq a b := by rw [← hx, ← hy, seq_eq, toList_bytes, toList_bytes]
    have hlt : Op.bytesLess x'.toList y'.toList = slt a b := by rw [← hx, ← hy, slt_eq, toList_bytes, toList_bytes]
    cases op <;> simp only [reduceCtorEq, Option.some.injEq] at e
    case add =>
      simp only [slen_eq, Nat.add_zero] at e
      cases hb : Nat.blt (a.length + b.length) 4611686018427387904 with
      | false => rw [hb] at e; simp at e
      | true =>
        rw [hb] at e
        simp at e
        subst e
        have hb' : a.length + b.length < 4611686018427387904 := by simpa using hb
        have hno : ¬ (((x'.size + y'.size : Nat) : Int) > IntKind.i64.max) := by
          rw [hsx, hsy]
          have : IntKind.i64.max = 9223372036854775807 := rfl
          rw [this]; omega
        refine ⟨.string (x' ++ y'), by simp only [Go.binOp, Op.stringOp, if_neg hno, Sem.run_pure], .s _ _ ?_⟩
        rw [← hx, ← hy]
        simp
    all_goals
      subst e
      exact ⟨_, by simp only [Go.binOp, Op.stringOp, heq, hlt, Sem.run_pure], .b _⟩
  · cases e
theorem run_eqGuard_plain {op : BinOp} {t : TypeId} {x y : Operand} {a b : Value} (h : a ≠ .nilIface ∨ b ≠ .nilIface) (h' : (∀ cs, a ≠ .agg cs) ∨ ∀ cs, b ≠ .agg cs) (w : World) :
    (eqGuard op t x y a b).run P w = .ok () w := by
  unfold eqGuard
  by_cases ho : (!(match op with | .eql => true | .neq => true | _ => false)) = true
  · cases op <;> simp at ho <;> rfl
  · cases a <;> cases b <;> cases op <;> simp_all
theorem ok_bin_aux {kd : List Kd} {c : Ctx} {κ : Lm} {vs ts : List V} {ls ls' : Ls} {h h' : H} {w : World} {w₀ : Nat} {ev : Operand → Value} {v : V} {o : Oper} {op : BinOp} {t t' : Nat} {x y : Operand} {X Y : Am.X}
    (ho : o.op = .binOp op t x y t') (hx : Cx P T kd c μ κ vs ts ls h w w₀ ev (· ∈ o.op.operands)) (hX : opd kd c x = some X) (hY : opd kd c y = some Y) (he : evO call vs ts ls h (.bin op X Y) = .ok v ls' h') :
    Does P o ev w (Res μ κ h w w₀ (.bin op X Y) none v ls' h') := by
  simp only [evO, e_bin] at he
  obtain ⟨e, rfl, rfl⟩ := Rs.of_ok he
  have rx := hx.O.v _ _ (by simp [ho, Op.operands]) hX
  have ry := hx.O.v _ _ (by simp [ho, Op.operands]) hY
  obtain ⟨z, h1, h2⟩ := binOp_ok (P := P) e rx ry t w
  refine Does.pure hx h2 rfl ?_
  have hg : (eqGuard op t x y (ev x) (ev y)).run P w = .ok () w := by
    unfold binOp at e
    split at e
    · rename_i k a k' b hxa hyb
      rw [hxa] at rx
      generalize ev x = vx at rx
      cases rx
      exact run_eqGuard_plain (.inl (by simp)) (.inl (by simp)) w
    · rename_i a b hxa hyb
      rw [hxa] at rx
      generalize ev x = vx at rx
      cases rx
      exact run_eqGuard_plain (.inl (by simp)) (.inl (by simp)) w
    · cases e
  simp [execOp, ho, hg, h1]
end Am
namespace Am
open Go
variable {P : Program} {T : TT} {call : CallT} {μ : Mp}

theorem run_equal_flat {T : TT} (hT : TOk P T) {t : Nat} {ks : List Ck} (h : flat T 20 t = some ks) {xs ys : List V} {xs' ys' : Array Value} {r : Bool} (hx : VRs μ xs xs'.toList) (hy : VRs μ ys ys'.toList)
    (ox : ∀ y ∈ xs'.toList, y.oneCell' = true) (oy : ∀ y ∈ ys'.toList, y.oneCell' = true) (hr : csEq ks xs ys = some r) (hg : isG (tUnd T t) = true) (w : World) :
    (Op.equal t (.agg xs') (.agg ys')).run P w = .ok r w := by
  have hl : ∀ (ks : List Ck) (xs ys : List V) (r : Bool), csEq ks xs ys = some r → xs.length = ks.length ∧ ys.length = ks.length := by
    intro ks
    induction ks with
    | nil => intro xs ys r h; cases xs <;> cases ys <;> simp [csEq] at h ⊢
    | cons k ks ih =>
      intro xs ys r h
      cases xs <;> cases ys <;> simp only [csEq, reduceCtorEq] at h
      rename_i x xs y ys
      split at h
      · split at h
        · rename_i e; have := ih _ _ _ e; simp; omega
        · cases h
      · cases h
  have := flat_ok hT 20 t ks h 10000 (by omega) μ w xs ys xs'.toList ys'.toList r hx hy ox oy (hl _ _ _ _ hr).1 (hl _ _ _ _ hr).2 hr
  rw [hg] at this
  simpa [packG, Op.equal, Op.maxDepth] using this
theorem flat_noGuard {T : TT} (hT : TOk P T) : ∀ (d t : Nat) (ks : List Ck), flat T d t = some ks → ∀ D, d ≤ D → P.eqGuardType D t = false := by
  intro d
  induction d with
  | zero => intro t ks h; simp [flat] at h
  | succ d ih =>
    intro t ks h D hD
    obtain ⟨D, rfl⟩ : ∃ e, D = e + 1 := ⟨D - 1, by omega⟩
    unfold flat at h
    cases hu : tUnd T t with
    | none => simp [hu] at h
    | some k =>
      have hP := tUnd_ok hT hu
      rw [hu] at h
      cases k <;> simp only [reduceCtorEq] at h <;> unfold Program.eqGuardType <;> simp only [hP]
      case struct fs =>
        cases hsh : T.sh t with
        | false => rw [hsh] at h; simp at h
        | true =>
          rw [hsh] at h
          simp only [cond_true] at h
          rw [← Array.any_toList]
          have key : ∀ (l : List Field) (o : Nat) (ks : List Ck), flatFs (flat T d) T l o = some ks → (l.any fun f => f.name != "_" && P.eqGuardType D f.type) = false := by
            intro l
            induction l with
            | nil => intros; rfl
            | cons f l ihl =>
              intro o ks h
              simp only [flatFs] at h
              split at h
              · rename_i kf ti hkf hti
                cases hb : ((f.name != "_") && Nat.beq f.offset o && Nat.beq ti.sz kf.length) with
                | false => rw [hb] at h; simp at h
                | true =>
                  rw [hb] at h
                  simp only [cond_true] at h
                  split at h
                  · rename_i kr hkr
                    rw [List.any_cons, ih f.type kf hkf D (by omega), ihl _ _ hkr]
                    simp
                  · cases h
              · cases h
          exact key _ _ _ h
      case array n e =>
        split at h
        · rename_i kl ti hkl hti
          exact ih e kl hkl D (by omega)
        · cases h
theorem depth_big (P : Program) : 20 ≤ P.depth := by
  unfold Program.depth
  have : 9 ≤ Made.depth := by decide
  omega
def numLike : Value → Value → Bool
  | .int _ _, .int _ _ => true
  | .float _ _, .float _ _ => true
  | .complex _ _ _, .complex _ _ _ => true
  | .string _, .string _ => true
  | _, _ => false
theorem eqv_ok {op : BinOp} (hT : TOk P T) {t : Nat} {x y : Operand} {q : Q} (hq : eqQ T t x y = some q) {a b : V} {a' b' : Value} (ha : VRel μ a a') (hb : VRel μ b b') {r : Bool} (hr : qeq q a b = some r) (ho : isEq op = true) (w : World) :
    (do eqGuard op t x y a' b'; Go.binOp op t a' b').run P w = .ok (.bool (if isNeq op then !r else r)) w := by
  have finish : (eqGuard op t x y a' b').run P w = .ok () w → (Op.equal t a' b').run P w = .ok r w → numLike a' b' = false →
      (do eqGuard op t x y a' b'; Go.binOp op t a' b').run P w = .ok (.bool (if isNeq op then !r else r)) w := by
    intro hg he hn
    simp only [Sem.run_bind, hg, Result.andThen_ok]
    cases op <;> simp [isEq] at ho
    · have : Go.binOp .eql t a' b' = (do pure (.bool (← Op.equal t a' b'))) := by
        cases a' <;> cases b' <;> first | rfl | (simp [numLike] at hn)
      rw [this]
      simp [he, isNeq]
    · have : Go.binOp .neq t a' b' = (do pure (.bool (!(← Op.equal t a' b')))) := by
        cases a' <;> cases b' <;> first | rfl | (simp [numLike] at hn)
      rw [this]
      simp [he, isNeq]
  unfold eqQ at hq
  cases hu : tUnd T t with
  | none => simp [hu] at hq
  | some k =>
    have hP := tUnd_ok hT hu
    rw [hu] at hq
    cases k <;> simp only [reduceCtorEq, Option.some.injEq] at hq
    case bool =>
      subst hq
      cases a <;> simp [qeq, ceq] at hr
      cases b <;> simp at hr
      rename_i p q
      have hc : ceq .b (.b p) (.b q) = some r := by simp only [ceq]; rw [hr]
      have := ceq_ok hT (k := .b) hc ha hb (t := t) (d := 9999) hu w
      cases ha; cases hb
      exact finish (run_eqGuard_plain (.inl (by simp)) (.inl (by simp)) w) this rfl
    case struct fs =>
      rw [Option.map_eq_some_iff] at hq
      obtain ⟨ks, hk, rfl⟩ := hq
      cases a <;> simp only [qeq, reduceCtorEq] at hr
      cases b <;> simp only [reduceCtorEq] at hr
      cases ha with | a ha oa =>
      cases hb with | a hb ob =>
      exact finish (run_eqGuard_agg w op t x y _ _ (flat_noGuard hT 20 t ks hk _ (depth_big P))) (run_equal_flat hT hk ha hb oa ob hr (by rw [hu]; rfl) w) rfl
    case array n e =>
      rw [Option.map_eq_some_iff] at hq
      obtain ⟨ks, hk, rfl⟩ := hq
      cases a <;> simp only [qeq, reduceCtorEq] at hr
      cases b <;> simp only [reduceCtorEq] at hr
      cases ha with | a ha oa =>
      cases hb with | a hb ob =>
      exact finish (run_eqGuard_agg w op t x y _ _ (flat_noGuard hT 20 t ks hk _ (depth_big P))) (run_equal_flat hT hk ha hb oa ob hr (by rw [hu]; rfl) w) rfl
    case pointer e =>
      subst hq
      cases a <;> cases b <;> simp only [qeq, reduceCtorEq, Option.some.injEq] at hr <;> subst hr <;> cases ha <;> cases hb <;>
        exact finish (run_eqGuard_plain (.inl (by simp)) (.inl (by simp)) w) ((fun h => h 9999 : (∀ D, (Op.equalIn (D + 1) t _ _).run P w = .ok _ w) → _) (fun D => by simp [Op.equalIn, run_underlying hP])) rfl
    case slice e =>
      subst hq
      cases a <;> cases b <;> simp only [qeq, reduceCtorEq, Option.some.injEq] at hr <;> subst hr <;> cases ha <;> cases hb <;>
        exact finish (run_eqGuard_plain (.inl (by simp)) (.inl (by simp)) w) ((fun h => h 9999 : (∀ D, (Op.equalIn (D + 1) t _ _).run P w = .ok _ w) → _) (fun D => by simp [Op.equalIn, run_underlying hP])) rfl
    case map k e =>
      subst hq
      cases a <;> cases b <;> simp only [qeq, reduceCtorEq, Option.some.injEq] at hr <;> subst hr <;> cases ha <;> cases hb <;>
        exact finish (run_eqGuard_plain (.inl (by simp)) (.inl (by simp)) w) ((fun h => h 9999 : (∀ D, (Op.equalIn (D + 1) t _ _).run P w = .ok _ w) → _) (fun D => by simp [Op.equalIn, run_underlying hP])) rfl
    case func ps rs v =>
      subst hq
      cases a <;> cases b <;> simp only [qeq, reduceCtorEq, Option.some.injEq] at hr <;> subst hr <;> cases ha <;> cases hb <;>
        exact finish (run_eqGuard_plain (.inl (by simp)) (.inl (by simp)) w) ((fun h => h 9999 : (∀ D, (Op.equalIn (D + 1) t _ _).run P w = .ok _ w) → _) (fun D => by simp [Op.equalIn, run_underlying hP])) rfl
    case interface ms =>
      cases hc : (isC x || isC y) with
      | false => rw [hc] at hq; simp at hq
      | true =>
        rw [hc] at hq
        simp at hq
        subst hq
        have hcc : (∃ v, x = .const v) ∨ (∃ v, y = .const v) := by
          rw [Bool.or_eq_true] at hc
          rcases hc with h | h
          · left; cases x <;> simp [isC] at h ⊢
          · right; cases y <;> simp [isC] at h ⊢
        cases a <;> cases b <;> simp only [qeq, reduceCtorEq, Option.some.injEq] at hr <;> subst hr <;> cases ha <;> cases hb
        case ni.ni =>
          refine finish ?_ ((fun h => h 9999 : (∀ D, (Op.equalIn (D + 1) t _ _).run P w = .ok _ w) → _) (fun D => by simp [Op.equalIn, run_underlying hP])) rfl
          clear finish
          rcases hcc with ⟨v, rfl⟩ | ⟨v, rfl⟩ <;> cases op <;> simp [isEq] at ho <;> simp [eqGuard]
        all_goals
          exact finish (run_eqGuard_plain (by simp) (.inl (by simp)) w) ((fun h => h 9999 : (∀ D, (Op.equalIn (D + 1) t _ _).run P w = .ok _ w) → _) (fun D => by simp [Op.equalIn, run_underlying hP])) rfl
end Am
namespace Am
open Go
variable {P : Program} {T : TT} {call : CallT} {μ : Mp}

theorem ok_binOp (d : Option Nat) (op : BinOp) (t : Nat) (x y : Operand) (t' : Nat) (ty : Nat) (pos : String) (af : Array Edge) (g : Option (Nat × Bool)) : OpOK P T call ⟨d, .binOp op t x y t', ty, pos, af, g⟩ := by
  intro kd c μ κ vs ts ls h w w₀ ev v ls' h' hx he
  simp only [compO] at he ⊢
  cases hX : opd kd c x with
  | none => simp [hX, evO, e_no] at he
  | some X =>
  cases hY : opd kd c y with
  | none => simp [hX, hY, evO, e_no] at he
  | some Y =>
  simp only [hX, hY] at he ⊢
  cases hu : tUnd T t with
  | none => simp [hu, evO, e_no] at he
  | some k =>
    have other : evO call vs ts ls h (eqO op (eqQ T t x y) X Y) = .ok v ls' h' → Does P ⟨d, .binOp op t x y t', ty, pos, af, g⟩ ev w (Res μ κ h w w₀ (eqO op (eqQ T t x y) X Y) none v ls' h') := by
      intro he'
      cases hq : eqQ T t x y with
      | none => rw [hq] at he'; cases ho : isEq op <;> simp [eqO, ho, evO, e_no] at he'
      | some q =>
        rw [hq] at he'
        cases ho : isEq op with
        | false => simp [eqO, ho, evO, e_no] at he'
        | true =>
          simp only [eqO, ho, evO, e_eqv] at he' ⊢
          split at he'
          · rename_i r hr
            simp only [Rs.ok.injEq] at he'
            obtain ⟨rfl, rfl, rfl⟩ := he'
            have := eqv_ok (P := P) hx.T hq (hx.O.v _ _ (by simp [Op.operands]) hX) (hx.O.v _ _ (by simp [Op.operands]) hY) hr ho w
            refine Does.pure hx (.b _) rfl ?_
            simp only [Sem.run_bind] at this
            simp only [execOp, Sem.run_bind, this, Result.andThen_ok, Sem.run_pure]
            cases isNeq op <;> rfl
          · cases he'
    cases k <;> simp only [hu] at he ⊢
    case int j => exact ok_bin_aux rfl hx hX hY he
    case string => exact ok_bin_aux rfl hx hX hY he
    all_goals exact other he

theorem ok_extract (d : Option Nat) (x : Operand) (n : Nat) (ty : Nat) (pos : String) (af : Array Edge) (g : Option (Nat × Bool)) : OpOK P T call ⟨d, .extract x n, ty, pos, af, g⟩ := by
  intro kd c μ κ vs ts ls h w w₀ ev v ls' h' hx he
  simp only [compO] at he ⊢
  cases hX : opd kd c x with
  | none => simp [o?, hX, evO, e_no] at he
  | some X =>
    simp only [o?, hX, evO, e_ext] at he ⊢
    have rx := hx.O.v _ _ (by simp [Op.operands]) hX
    cases hb : getX vs ts X with
    | t l =>
      rw [hb] at he rx
      simp only [vlen_eq, Nat.add_zero] at he
      cases hl : Nat.blt n l.length with
      | false => rw [hl] at he; simp at he
      | true =>
        rw [hl] at he
        have hl' : n < l.length := by simpa using hl
        simp only [cond_true, Rs.ok.injEq] at he
        obtain ⟨rfl, rfl, rfl⟩ := he
        generalize hex : ev x = vx at rx
        cases rx with | t rx =>
        rename_i cs'
        obtain ⟨y, hy, hv⟩ := rx.get n l[n] (by simp [hl'])
        refine Does.pure hx (y := y) ?_ rfl ?_
        · rw [lget_eq]; simpa [hl'] using hv
        · have : cs'[n]? = some y := by simpa using hy
          simp [execOp, hex, Instr.extract, this]
    | _ => rw [hb] at he; simp at he

theorem rd_ok {cs : List V} {o : Nat} {g : Bool} {sz : Nat} {r : V} (e : rd cs o g sz = some r) : ∃ l, part cs o sz = some l ∧ mkV g l = some r := by
  unfold rd at e
  split at e
  · rename_i l hl; exact ⟨l, hl, e⟩
  · cases e
theorem mkV_false {l : List V} {r : V} (e : mkV false l = some r) : l = [r] := by
  match l, e with
  | [a], e => simp [mkV] at e; subst e; rfl
/-- a part of an aggregate -/
theorem rd_part {ti : TI} {t : Nat} (hT : TOk P T) (hi : tInfo T t = some ti) {cs : List V} {cs' : Array Value} {o : Nat} {r : V} (h : VRs μ cs cs'.toList) (h1 : oneCells cs'.toList) (e : rd cs o ti.g ti.sz = some r) (w : World) :
    ∃ y, (Go.part t cs' o).run P w = .ok y w ∧ VRel μ r y := by
  obtain ⟨l, hl, hm⟩ := rd_ok e
  obtain ⟨hlen, rfl, hle⟩ := part_some hl
  have hpos : 0 < ti.sz := by obtain ⟨i, z, d, _, _, _, _, _, h0, _⟩ := tInfo_ok hT hi; exact h0
  have hle' : o + ti.sz ≤ cs.length := by omega
  have hg : ti.g = false → ti.sz = 1 := by
    intro hg; rw [hg] at hm; have := mkV_false hm; rw [← hlen, this]; rfl
  have hr := run_part (P := P) hT hi cs'.toList o (by rw [← h.length]; exact hle') hg w
  have hv := (h.drop o).take ti.sz
  obtain ⟨v, hv1, hv2⟩ := hv.packG (g := ti.g) (fun y hy => h1 y (List.mem_of_mem_drop (List.mem_of_mem_take hy))) (fun hg' => by rw [hlen, hg hg'])
  rw [hm] at hv1
  cases hv1
  exact ⟨_, hr, hv2⟩
theorem fieldOf_ok {t f off : Nat} {ti : TI} (hT : TOk P T) (h : fieldOf T t f = some (off, ti)) :
    ∃ fs fl, P.underlying t = some (.struct fs) ∧ fs[f]? = some fl ∧ fl.offset = off ∧ tInfo T fl.type = some ti := by
  unfold fieldOf at h
  split at h
  · rename_i fs hu
    split at h
    · rename_i fl hfl
      split at h
      · rename_i i hi
        simp at h
        obtain ⟨rfl, rfl⟩ := h
        exact ⟨fs, fl, tUnd_ok hT hu, hfl, rfl, hi⟩
      · cases h
    · cases h
  · cases h
theorem ok_field (d : Option Nat) (t : Nat) (x : Operand) (n : Nat) (ty : Nat) (pos : String) (af : Array Edge) (g : Option (Nat × Bool)) : OpOK P T call ⟨d, .field t x n, ty, pos, af, g⟩ := by
  intro kd c μ κ vs ts ls h w w₀ ev v ls' h' hx he
  simp only [compO] at he ⊢
  cases hf : fieldOf T t n with
  | none => simp [hf, evO, e_no] at he
  | some p =>
  obtain ⟨off, ti⟩ := p
  cases hX : opd kd c x with
  | none => simp [hf, hX, evO, e_no] at he
  | some X =>
    simp only [hf, hX, evO, e_fld] at he ⊢
    have rx := hx.O.v _ _ (by simp [Op.operands]) hX
    cases hb : getX vs ts X with
    | a cs =>
      rw [hb] at he rx
      obtain ⟨e, rfl, rfl⟩ := Rs.of_ok he
      generalize hex : ev x = vx at rx
      cases rx with | a rx h1 =>
      obtain ⟨fs, fl, hu, hfl, rfl, hi⟩ := fieldOf_ok hx.T hf
      obtain ⟨y, hr, hv⟩ := rd_part hx.T hi rx h1 e w
      exact Does.pure hx hv rfl (by simp [execOp, hex, Instr.field, run_underlying hu, hfl, asAgg, hr])
    | _ => rw [hb] at he; simp at he
theorem inat_ok {v : V} {n : Nat} (e : inat v = some n) : ∃ k, v = .i k (Int.ofNat n) := by
  cases v <;> simp only [inat, reduceCtorEq] at e
  rename_i k m
  cases m <;> simp at e
  subst e
  exact ⟨k, rfl⟩
theorem ok_index (d : Option Nat) (t : Nat) (x i : Operand) (ty : Nat) (pos : String) (af : Array Edge) (g : Option (Nat × Bool)) : OpOK P T call ⟨d, .index t x i, ty, pos, af, g⟩ := by
  intro kd c μ κ vs ts ls h w w₀ ev v ls' h' hx he
  simp only [compO] at he ⊢
  cases hX : opd kd c x with
  | none => simp [hX, evO, e_no] at he
  | some X =>
  cases hI : opd kd c i with
  | none => simp [hX, hI, evO, e_no] at he
  | some I =>
  simp only [hX, hI] at he ⊢
  have rx := hx.O.v _ _ (by simp [Op.operands]) hX
  have ri := hx.O.v _ _ (by simp [Op.operands]) hI
  cases hu : tUnd T t with
  | none => simp [hu, evO, e_no] at he
  | some k =>
    have hP := tUnd_ok hx.T hu
    rw [hu] at he
    cases k <;> simp only [evO, e_no, reduceCtorEq] at he
    case string =>
      simp only [e_sidx] at he
      split at he
      · rename_i r n hr hn
        obtain ⟨k, hk⟩ := inat_ok hn
        split at he
        · rename_i b hb
          simp only [Rs.ok.injEq] at he
          obtain ⟨rfl, rfl, rfl⟩ := he
          rw [hr] at rx
          rw [hk] at ri
          generalize hex : ev x = vx at rx
          generalize hei : ev i = vi at ri
          cases rx with | s l y hy =>
          cases ri
          rw [← hy] at hb
          have hsz : y.size = y.data.toList.length := by rw [Array.length_toList]; rfl
          have hlt : n < y.size := by
            have := (List.getElem?_eq_some_iff.1 hb).1
            rw [List.length_map] at this
            rw [hsz]; exact this
          have hget : y[n]? = some y[n] := by simp [hlt]
          have hbv : (y[n]).toNat = b := by
            rw [List.getElem?_map] at hb
            have : y.data.toList[n]? = some y[n] := by
              have h2 : n < y.data.toList.length := by rw [← hsz]; exact hlt
              rw [List.getElem?_eq_getElem h2]; rfl
            rw [this] at hb
            simpa using hb
          refine Does.pure hx (y := .int .u8 b) (.i _ _) rfl ?_
          have h0 : (0 : Int) ≤ Int.ofNat n := by simp
          simp only [execOp, hex, hei, Instr.index, asIntOf, Sem.run_bind, Sem.run_pure, Result.andThen_ok, run_underlying hP]
          have : (Int.ofNat n).toNat = n := rfl
          rw [if_pos h0, this, hget]
          simp [hbv]
        · cases he
      · cases he
    case array len e =>
      cases hi : tInfo T e with
      | none => simp [hi, o?] at he
      | some ti =>
        simp only [hi, o?, e_idx] at he ⊢
        split at he
        · rename_i cs n hcs hn
          obtain ⟨k, hk⟩ := inat_ok hn
          cases hl : Nat.blt n len with
          | false => rw [hl] at he; simp at he
          | true =>
            rw [hl] at he
            have hl' : n < len := by simpa using hl
            obtain ⟨e', rfl, rfl⟩ := Rs.of_ok he
            rw [hcs] at rx
            rw [hk] at ri
            generalize hex : ev x = vx at rx
            generalize hei : ev i = vi at ri
            cases rx with | a rx h1 =>
            cases ri
            obtain ⟨y, hr, hv⟩ := rd_part hx.T hi rx h1 e' w
            refine Does.pure hx hv rfl ?_
            have h0 : (0 : Int) ≤ Int.ofNat n ∧ Int.ofNat n < (len : Int) := by constructor <;> simp <;> omega
            simp only [execOp, hex, hei, Instr.index, asIntOf, Sem.run_bind, Sem.run_pure, Result.andThen_ok, run_underlying hP]
            rw [if_pos h0]
            simp [run_sizeOf hx.T hi, hr]
        · cases he
theorem ok_nilCheck (d : Option Nat) (x : Operand) (ty : Nat) (pos : String) (af : Array Edge) (g : Option (Nat × Bool)) : OpOK P T call ⟨d, .nilCheck x, ty, pos, af, g⟩ := by
  intro kd c μ κ vs ts ls h w w₀ ev v ls' h' hx he
  simp only [compO] at he ⊢
  cases hX : opd kd c x with
  | none => simp [o?, hX, evO, e_no] at he
  | some X =>
    simp only [o?, hX, evO, e_nilc] at he ⊢
    have rx := hx.O.v _ _ (by simp [Op.operands]) hX
    split at he
    · rename_i b o hb
      rw [hb] at rx
      simp only [Rs.ok.injEq] at he
      obtain ⟨rfl, rfl, rfl⟩ := he
      generalize hex : ev x = vx at rx
      have rx' := rx
      cases rx
      exact Does.pure hx rx' rfl (by simp [execOp, hex])
    · rename_i a b o hb
      rw [hb] at rx
      simp only [Rs.ok.injEq] at he
      obtain ⟨rfl, rfl, rfl⟩ := he
      generalize hex : ev x = vx at rx
      have rx' := rx
      cases rx
      exact Does.pure hx rx' rfl (by simp [execOp, hex])
    · cases he
theorem opds_ok {kd : List Kd} {c : Ctx} {κ : Lm} {vs ts : List V} {ls : Ls} {ev : Operand → Value} {xs : Operand → Prop} (hO : ORel kd c μ κ vs ts ls ev xs) :
    ∀ (l : List Operand) (L : List X), (∀ o ∈ l, xs o) → opds kd c l = some L → VRs μ (getXs vs ts L) (l.map ev)
  | [], L, _, h => by simp [opds] at h; subst h; exact .nil
  | o :: r, L, hm, h => by
    simp only [opds] at h
    split at h
    · rename_i a l ha hl
      cases h
      exact .cons (hO.v _ _ (hm o (by simp)) ha) (opds_ok hO r l (fun o ho => hm o (by simp [ho])) hl)
    · cases h
theorem ok_makeFunc (d : Option Nat) (f : Nat) (a b : Array Operand) (ty : Nat) (pos : String) (af : Array Edge) (g : Option (Nat × Bool)) : OpOK P T call ⟨d, .makeFunc (.func f) a b, ty, pos, af, g⟩ := by
  intro kd c μ κ vs ts ls h w w₀ ev v ls' h' hx he
  simp only [compO] at he ⊢
  cases hX : opds kd c a.toList with
  | none => simp [hX, evO, e_no] at he
  | some X =>
  cases hY : opds kd c b.toList with
  | none => simp [hX, hY, evO, e_no] at he
  | some Y =>
    simp only [hX, hY, evO, e_mkf, Rs.ok.injEq] at he ⊢
    obtain ⟨rfl, rfl, rfl⟩ := he
    refine Does.pure hx (y := .func (.func f) (a.map ev) (b.map ev)) (.f ?_ ?_) rfl (by simp [execOp, Instr.makeFunc])
    · simpa using opds_ok hx.O _ _ (fun o ho => by simp at ho; simp [Op.operands, ho]) hX
    · simpa using opds_ok hx.O _ _ (fun o ho => by simp at ho; simp [Op.operands, ho]) hY
theorem ok_makeInterface (d : Option Nat) (t : Nat) (x : Operand) (ty : Nat) (pos : String) (af : Array Edge) (g : Option (Nat × Bool)) : OpOK P T call ⟨d, .makeInterface t x, ty, pos, af, g⟩ := by
  intro kd c μ κ vs ts ls h w w₀ ev v ls' h' hx he
  simp only [compO] at he ⊢
  cases hu : tUnd T t with
  | none => simp [hu, evO, e_no] at he
  | some k =>
    have hP := tUnd_ok hx.T hu
    cases hX : opd kd c x with
    | none => cases k <;> simp [hu, o?, hX, evO, e_no] at he
    | some X =>
      have rx := hx.O.v _ _ (by simp [Op.operands]) hX
      cases k <;> simp only [hu, o?, hX, evO, e_no, e_mki, reduceCtorEq, Rs.ok.injEq] at he ⊢
      all_goals
        obtain ⟨rfl, rfl, rfl⟩ := he
        exact Does.pure hx (.ic rx) rfl (by simp [execOp, Instr.makeInterface, run_underlying hP])
end Am
namespace Am
open Go
variable {P : Program} {T : TT} {call : CallT} {μ : Mp}

/-! Filling -/
inductive All2 {α β : Type} (R : α → β → Prop) : List α → List β → Prop
  | nil : All2 R [] []
  | cons {a : α} {b : β} {l : List α} {r : List β} (h : R a b) (h' : All2 R l r) : All2 R (a :: l) (b :: r)

theorem setFold_get (off : Nat) : ∀ (l : List Value) (k : Nat) (cs : Array Value), off + k + l.length ≤ cs.size →
    ∀ i, ((l.zipIdx k).foldl (fun cs p => cs.setIfInBounds (off + p.2) p.1) cs)[i]? = if off + k ≤ i ∧ i < off + k + l.length then l[i - (off + k)]? else cs[i]?
  | [], k, cs, _, i => by simp; omega
  | v :: l, k, cs, h, i => by
    simp only [List.zipIdx_cons, List.foldl_cons]
    rw [setFold_get off l (k + 1) _ (by simp at h ⊢; omega) i]
    simp only [List.length_cons] at h ⊢
    by_cases h1 : off + (k + 1) ≤ i ∧ i < off + (k + 1) + l.length
    · rw [if_pos h1, if_pos (by omega)]
      rw [show i - (off + k) = (i - (off + (k + 1))) + 1 by omega]; rfl
    · rw [if_neg h1]
      by_cases h2 : i = off + k
      · subst h2
        rw [if_pos (by omega), Array.getElem?_setIfInBounds_self_of_lt (by omega)]
        simp
      · rw [if_neg (by omega), Array.getElem?_setIfInBounds_ne (by omega)]
theorem setFold_size (off : Nat) : ∀ (l : List Value) (k : Nat) (cs : Array Value), ((l.zipIdx k).foldl (fun cs p => cs.setIfInBounds (off + p.2) p.1) cs).size = cs.size
  | [], k, cs => by simp
  | v :: l, k, cs => by simp only [List.zipIdx_cons, List.foldl_cons]; rw [setFold_size off l]; simp
theorem zipFold (off : Nat) (v : Array Value) (cs : Array Value) :
    v.zipIdx.foldl (fun cs (p : Value × Nat) => cs.setIfInBounds (off + p.2) p.1) cs = (v.toList.zipIdx 0).foldl (fun cs p => cs.setIfInBounds (off + p.2) p.1) cs := by
  rw [← Array.foldl_toList, Array.toList_zipIdx]
/-- parts laid into cells -/
theorem fill_ok {kd : List Kd} {c : Ctx} {κ : Lm} {vs ts : List V} {ls : Ls} {ev : Operand → Value} {xs : Operand → Prop} (hO : ORel kd c μ κ vs ts ls ev xs) (place : Nat → Option (Nat × Nat)) :
    ∀ (ps : List (Nat × Operand)) (L : List (Nat × Nat × X)) (cs r : List V) (cs' : Array Value),
      (∀ p ∈ ps, xs p.2) → All2 (fun p q => place p.1 = some (q.1, q.2.1) ∧ opd kd c p.2 = some q.2.2) ps L → VRs μ cs cs'.toList → oneCells cs'.toList → fillAll vs ts cs L = some r →
      ∃ r', Instr.fill place cs' (ps.map fun p => (p.1, ev p.2)) = some r' ∧ VRs μ r r'.toList ∧ oneCells r'.toList
  | _, _, cs, r, cs', _, .nil, h, h1, e => by simp [fillAll] at e; subst e; exact ⟨cs', by simp [Instr.fill], h, h1⟩
  | p :: ps, q :: L, cs, r, cs', hm, .cons hp hf, h, h1, e => by
    obtain ⟨i, o⟩ := p
    obtain ⟨off, sz, X⟩ := q
    obtain ⟨hpl, hX⟩ := hp
    simp only at hpl hX
    simp only [fillAll] at e
    cases hc : (getX vs ts X).cs? with
    | none => rw [hc] at e; simp at e
    | some n =>
      rw [hc] at e
      simp only [vlen_eq, Nat.add_zero] at e
      cases hb : Nat.beq n.length sz with
      | false => rw [hb] at e; simp at e
      | true =>
        rw [hb] at e
        have hsz : n.length = sz := by simpa [Nat.beq_eq] using hb
        simp only [cond_true] at e
        cases hw : wrt cs off n with
        | none => rw [hw] at e; simp at e
        | some cs2 =>
          rw [hw] at e
          simp only at e
          obtain ⟨hle, rfl⟩ := wrt_some hw
          have rx := hO.v o X (hm (i, o) (by simp)) hX
          obtain ⟨hv, ho⟩ := rx.cells hc
          have hl := hv.length
          have hlc := h.length
          have hsize : (ev o).cells.size = sz := by rw [← Array.length_toList, ← hl, hsz]
          have hle' : off + (ev o).cells.size ≤ cs'.size := by rw [hsize, ← hsz, ← Array.length_toList (xs := cs'), ← hlc]; exact hle
          have g1 : VRs μ (over cs off n) ((ev o).cells.zipIdx.foldl (fun cs (p : Value × Nat) => cs.setIfInBounds (off + p.2) p.1) cs').toList := by
            rw [zipFold]
            refine VRs.of ?_ fun j a b ha hb' => ?_
            · rw [over_length, hlc]; simp only [Array.length_toList]; rw [setFold_size]
            · rw [over_get _ _ _ _ hle] at ha
              rw [Array.getElem?_toList, setFold_get off _ 0 cs' (by simpa using hle')] at hb'
              simp only [Nat.add_zero, Array.length_toList] at hb'
              rw [← Array.length_toList, ← hl] at hb'
              split at ha
              · rename_i hj
                rw [if_pos hj] at hb'
                obtain ⟨b', hb2, hv2⟩ := hv.get _ _ ha
                rw [hb2] at hb'
                cases hb'
                exact hv2
              · rename_i hj
                rw [if_neg hj] at hb'
                obtain ⟨b', hb2, hv2⟩ := h.get _ _ ha
                rw [Array.getElem?_toList] at hb2
                rw [hb2] at hb'
                cases hb'
                exact hv2
          have g2 : oneCells ((ev o).cells.zipIdx.foldl (fun cs (p : Value × Nat) => cs.setIfInBounds (off + p.2) p.1) cs').toList := by
            intro y hy
            rw [zipFold] at hy
            obtain ⟨j, hj⟩ := List.mem_iff_getElem?.1 hy
            rw [Array.getElem?_toList, setFold_get off _ 0 cs' (by simpa using hle')] at hj
            split at hj
            · exact ho y (List.mem_of_getElem? hj)
            · rw [← Array.getElem?_toList] at hj
              exact h1 y (List.mem_of_getElem? hj)
          obtain ⟨r', h2, h3, h4⟩ := fill_ok hO place ps L (over cs off n) r _ (fun p hp => hm p (by simp [hp])) hf g1 g2 e
          refine ⟨r', ?_, h3, h4⟩
          simp only [List.map_cons, Instr.fill, hpl]
          rw [if_neg (by simp; omega)]
          exact h2
theorem partsA_ok {kd : List Kd} {c : Ctx} {sz : Nat} : ∀ (ps : List (Nat × Operand)) (L : List (Nat × Nat × X)), partsA kd c sz ps = some L →
    All2 (fun p q => (some (p.1 * sz, sz) : Option (Nat × Nat)) = some (q.1, q.2.1) ∧ opd kd c p.2 = some q.2.2) ps L
  | [], L, h => by simp [partsA] at h; subst h; exact .nil
  | (i, o) :: r, L, h => by
    simp only [partsA] at h
    split at h
    · rename_i x l hx hl
      cases h
      exact .cons ⟨rfl, hx⟩ (partsA_ok r l hl)
    · cases h
theorem mapPairs (ps : Array (Nat × Operand)) (ev : Operand → Value) : (ps.map fun (i, x) => (i, ev x)).toList = ps.toList.map fun p => (p.1, ev p.2) := by
  rw [Array.toList_map]
theorem places_ok {T : TT} (hT : TOk P T) : ∀ (fs : List Field), allTy T fs = true → ∃ pl, fs.mapM (fun f => (P.info? f.type).map fun i => (f.offset, i.size)) = some pl ∧
    ∀ (n : Nat) (fl : Field) (ti : TI), fs[n]? = some fl → tInfo T fl.type = some ti → pl[n]? = some (fl.offset, ti.sz)
  | [], _ => ⟨[], by simp, by simp⟩
  | f :: fs, h => by
    simp only [allTy] at h
    split at h
    · rename_i i hi
      obtain ⟨pl, h1, h2⟩ := places_ok hT fs h
      have hP := hT.ty _ _ hi
      refine ⟨(f.offset, i.size) :: pl, by simp [List.mapM_cons, hP, h1], ?_⟩
      intro n fl ti hn hti
      cases n with
      | zero =>
        simp at hn
        subst hn
        obtain ⟨i', z, d, hi', _, _, hs, _⟩ := tInfo_ok hT hti
        rw [hP] at hi'
        cases hi'
        simp [hs]
      | succ n => simpa using h2 n fl ti (by simpa using hn) hti
    · cases h
theorem partsS_ok {T : TT} (hT : TOk P T) {t : Nat} {kd : List Kd} {c : Ctx} {fs : Array Field} (hu : P.underlying t = some (.struct fs)) {pl : List (Nat × Nat)} (hpl : ∀ (n : Nat) (fl : Field) (ti : TI), fs.toList[n]? = some fl → tInfo T fl.type = some ti → pl[n]? = some (fl.offset, ti.sz)) :
    ∀ (ps : List (Nat × Operand)) (L : List (Nat × Nat × X)), partsS T t kd c ps = some L →
    All2 (fun p q => pl.toArray[p.1]? = some (q.1, q.2.1) ∧ opd kd c p.2 = some q.2.2) ps L
  | [], L, h => by simp [partsS] at h; subst h; exact .nil
  | (i, o) :: r, L, h => by
    simp only [partsS] at h
    split at h
    · rename_i x off ti l hx hf hl
      cases h
      refine .cons ⟨?_, hx⟩ (partsS_ok hT hu hpl r l hl)
      obtain ⟨fs', fl, hu', hfl, rfl, hi⟩ := fieldOf_ok hT hf
      rw [hu] at hu'
      cases hu'
      simpa using hpl i fl ti (by simpa using hfl) hi
    · cases h
theorem ok_build (d : Option Nat) (t : Nat) (ps : Array (Nat × Operand)) (ty : Nat) (pos : String) (af : Array Edge) (g : Option (Nat × Bool)) : OpOK P T call ⟨d, .build t ps, ty, pos, af, g⟩ := by
  intro kd c μ κ vs ts ls h w w₀ ev v ls' h' hx he
  simp only [compO] at he ⊢
  cases hi : tInfo T t with
  | none => simp [hi, o?, evO, e_no] at he
  | some ti =>
  obtain ⟨i, z, d', hP, hz, hzv, hs, hb, h0, h1, hu, hg, hc, hl⟩ := tInfo_ok hx.T hi
  have hzc := fun μ => (ofVal_ok z hzv μ).cells hc
  have hg' := tInfo_g hi
  simp only [hi, o?] at he ⊢
  have hmem : ∀ p ∈ ps.toList, p.2 ∈ (Op.build t ps).operands := by
    intro p hp
    simp only [Op.operands]
    rw [List.mem_toArray]
    exact List.mem_map.2 ⟨p, hp, rfl⟩
  cases hut : tUnd T t with
  | none => simp [hut, evO, e_no] at he
  | some k =>
    have hP' := tUnd_ok hx.T hut
    rw [hut] at he
    cases k <;> simp only [evO, e_no, reduceCtorEq] at he
    case struct fs =>
      cases hp : partsS T t kd c ps.toList with
      | none => simp [hp] at he
      | some L =>
      cases ha : allTy T fs.toList with
      | false => simp [hp, ha] at he
      | true =>
        simp only [hp, ha, e_bld] at he ⊢
        split at he
        · rename_i r hr
          simp only [Rs.ok.injEq] at he
          obtain ⟨rfl, rfl, rfl⟩ := he
          obtain ⟨pl, hpl1, hpl2⟩ := places_ok hx.T fs.toList ha
          obtain ⟨r', e1, e2, e3⟩ := fill_ok hx.O (pl.toArray[·]?) ps.toList L ti.zc r z.cells (fun p hp => hmem p hp) (partsS_ok hx.T hP' hpl2 _ _ hp) (hzc μ).1 (hzc μ).2 hr
          refine Does.pure hx (y := .agg r') (.a e2 e3) rfl ?_
          have hb : P.built t (ps.map fun (i, x) => (i, ev x)).toList = some r' := by
            unfold Program.built
            simp only [hP, hP', hz, hpl1]
            rw [mapPairs]
            exact e1
          simp only [execOp, Sem.run_bind, run_build w t _ r' hb, Result.andThen_ok, Sem.run_pure]
        · cases he
    case array n e =>
      cases hte : tInfo T e with
      | none => simp [hte] at he
      | some te =>
      cases hp : partsA kd c te.sz ps.toList with
      | none => simp [hte, hp] at he
      | some L =>
        simp only [hp, hte, e_bld] at he ⊢
        split at he
        · rename_i r hr
          simp only [Rs.ok.injEq] at he
          obtain ⟨rfl, rfl, rfl⟩ := he
          obtain ⟨ie, ze, de, hPe, hze, _, hse, _⟩ := tInfo_ok hx.T hte
          obtain ⟨r', e1, e2, e3⟩ := fill_ok hx.O (fun i => some (i * te.sz, te.sz)) ps.toList L ti.zc r z.cells (fun p hp => hmem p hp) (partsA_ok _ _ hp) (hzc μ).1 (hzc μ).2 hr
          refine Does.pure hx (y := .agg r') (.a e2 e3) rfl ?_
          have hb : P.built t (ps.map fun (i, x) => (i, ev x)).toList = some r' := by
            unfold Program.built
            simp only [hP, hP', hz, hPe]
            rw [mapPairs, hse]
            exact e1
          simp only [execOp, Sem.run_bind, run_build w t _ r' hb, Result.andThen_ok, Sem.run_pure]
        · cases he
end Am
namespace Am
open Go
variable {P : Program} {T : TT} {call : CallT} {μ : Mp}

theorem slot_set (ls : Ls) (s s' : Nat) (cs : List V) : slot (setSlot ls s cs) s' = if s' = s ∧ s < ls.length then some cs else slot ls s' := by
  induction ls generalizing s s' with
  | nil => simp [setSlot, slot]
  | cons x ls ih =>
    cases s with
    | zero => cases s' <;> simp [setSlot, slot]
    | succ s =>
      cases s' with
      | zero => simp [setSlot, slot]
      | succ s' => simp only [setSlot, slot, ih]; simp
theorem slot_out : ∀ (ls : Ls) (s : Nat), ¬ s < ls.length → slot ls s = none
  | [], _, _ => rfl
  | _ :: _, 0, h => by simp at h
  | _ :: ls, s + 1, h => slot_out ls s (by simpa using h)
theorem HRel.grow {h : H} {w w' : World} {o : Obj} (hh : HRel μ h w) (g : Grew w w' o) : HRel μ h w' :=
  ⟨fun b x hb => let ⟨c, β, N, hm, hr⟩ := hh.blk b x hb; ⟨c, β, N, hm, hr.mono (Ext.refl _) (g.keep c hr.lt)⟩, hh.inj, hh.dom, fun k hk => ⟨(hh.glb k hk).1.keep (g.keep _ (hh.glb k hk).1.lt), (hh.glb k hk).2⟩⟩
theorem HRel.other {h : H} {w w' : World} {c : Nat} (hh : HRel μ h w) (o : Only w w' c) (hl : ¬ Live μ h c) (hg : ∀ k ∈ h.g, k.blk ≠ c) : HRel μ h w' :=
  ⟨fun b x hb => let ⟨c', β, N, hm, hr⟩ := hh.blk b x hb; ⟨c', β, N, hm, hr.mono (Ext.refl _) (o.keep c' fun e => hl (e ▸ ⟨b, x, β, N, hb, hm⟩))⟩, hh.inj, hh.dom, fun k hk => ⟨(hh.glb k hk).1.keep (o.keep _ (hg k hk)), (hh.glb k hk).2⟩⟩
def updK (κ : Lm) (s c : Nat) : Lm := fun t => if t = s then some c else κ t
/-- a slot laid in a new block -/
theorem LRel.lay {κ : Lm} {ls : Ls} {h : H} {w w' : World} {w₀ : Nat} {o : Obj} (hL : LRel μ κ ls h w w₀) (hh : HRel μ h w) (hw : w₀ ≤ w.heap.size) (g : Grew w w' o) (s : Nat) (cs : List V)
    (hr : Row μ cs w' w.heap.size 0 cs.length) : LRel μ (updK κ s w.heap.size) (setSlot ls s cs) h w' w₀ := by
  refine ⟨fun s' cs' hs => ?_, fun s1 s2 c1 c2 c h1 h2 k1 k2 => ?_, hL.glo⟩
  · rw [slot_set] at hs
    split at hs
    · rename_i e
      cases hs
      refine ⟨w.heap.size, by simp [updK, e.1], hr, fun hl => ?_, hw⟩
      have := hh.liveLt hl
      omega
    · rename_i e
      obtain ⟨c, hc, hrow, hl, hw'⟩ := hL.blk s' cs' hs
      by_cases e1 : s' = s
      · subst e1
        rw [slot_out ls s' fun h => e ⟨rfl, h⟩] at hs
        cases hs
      · exact ⟨c, by simp [updK, e1, hc], hrow.mono (Ext.refl _) (g.keep c hrow.lt), hl, hw'⟩
  · have key : ∀ t c1, slot (setSlot ls s cs) t = some c1 → (t = s) ∨ (t ≠ s ∧ slot ls t = some c1) := by
      intro t c1 ht
      by_cases e : t = s
      · exact .inl e
      · rw [slot_set, if_neg (fun h => e h.1)] at ht; exact .inr ⟨e, ht⟩
    unfold updK at k1 k2
    rcases key s1 c1 h1 with e1 | ⟨e1, g1⟩ <;> rcases key s2 c2 h2 with e2 | ⟨e2, g2⟩
    · omega
    · rw [if_pos e1] at k1; rw [if_neg e2] at k2; cases k1
      obtain ⟨c', hc', hrow, _⟩ := hL.blk s2 c2 g2
      rw [k2] at hc'; cases hc'
      have := hrow.lt; omega
    · rw [if_neg e1] at k1; rw [if_pos e2] at k2; cases k2
      obtain ⟨c', hc', hrow, _⟩ := hL.blk s1 c1 g1
      rw [k1] at hc'; cases hc'
      have := hrow.lt; omega
    · rw [if_neg e1] at k1; rw [if_neg e2] at k2
      exact hL.inj s1 s2 c1 c2 c g1 g2 k1 k2
theorem FrW.grow {w₀ : Nat} {h : H} {w w' : World} {o : Obj} (g : Grew w w' o) (hw : w₀ ≤ w.heap.size) : FrW w₀ μ h w μ h w' :=
  ⟨Ext.refl _, Nat.le_refl _, by rw [g.size]; omega, fun c hc _ => g.keep c (by omega), fun c hl => .inl hl, g.tape, g.os, g.out, rfl⟩
theorem FrW.only {w₀ c : Nat} {h : H} {w w' : World} (g : Only w w' c) (hc : w₀ ≤ c) : FrW w₀ μ h w μ h w' :=
  ⟨Ext.refl _, Nat.le_refl _, by rw [g.size]; omega, fun d hd _ => g.keep d (by omega), fun c hl => .inl hl, g.tape, g.os, g.out, rfl⟩
/-- a slot written -/
theorem LRel.write {κ : Lm} {ls : Ls} {h : H} {w w' : World} {w₀ c : Nat} (hL : LRel μ κ ls h w w₀) {s : Nat} {cs new : List V} (hs : slot ls s = some cs) (hc : κ s = some c) (g : Only w w' c)
    (hr : Row μ new w' c 0 new.length) : LRel μ κ (setSlot ls s new) h w' w₀ := by
  have old : ∀ t c1, slot (setSlot ls s new) t = some c1 → ∃ c2, slot ls t = some c2 := by
    intro t c1 ht
    rw [slot_set] at ht
    split at ht
    · rename_i e; exact ⟨cs, by rw [e.1]; exact hs⟩
    · exact ⟨c1, ht⟩
  refine ⟨fun s' cs' hs' => ?_, fun s1 s2 c1 c2 d h1 h2 k1 k2 => ?_, hL.glo⟩
  · rw [slot_set] at hs'
    split at hs'
    · rename_i e
      cases hs'
      obtain ⟨c', hc', hrow, hl, hw'⟩ := hL.blk s cs hs
      rw [hc] at hc'; cases hc'
      exact ⟨c, by rw [e.1]; exact hc, hr, hl, hw'⟩
    · rename_i e
      obtain ⟨c', hc', hrow, hl, hw'⟩ := hL.blk s' cs' hs'
      by_cases e1 : s' = s
      · subst e1
        rw [slot_out ls s' fun h => e ⟨rfl, h⟩] at hs'
        cases hs'
      · refine ⟨c', hc', hrow.mono (Ext.refl _) (g.keep c' fun ec => ?_), hl, hw'⟩
        subst ec
        exact e1 (hL.inj s' s cs' cs c' hs' hs hc' hc)
  · obtain ⟨d1, g1⟩ := old s1 c1 h1
    obtain ⟨d2, g2⟩ := old s2 c2 h2
    exact hL.inj s1 s2 d1 d2 d g1 g2 k1 k2

theorem Row.new0 (w : World) (cs : List V) (ys : Array Value) (e : TypeId) (hv : VRs μ cs ys.toList) (ho : oneCells ys.toList) :
    Row μ cs (w.alloc (.cells ys e)) w.heap.size 0 cs.length := by
  have := Row.new w cs ys.toList e hv ho []
  simpa using this
theorem res_lay {kd : List Kd} {c : Ctx} {κ : Lm} {vs ts : List V} {ls : Ls} {h : H} {w : World} {w₀ : Nat} {ev : Operand → Value} {xs : Operand → Prop} {o : Oper} (hx : Cx P T kd c μ κ vs ts ls h w w₀ ev xs)
    (op : O) (s : Nat) (cs : List V) (ys : Array Value) (e : TypeId) (hv : VRs μ cs ys.toList) (ho : oneCells ys.toList) (hb : boxed op = some s) (hl : lays op = some s) (rt : Rt)
    (hr : (execOp ev o).run P w = .ok (.value (.pointer (some ⟨w.heap.size, 0, none⟩))) (w.alloc (.cells ys e))) :
    Does P o ev w (Res μ κ h w w₀ op rt undef (setSlot ls s cs) h) := by
  have g := Grew.alloc w (.cells ys e)
  refine .inl ⟨_, _, ⟨μ, updK κ s w.heap.size, hx.H.grow g, hx.L.lay hx.H hx.w g s cs (Row.new0 w cs ys e hv ho), FrW.grow g hx.w, ?_, ?_⟩, .inl hr⟩
  · rw [hb]; exact ⟨w.heap.size, by simp [updK], rfl⟩
  · intro t ht
    rw [hl] at ht
    have : t ≠ s := fun e => ht (by rw [e])
    simp [updK, this]
theorem ok_alloc (d : Option Nat) (t : Nat) (ty : Nat) (pos : String) (af : Array Edge) (g : Option (Nat × Bool)) : OpOK P T call ⟨d, .alloc t, ty, pos, af, g⟩ := by
  intro kd c μ κ vs ts ls h w w₀ ev v ls' h' hx he
  simp only [compO] at he ⊢
  cases hi : tInfo T t with
  | none => simp [hi, o?, evO, e_no] at he
  | some ti =>
  obtain ⟨z, hz, hv, hvc, ho, hs⟩ := run_zeroValue hx.T hi w
  simp only [hi, o?] at he ⊢
  have hr : (execOp ev ⟨d, .alloc t, ty, pos, af, g⟩).run P w = .ok (.value (.pointer (some ⟨w.heap.size, 0, none⟩))) (w.alloc (.cells z.cells t)) := by
    simp only [execOp, Instr.alloc, Sem.run_bind, hz, Result.andThen_ok, newVar, newRow, run_newObj, Sem.run_pure]; rfl
  have heap : (O.hal ti.zc, (none : Rt)) = (O.hal ti.zc, none) → evO call vs ts ls h (.hal ti.zc) = .ok v ls' h' → Does P ⟨d, .alloc t, ty, pos, af, g⟩ ev w (Res μ κ h w w₀ (.hal ti.zc) none v ls' h') := by
    intro _ he
    simp only [evO, e_hal, Rs.ok.injEq] at he
    obtain ⟨rfl, rfl, rfl⟩ := he
    have gr := Grew.alloc w (.cells z.cells t)
    have hN := hx.H.new gr (.cells ti.zc) ti.zc.length (Row.new0 w ti.zc z.cells t (hvc _) ho)
    refine Does.heap hx hN (Fr.new hx.H gr (.cells ti.zc) ti.zc.length) (y := .pointer (some ⟨w.heap.size, 0, none⟩)) ?_ rfl (.inl hr)
    exact .p (β := 0) (upd_self _ _)
  cases hso : slotOf kd d with
  | none =>
    simp only [hso] at he ⊢
    exact heap rfl he
  | some p =>
    obtain ⟨s, b⟩ := p
    cases b with
    | true =>
      simp only [hso] at he ⊢
      exact heap rfl he
    | false =>
      simp only [hso] at he ⊢
      cases hf : freeS s c.rt with
      | false => simp [hf, evO, e_no] at he
      | true =>
        simp only [hf, cond_true, evO, e_lal, Rs.ok.injEq] at he ⊢
        obtain ⟨rfl, rfl, rfl⟩ := he
        exact res_lay hx _ s ti.zc z.cells t (hvc _) ho rfl rfl _ hr
theorem ok_box (d : Option Nat) (t : Nat) (x : Operand) (ty : Nat) (pos : String) (af : Array Edge) (g : Option (Nat × Bool)) : OpOK P T call ⟨d, .box t x, ty, pos, af, g⟩ := by
  intro kd c μ κ vs ts ls h w w₀ ev v ls' h' hx he
  simp only [compO] at he ⊢
  cases hi : tInfo T t with
  | none => simp [hi, evO, e_no] at he
  | some ti =>
  cases hX : opd kd c x with
  | none => simp [hi, hX, evO, e_no] at he
  | some X =>
  have rx := hx.O.v _ _ (by simp [Op.operands]) hX
  simp only [hi, hX] at he ⊢
  have hr : (execOp ev ⟨d, .box t x, ty, pos, af, g⟩).run P w = .ok (.value (.pointer (some ⟨w.heap.size, 0, none⟩))) (w.alloc (.cells (ev x).cells t)) := by
    simp only [execOp, Instr.box, Sem.run_bind, newVar, newRow, run_newObj, Sem.run_pure, Result.andThen_ok]; rfl
  have heap : evO call vs ts ls h (.hbx X) = .ok v ls' h' → Does P ⟨d, .box t x, ty, pos, af, g⟩ ev w (Res μ κ h w w₀ (.hbx X) none v ls' h') := by
    intro he
    simp only [evO, e_hbx] at he
    split at he
    · rename_i cs hcs
      simp only [Rs.ok.injEq] at he
      obtain ⟨rfl, rfl, rfl⟩ := he
      have gr := Grew.alloc w (.cells (ev x).cells t)
      have hc := (rx.mono (upd_ext (hx.H.dom h.n (Nat.le_refl _)) (r := (w.heap.size, 0, cs.length)))).cells hcs
      have hN := hx.H.new gr (.cells cs) cs.length (Row.new0 w cs (ev x).cells t hc.1 hc.2)
      refine Does.heap hx hN (Fr.new hx.H gr (.cells cs) cs.length) (y := .pointer (some ⟨w.heap.size, 0, none⟩)) ?_ rfl (.inl hr)
      exact .p (β := 0) (upd_self _ _)
    · cases he
  cases hso : slotOf kd d with
  | none =>
    simp only [hso] at he ⊢
    exact heap he
  | some p =>
    obtain ⟨s, b⟩ := p
    cases b with
    | true =>
      simp only [hso] at he ⊢
      exact heap he
    | false =>
      simp only [hso] at he ⊢
      cases hf : freeS s c.rt with
      | false => simp [hf, evO, e_no] at he
      | true =>
        simp only [hf, cond_true, evO, e_lbx] at he ⊢
        split at he
        · rename_i cs hcs
          simp only [Rs.ok.injEq] at he
          obtain ⟨rfl, rfl, rfl⟩ := he
          exact res_lay hx _ s cs (ev x).cells t (rx.cells hcs).1 (rx.cells hcs).2 rfl rfl _ hr
        · cases he
end Am
namespace Am
open Go
variable {P : Program} {T : TT} {call : CallT} {μ : Mp}

theorem flat_get {α : Type} (l : List α) : ∀ (n i : Nat), i < n * l.length → (List.replicate n l).flatten[i]? = l[i % l.length]?
  | 0, i, h => by simp at h
  | n + 1, i, h => by
    rw [List.replicate_succ, List.flatten_cons]
    by_cases hi : i < l.length
    · rw [List.getElem?_append_left hi, Nat.mod_eq_of_lt hi]
    · rw [List.getElem?_append_right (by omega), flat_get l n (i - l.length) (by rw [Nat.succ_mul] at h; omega)]
      congr 1
      conv => rhs; rw [show i = (i - l.length) + l.length by omega, Nat.add_mod_right]
theorem zeros_eq (n : Nat) (z : Array Value) (sz : Nat) (hz : z.size = sz) (hp : 0 < sz) : ((Array.range (n * sz)).map (z[· % z.size]!)).toList = (List.replicate n z.toList).flatten := by
  apply List.ext_getElem?
  intro i
  rw [Array.getElem?_toList, Array.getElem?_map]
  by_cases hi : i < n * sz
  · have hl : z.toList.length = sz := by simpa using hz
    rw [flat_get _ n i (by rw [hl]; exact hi), hl]
    have hm : i % sz < sz := Nat.mod_lt _ hp
    have : (Array.range (n * sz))[i]? = some i := by simp [hi]
    rw [this, hz]
    simp [hz, hm]
  · have : (Array.range (n * sz))[i]? = none := by simp; omega
    rw [this]
    symm
    rw [Option.map_none, List.getElem?_eq_none]
    have hl : z.toList.length = sz := by simpa using hz
    simp [hz] at hl ⊢
    omega
theorem sliceOf_ok {t : Nat} {te : TI} (hT : TOk P T) (h : sliceOf T t = some te) : ∃ e, P.underlying t = some (.slice e) ∧ tInfo T e = some te := by
  unfold sliceOf at h
  split at h
  · rename_i e hu; exact ⟨e, tUnd_ok hT hu, h⟩
  · cases h
theorem ok_buildSlice (d : Option Nat) (t n : Nat) (ps : Array (Nat × Operand)) (ty : Nat) (pos : String) (af : Array Edge) (g : Option (Nat × Bool)) : OpOK P T call ⟨d, .buildSlice t n ps, ty, pos, af, g⟩ := by
  intro kd c μ κ vs ts ls h w w₀ ev v ls' h' hx he
  simp only [compO] at he ⊢
  cases hs : sliceOf T t with
  | none => simp [hs, evO, e_no] at he
  | some te =>
  cases hp : partsA kd c te.sz ps.toList with
  | none => simp [hs, hp, evO, e_no] at he
  | some L =>
  cases hb : Nat.ble (n * te.sz) 16777216 with
  | false => simp [hs, hp, hb, evO, e_no] at he
  | true =>
  simp only [hs, hp, hb, Bool.not_true, cond_false] at he ⊢
  obtain ⟨e, hu, hi⟩ := sliceOf_ok hx.T hs
  obtain ⟨z, hz, hv, hvc, ho, hzs⟩ := run_zeroValue hx.T hi w
  have hpos : 0 < te.sz := by obtain ⟨i, z, d, _, _, _, _, _, h0, _⟩ := tInfo_ok hx.T hi; exact h0
  have hle : n * te.sz ≤ 16777216 := Nat.le_of_ble_eq_true hb
  have hmem : ∀ p ∈ ps.toList, p.2 ∈ (Op.buildSlice t n ps).operands := by
    intro p hp
    simp only [Op.operands]
    rw [List.mem_toArray]
    exact List.mem_map.2 ⟨p, hp, rfl⟩
  have main : ∀ r, fillAll vs ts (vrep n te.zc) L = some r → r.length = n * te.sz → ∃ r' : Array Value, (execOp ev ⟨d, .buildSlice t n ps, ty, pos, af, g⟩).run P w = .ok (.value (.slice (some ⟨w.heap.size, 0, none⟩) n n)) (w.alloc (.cells r' e)) ∧ VRs μ r r'.toList ∧ oneCells r'.toList := by
    intro r hr hl
    have hz0 : VRs μ (vrep n te.zc) ((Array.range (n * te.sz)).map (z.cells[· % z.cells.size]!)).toList ∧ oneCells ((Array.range (n * te.sz)).map (z.cells[· % z.cells.size]!)).toList := by
      rw [zeros_eq n z.cells te.sz hzs hpos, vrep_eq]
      refine ⟨(hvc μ).flat n, ?_⟩
      intro y hy
      rw [List.mem_flatten] at hy
      obtain ⟨l, hl, hy⟩ := hy
      rw [List.mem_replicate] at hl
      rw [hl.2] at hy
      exact ho y hy
    obtain ⟨r', e1, e2, e3⟩ := fill_ok hx.O (fun i => some (i * te.sz, te.sz)) ps.toList L _ r _ (fun p hp => hmem p hp) (partsA_ok _ _ hp) hz0.1 hz0.2 hr
    refine ⟨r', ?_, e2, e3⟩
    simp only [execOp, Instr.buildSlice, Sem.run_bind, run_underlying hu, run_sizeOf hx.T hi, Result.andThen_ok]
    rw [if_neg (by simpa using hle)]
    by_cases h0 : n * te.sz = 0
    · have hn0 : n = 0 := by rcases Nat.mul_eq_zero.1 h0 with h | h <;> omega
      simp only [h0, if_true, Sem.run_bind, Sem.run_pure, Result.andThen_ok]
      rw [h0] at e1
      rw [mapPairs]
      have e1' : Instr.fill (fun i => some (i * te.sz, te.sz)) (Array.map (fun x => (#[] : Array Value)[x % (#[] : Array Value).size]!) (Array.range 0)) (ps.toList.map fun p => (p.1, ev p.2)) = some r' := by
        have hr0 : ∀ f : Nat → Value, Array.map f (Array.range 0) = #[] := fun f => by rw [Array.range_zero']; simp
        rw [hr0] at e1
        rw [hr0]
        exact e1
      simp only [e1', Sem.run_bind, newRow, run_newObj, Sem.run_pure, Result.andThen_ok]
      rfl
    · simp only [h0, if_false, Sem.run_bind, hz, Sem.run_pure, Result.andThen_ok]
      rw [mapPairs]
      simp only [e1, Sem.run_bind, newRow, run_newObj, Sem.run_pure, Result.andThen_ok]
      rfl
  have heap : evO call vs ts ls h (.hbs n te.sz te.zc L) = .ok v ls' h' → Does P ⟨d, .buildSlice t n ps, ty, pos, af, g⟩ ev w (Res μ κ h w w₀ (.hbs n te.sz te.zc L) none v ls' h') := by
    intro he
    simp only [evO, e_hbs] at he
    split at he
    · rename_i r hr
      simp only [vlen_eq, Nat.add_zero] at he
      cases hbl : Nat.beq r.length (n * te.sz) with
      | false => rw [hbl] at he; simp at he
      | true =>
        rw [hbl] at he
        have hl : r.length = n * te.sz := by simpa [Nat.beq_eq] using hbl
        simp only [cond_true, Rs.ok.injEq] at he
        obtain ⟨rfl, rfl, rfl⟩ := he
        obtain ⟨r', hrun, e2, e3⟩ := main r hr hl
        have gr := Grew.alloc w (.cells r' e)
        have hN := hx.H.new gr (.cells r) r.length (Row.new0 w r r' e (e2.mono (upd_ext (hx.H.dom h.n (Nat.le_refl _)))) e3)
        refine Does.heap hx hN (Fr.new hx.H gr (.cells r) r.length) (y := .slice (some ⟨w.heap.size, 0, none⟩) n n) ?_ rfl (.inl hrun)
        exact .sl (β := 0) (upd_self _ _) (Nat.le_refl _) (by simp) (.inr rfl) (by omega)
    · cases he
  cases hso : slotOf kd d with
  | none => simp only [hso] at he ⊢; exact heap he
  | some p =>
    obtain ⟨s, b⟩ := p
    cases b with
    | false => simp only [hso] at he ⊢; exact heap he
    | true =>
      simp only [hso] at he ⊢
      cases hf : freeS s c.rt with
      | false => simp [hf, evO, e_no] at he
      | true =>
        simp only [hf, cond_true, evO, e_lbs] at he ⊢
        split at he
        · rename_i r hr
          simp only [vlen_eq, Nat.add_zero] at he
          cases hbl : Nat.beq r.length (n * te.sz) with
          | false => rw [hbl] at he; simp at he
          | true =>
            rw [hbl] at he
            have hl : r.length = n * te.sz := by simpa [Nat.beq_eq] using hbl
            simp only [cond_true, Rs.ok.injEq] at he
            obtain ⟨rfl, rfl, rfl⟩ := he
            obtain ⟨r', hrun, e2, e3⟩ := main r hr hl
            have gr := Grew.alloc w (.cells r' e)
            refine .inl ⟨_, _, ⟨μ, updK κ s w.heap.size, hx.H.grow gr, hx.L.lay hx.H hx.w gr s r (Row.new0 w r r' e e2 e3), FrW.grow gr hx.w, ?_, ?_⟩, .inl hrun⟩
            · simp only [RR, boxed]
              intro p m hpm
              cases hpm
              exact ⟨w.heap.size, 0, n, by simp [updK], rfl, .inr rfl, Nat.le_refl _⟩
            · intro t ht
              have : t ≠ s := fun e => ht (by rw [e]; rfl)
              simp [updK, this]
        · cases he

/-! Places -/
theorem run_loadVar {t : Nat} {ti : TI} (hT : TOk P T) (hi : tInfo T t = some ti) {w : World} {b β N o : Nat} {cs : List V} {r : V} (hr : Row μ cs w b β N) (e : rd cs o ti.g ti.sz = some r) :
    ∃ y, (loadVar t ⟨b, β + o, none⟩).run P w = .ok y w ∧ VRel μ r y := by
  obtain ⟨l, hl, hm⟩ := rd_ok e
  obtain ⟨hlen, rfl, hle⟩ := part_some hl
  have hpos : 0 < ti.sz := by obtain ⟨i, z, d, _, _, _, _, _, h0, _⟩ := tInfo_ok hT hi; exact h0
  have hle' : o + ti.sz ≤ cs.length := by omega
  obtain ⟨ys, h1, h2, h3⟩ := hr.load (P := P) o ti.sz hle'
  simp only [loadVar, Sem.run_bind, run_isAgg hT hi, Result.andThen_ok]
  cases hg : ti.g with
  | true =>
    rw [hg] at hm
    simp [mkV] at hm
    subst hm
    refine ⟨.agg ys.toArray, ?_, .a (by simpa using h2) (by simpa [oneCells] using h3)⟩
    simp [run_sizeOf hT hi, h1]
  | false =>
    rw [hg] at hm
    have h1' := mkV_false hm
    rw [h1'] at h2
    cases h2 with | cons hv h2 =>
    cases h2
    rename_i y
    refine ⟨y, ?_, hv⟩
    simp only [Bool.false_eq_true, if_false, run_load]
    have hsz : ti.sz = 1 := by rw [← hlen, h1']; rfl
    rw [hsz] at h1
    simp only [loadCells, loadCellsFrom, Sem.run_bind, run_load, Addr.add_zero'] at h1
    cases hc : w.cell? ⟨b, β + o, none⟩ with
    | some u =>
      rw [hc] at h1
      simp at h1
      rw [h1]
    | none =>
      exfalso
      have hlt : o < cs.length := by omega
      obtain ⟨y', hy', _⟩ := hr.cell o cs[o] (by simp [hlt])
      rw [hc] at hy'
      cases hy'
theorem run_storeVar {t : Nat} {ti : TI} (hT : TOk P T) (hi : tInfo T t = some ti) {w : World} {b β N o : Nat} {cs new cs2 : List V} {x : V} {y : Value} (hr : Row μ cs w b β N) (hv : VRel μ x y) (hc : x.cs? = some new) (hl : new.length = ti.sz)
    (e : wrt cs o new = some cs2) : ∃ w', (storeVar t ⟨b, β + o, none⟩ y).run P w = .ok () w' ∧ Row μ cs2 w' b β N ∧ Only w w' b ∧ cs2.length = cs.length := by
  obtain ⟨hle, rfl⟩ := wrt_some e
  obtain ⟨h1, h2⟩ := hv.cells hc
  obtain ⟨w', e1, e2, e3⟩ := hr.store (P := P) o new y.cells.toList h1 h2 hle
  refine ⟨w', ?_, e2, e3, over_length _ _ _⟩
  have hs : y.cells.size = ti.sz := by rw [← Array.length_toList, ← h1.length, hl]
  simp only [storeVar, Sem.run_bind, run_sizeOf hT hi, Result.andThen_ok, hs, ne_eq, not_true, if_false]
  exact e1
theorem ok_load (d : Option Nat) (t : Nat) (x : Operand) (ty : Nat) (pos : String) (af : Array Edge) (g : Option (Nat × Bool)) : OpOK P T call ⟨d, .load t x, ty, pos, af, g⟩ := by
  intro kd c μ κ vs ts ls h w w₀ ev v ls' h' hx he
  simp only [compO] at he ⊢
  cases hi : tInfo T t with
  | none => simp [hi, o?, evO, e_no] at he
  | some ti =>
  simp only [hi, o?] at he ⊢
  cases hl : lpl false kd c x with
  | some p =>
    obtain ⟨s, q⟩ := p
    simp only [hl, evO, e_lld] at he ⊢
    split at he
    · rename_i p cs hp hcs
      obtain ⟨e, rfl, rfl⟩ := Rs.of_ok he
      obtain ⟨b, hk, hev⟩ := hx.O.l x s q p cs (by simp [Op.operands]) hl hp hcs
      obtain ⟨b', hk', hrow, _⟩ := hx.L.blk s cs hcs
      rw [hk] at hk'
      cases hk'
      obtain ⟨y, h1, h2⟩ := run_loadVar (P := P) hx.T hi hrow e
      rw [Nat.zero_add] at h1
      exact Does.pure hx h2 rfl (by simp [execOp, Instr.loadAt, hev, Instr.sureAddr, h1])
    · cases he
  | none =>
    simp only [hl] at he ⊢
    cases hX : opd kd c x with
    | none => simp [hX, evO, e_no] at he
    | some X =>
      simp only [hX, evO, e_ld] at he ⊢
      have rx := hx.O.v _ _ (by simp [Op.operands]) hX
      split at he
      · rename_i b o hb
        split at he
        · rename_i cs hcs
          obtain ⟨e, rfl, rfl⟩ := Rs.of_ok he
          rw [hb] at rx
          generalize hex : ev x = vx at rx
          cases rx with | p hm =>
          obtain ⟨c', β', N', hm', hr⟩ := hx.H.blk b _ hcs
          rw [hm] at hm'
          cases hm'
          obtain ⟨y, h1, h2⟩ := run_loadVar (P := P) hx.T hi hr e
          exact Does.pure hx h2 rfl (by simp [execOp, Instr.loadAt, hex, Instr.sureAddr, h1])
        · cases he
      · cases he
theorem ok_store (d : Option Nat) (t : Nat) (x z : Operand) (ty : Nat) (pos : String) (af : Array Edge) (g : Option (Nat × Bool)) : OpOK P T call ⟨d, .store t x z, ty, pos, af, g⟩ := by
  intro kd c μ κ vs ts ls h w w₀ ev v ls' h' hx he
  simp only [compO] at he ⊢
  cases hi : tInfo T t with
  | none => simp [hi, evO, e_no] at he
  | some ti =>
  cases hZ : opd kd c z with
  | none => simp [hi, hZ, evO, e_no] at he
  | some Z =>
  simp only [hi, hZ] at he ⊢
  have rz := hx.O.v _ _ (by simp [Op.operands]) hZ
  cases hl : lpl false kd c x with
  | some p =>
    obtain ⟨s, q⟩ := p
    simp only [hl, evO, e_lst] at he ⊢
    split at he
    · rename_i p cs hp hcs
      split at he
      · rename_i new hnew
        simp only [vlen_eq, Nat.add_zero] at he
        cases hbl : Nat.beq new.length ti.sz with
        | false => rw [hbl] at he; simp at he
        | true =>
          rw [hbl] at he
          have hln : new.length = ti.sz := by simpa [Nat.beq_eq] using hbl
          simp only [cond_true] at he
          split at he
          · rename_i cs2 hw
            simp only [Rs.ok.injEq] at he
            obtain ⟨rfl, rfl, rfl⟩ := he
            obtain ⟨b, hk, hev⟩ := hx.O.l x s q p cs (by simp [Op.operands]) hl hp hcs
            obtain ⟨b', hk', hrow, hlive, hw0⟩ := hx.L.blk s cs hcs
            rw [hk] at hk'
            cases hk'
            obtain ⟨w', e1, e2, e3, e4⟩ := run_storeVar (P := P) hx.T hi hrow rz hnew hln hw
            rw [Nat.zero_add] at e1
            rw [← e4] at e2
            refine .inl ⟨Go.undef, w', ⟨μ, κ, hx.H.other e3 hlive (fun k hk => by have := hx.L.glo k hk; omega), hx.L.write hcs hk e3 e2, FrW.only e3 hw0, VRel.undef μ, fun _ _ => rfl⟩, .inr ⟨?_, rfl⟩⟩
            simp [execOp, Instr.storeAt, hev, Instr.sureAddr, e1]
          · cases he
      · cases he
    · cases he
  | none =>
    simp only [hl] at he ⊢
    cases hX : opd kd c x with
    | none => simp [hX, o?, evO, e_no] at he
    | some X =>
      simp only [hX, o?, evO, e_st] at he ⊢
      have rx := hx.O.v _ _ (by simp [Op.operands]) hX
      split at he
      · rename_i b o hb
        split at he
        · rename_i cs hcs
          split at he
          · rename_i new hnew
            simp only [vlen_eq, Nat.add_zero] at he
            cases hbl : Nat.beq new.length ti.sz with
            | false => rw [hbl] at he; simp at he
            | true =>
              rw [hbl] at he
              have hln : new.length = ti.sz := by simpa [Nat.beq_eq] using hbl
              simp only [cond_true] at he
              split at he
              · rename_i cs2 hw
                simp only [Rs.ok.injEq] at he
                obtain ⟨rfl, rfl, rfl⟩ := he
                rw [hb] at rx
                generalize hex : ev x = vx at rx
                cases rx with | p hm =>
                obtain ⟨c', β', N', hm', hr⟩ := hx.H.blk b _ hcs
                rw [hm] at hm'
                cases hm'
                obtain ⟨w', e1, e2, e3, e4⟩ := run_storeVar (P := P) hx.T hi hr rz hnew hln hw
                refine Does.heap hx (hx.H.put hcs hm e3 e2) (Fr.put hcs hm e3) (VRel.undef μ) rfl (.inr ⟨?_, rfl⟩)
                simp [execOp, Instr.storeAt, hex, Instr.sureAddr, e1]
              · cases he
          · cases he
        · cases he
      · cases he
end Am
namespace Am
open Go
variable {P : Program} {T : TT} {call : CallT} {μ : Mp}

theorem ok_fieldAddr (d : Option Nat) (t : Nat) (x : Operand) (n : Nat) (ty : Nat) (pos : String) (af : Array Edge) (g : Option (Nat × Bool)) : OpOK P T call ⟨d, .fieldAddr t x n, ty, pos, af, g⟩ := by
  intro kd c μ κ vs ts ls h w w₀ ev v ls' h' hx he
  simp only [compO] at he ⊢
  cases hf : fieldOf T t n with
  | none => simp [hf, o?, evO, e_no] at he
  | some p =>
  obtain ⟨off, ti⟩ := p
  obtain ⟨fs, fl, hu, hfl, hoff, hi⟩ := fieldOf_ok hx.T hf
  have hpos : 0 < ti.sz := by obtain ⟨i, z, d, _, _, _, _, _, h0, _⟩ := tInfo_ok hx.T hi; exact h0
  have hplace : ∀ b o, (fieldPlace ⟨b, o, none⟩ fl).run P w = .ok ⟨b, o + off, none⟩ w := by
    intro b o
    simp only [fieldPlace, Sem.run_bind, run_sizeOf hx.T hi, Result.andThen_ok]
    rw [if_neg (by omega), Sem.run_pure, add_off, hoff]
  simp only [hf, o?] at he ⊢
  cases hl : lpl false kd c x with
  | some p =>
    obtain ⟨s, q⟩ := p
    simp only [hl, evO, e_lfa] at he ⊢
    split at he
    · rename_i p cs hp hcs
      simp only [Rs.ok.injEq] at he
      obtain ⟨rfl, rfl, rfl⟩ := he
      obtain ⟨b, hk, hev⟩ := hx.O.l x s q p _ (by simp [Op.operands]) hl hp hcs
      refine .inl ⟨.pointer (some ⟨b, p + off, none⟩), w, ⟨μ, κ, hx.H, hx.L, FrW.refl _ _ _ _, ?_, fun _ _ => rfl⟩, .inl ?_⟩
      · simp only [RR, boxed]
        intro p' hp'
        cases hp'
        exact ⟨b, hk, rfl⟩
      · simp [execOp, Instr.fieldAt, run_underlying hu, hfl, hev, Instr.sureAddr, hplace]
    · cases he
  | none =>
    simp only [hl] at he ⊢
    cases hX : opd kd c x with
    | none => simp [hX, evO, e_no] at he
    | some X =>
      simp only [hX, evO, e_fa] at he ⊢
      have rx := hx.O.v _ _ (by simp [Op.operands]) hX
      split at he
      · rename_i b p hb
        simp only [Rs.ok.injEq] at he
        obtain ⟨rfl, rfl, rfl⟩ := he
        rw [hb] at rx
        generalize hex : ev x = vx at rx
        cases rx with | p hm =>
        rename_i c' β N
        refine Does.pure hx (y := .pointer (some ⟨c', β + p + off, none⟩)) ?_ rfl ?_
        · rw [Nat.add_assoc]; exact .p hm
        · simp [execOp, Instr.fieldAt, run_underlying hu, hfl, hex, Instr.sureAddr, hplace]
      · cases he
theorem run_asIntOf (k : IntKind) (n : Int) (w : World) : (asIntOf (.int k n)).run P w = .ok (k, n) w := rfl
theorem ok_indexAddr (d : Option Nat) (t : Nat) (x i : Operand) (ty : Nat) (pos : String) (af : Array Edge) (g : Option (Nat × Bool)) : OpOK P T call ⟨d, .indexAddr t x i, ty, pos, af, g⟩ := by
  intro kd c μ κ vs ts ls h w w₀ ev v ls' h' hx he
  simp only [compO] at he ⊢
  cases hu : tUnd T t with
  | none => simp [hu, evO, e_no] at he
  | some k =>
  cases hI : opd kd c i with
  | none => cases k <;> simp [hu, hI, evO, e_no] at he
  | some I =>
  have hP := tUnd_ok hx.T hu
  have ri := hx.O.v _ _ (by simp [Op.operands]) hI
  cases k <;> simp only [hu, hI, evO, e_no, reduceCtorEq] at he ⊢
  case array n e =>
    cases hi : tInfo T e with
    | none => simp [hi, o?] at he
    | some te =>
    simp only [hi, o?] at he ⊢
    cases hl : lpl false kd c x with
    | some p =>
      obtain ⟨s, q⟩ := p
      simp only [hl, e_lia] at he ⊢
      split at he
      · rename_i p cs m hp hcs hm
        cases hb : Nat.blt m n with
        | false => rw [hb] at he; simp at he
        | true =>
          rw [hb] at he
          have hlt : m < n := by simpa using hb
          simp only [cond_true, Rs.ok.injEq] at he
          obtain ⟨rfl, rfl, rfl⟩ := he
          obtain ⟨b, hk, hev⟩ := hx.O.l x s q p _ (by simp [Op.operands]) hl hp hcs
          obtain ⟨ki, hki⟩ := inat_ok hm
          rw [hki] at ri
          generalize hei : ev i = vi at ri
          cases ri
          refine .inl ⟨.pointer (some ⟨b, p + m * te.sz, none⟩), w, ⟨μ, κ, hx.H, hx.L, FrW.refl _ _ _ _, ?_, fun _ _ => rfl⟩, .inl ?_⟩
          · simp only [RR, boxed]
            intro p' hp'
            cases hp'
            exact ⟨b, hk, rfl⟩
          · have h0 : (0 : Int) ≤ Int.ofNat m ∧ Int.ofNat m < (n : Int) := by constructor <;> simp <;> omega
            have : (Int.ofNat m).toNat = m := rfl
            simp only [execOp, Instr.indexAt, hei, run_asIntOf, Sem.run_bind, Result.andThen_ok, run_underlying hP, hev, Instr.sureAddr, Sem.run_pure]
            rw [if_pos h0]
            simp [run_sizeOf hx.T hi, add_off]
      · cases he
    | none =>
      simp only [hl] at he ⊢
      cases hX : opd kd c x with
      | none => simp [hX] at he
      | some X =>
        simp only [hX, e_iaA] at he ⊢
        have rx := hx.O.v _ _ (by simp [Op.operands]) hX
        split at he
        · rename_i b o m hb hm
          cases hbl : Nat.blt m n with
          | false => rw [hbl] at he; simp at he
          | true =>
            rw [hbl] at he
            have hlt : m < n := by simpa using hbl
            simp only [cond_true, Rs.ok.injEq] at he
            obtain ⟨rfl, rfl, rfl⟩ := he
            obtain ⟨ki, hki⟩ := inat_ok hm
            rw [hki] at ri
            rw [hb] at rx
            generalize hei : ev i = vi at ri
            generalize hex : ev x = vx at rx
            cases ri
            cases rx with | p hmu =>
            rename_i c' β N
            refine Does.pure hx (y := .pointer (some ⟨c', β + o + m * te.sz, none⟩)) ?_ rfl ?_
            · rw [Nat.add_assoc]; exact .p hmu
            · have h0 : (0 : Int) ≤ Int.ofNat m ∧ Int.ofNat m < (n : Int) := by constructor <;> simp <;> omega
              have : (Int.ofNat m).toNat = m := rfl
              simp only [execOp, Instr.indexAt, hei, run_asIntOf, Sem.run_bind, Result.andThen_ok, run_underlying hP, hex, Instr.sureAddr, Sem.run_pure]
              rw [if_pos h0]
              simp [run_sizeOf hx.T hi, add_off]
        · cases he
  case slice e =>
    cases hi : tInfo T e with
    | none => simp [hi] at he
    | some te =>
    cases hX : opd kd c x with
    | none => simp [hi, hX] at he
    | some X =>
    simp only [hi, hX, e_ia] at he ⊢
    have rx := hx.O.v _ _ (by simp [Op.operands]) hX
    split at he
    · rename_i b o n sz' cap m hb hm
      cases hbl : (Nat.blt m n && Nat.beq te.sz sz') with
      | false => rw [hbl] at he; simp at he
      | true =>
        rw [hbl] at he
        rw [Bool.and_eq_true] at hbl
        have hlt : m < n := by simpa using hbl.1
        simp only [cond_true, Rs.ok.injEq] at he
        obtain ⟨rfl, rfl, rfl⟩ := he
        obtain ⟨ki, hki⟩ := inat_ok hm
        rw [hki] at ri
        rw [hb] at rx
        generalize hei : ev i = vi at ri
        generalize hex : ev x = vx at rx
        cases ri
        cases rx with | sl hmu hn hc ha hN =>
        rename_i c' β N a k
        have ha' : a = β + o := by rcases ha with h | h <;> omega
        subst ha'
        refine Does.pure hx (y := .pointer (some ⟨c', β + o + m * te.sz, none⟩)) ?_ rfl ?_
        · rw [Nat.add_assoc]; exact .p hmu
        · have h0 : (0 : Int) ≤ Int.ofNat m ∧ Int.ofNat m < (n : Int) := by constructor <;> simp <;> omega
          have : (Int.ofNat m).toNat = m := rfl
          simp only [execOp, Instr.indexAt, hei, run_asIntOf, Sem.run_bind, Result.andThen_ok, run_underlying hP, hex, Sem.run_pure]
          rw [if_pos h0]
          simp [run_sizeOf hx.T hi, add_off]
    · cases he

/-! Slices -/
theorem opdO_ok {kd : List Kd} {c : Ctx} {κ : Lm} {vs ts : List V} {ls : Ls} {ev : Operand → Value} {xs : Operand → Prop} (hO : ORel kd c μ κ vs ts ls ev xs) {o : Option Operand} {X : Option X} (h : opdO kd c o = some X) (hm : ∀ x, o = some x → xs x) :
    (o = none ∧ X = none) ∨ ∃ x Y, o = some x ∧ X = some Y ∧ VRel μ (getX vs ts Y) (ev x) := by
  cases o with
  | none => simp [opdO] at h; exact .inl ⟨rfl, h.symm⟩
  | some x =>
    simp only [opdO] at h
    split at h
    · rename_i Y hY
      cases h
      exact .inr ⟨x, Y, rfl, rfl, hO.v _ _ (hm x rfl) hY⟩
    · cases h
theorem nat_of {v : V} {y : Value} {n : Nat} (h : VRel μ v y) (e : inat v = some n) : ∃ k, y = .int k (n : Int) := by
  obtain ⟨k, rfl⟩ := inat_ok e
  cases h
  exact ⟨k, rfl⟩
theorem bounds_ok {kd : List Kd} {c : Ctx} {κ : Lm} {vs ts : List V} {ls : Ls} {ev : Operand → Value} {xs : Operand → Prop} (hO : ORel kd c μ κ vs ts ls ev xs) {lo hi : Option Operand} {L Hi : Option X} (hlo : opdO kd c lo = some L) (hhi : opdO kd c hi = some Hi)
    (hm : ∀ x, lo = some x ∨ hi = some x → xs x) {len l e cap : Nat} {capOk : Nat → Bool} (hc : ∀ k, capOk k = true → k ≤ cap) (hb : bounds vs ts len capOk L Hi = some (l, e)) :
    (hi.map ev = none ∧ e = len ∨ ∃ k, hi.map ev = some (.int k (e : Int)) ∧ e ≤ cap) ∧ (lo.map ev = none ∧ l = 0 ∨ ∃ k, lo.map ev = some (.int k (l : Int))) ∧ (l ≤ e) := by
  have h1 := opdO_ok hO hhi (fun x h => hm x (.inr h))
  have h2 := opdO_ok hO hlo (fun x h => hm x (.inl h))
  unfold bounds at hb
  have key : ∃ E, ((hi.map ev = none ∧ E = len) ∨ ∃ k, hi.map ev = some (.int k (E : Int)) ∧ E ≤ cap) ∧ lowB vs ts L E = some (l, e) := by
    rcases h1 with ⟨rfl, rfl⟩ | ⟨x, Y, rfl, rfl, hv⟩
    · simp only at hb
      exact ⟨len, .inl ⟨rfl, rfl⟩, hb⟩
    · simp only at hb
      cases hn : inat (getX vs ts Y) with
      | none => rw [hn] at hb; simp at hb
      | some n =>
        rw [hn] at hb
        simp only at hb
        cases hk : capOk n with
        | false => rw [hk] at hb; simp at hb
        | true =>
          rw [hk] at hb
          obtain ⟨k, hk'⟩ := nat_of hv hn
          exact ⟨n, .inr ⟨k, by simp [hk'], hc n hk⟩, by simpa using hb⟩
  obtain ⟨E, hE, hb'⟩ := key
  unfold lowB at hb'
  rcases h2 with ⟨rfl, rfl⟩ | ⟨x, Y, rfl, rfl, hv⟩
  · simp only [Option.some.injEq, Prod.mk.injEq] at hb'
    obtain ⟨rfl, rfl⟩ := hb'
    exact ⟨hE, .inl ⟨rfl, rfl⟩, Nat.zero_le _⟩
  · simp only at hb'
    cases hn : inat (getX vs ts Y) with
    | none => rw [hn] at hb'; simp at hb'
    | some n =>
      rw [hn] at hb'
      simp only at hb'
      cases hk : Nat.ble n E with
      | false => rw [hk] at hb'; simp at hb'
      | true =>
        rw [hk] at hb'
        simp only [cond_true, Option.some.injEq, Prod.mk.injEq] at hb'
        obtain ⟨rfl, rfl⟩ := hb'
        obtain ⟨k, hk'⟩ := nat_of hv hn
        exact ⟨hE, .inr ⟨k, by simp [hk']⟩, Nat.le_of_ble_eq_true hk⟩
theorem run_sliceBound (k : IntKind) (i y : Nat) (code : BoundsCode) (h : i ≤ y) (w : World) : (Instr.sliceBound (.int k (i : Int)) y code).run P w = .ok i w := by
  simp only [Instr.sliceBound, run_asIntOf, Sem.run_bind, Result.andThen_ok]
  rw [if_pos ⟨by omega, by omega⟩]
  simp
/-- the bounds, run -/
theorem run_bounds {isS : Bool} {len cap l e m : Nat} {lo hi mx : Option Value} (hh : hi = none ∧ e = len ∧ mx = none ∨ ∃ k, hi = some (.int k (e : Int))) (hl : lo = none ∧ l = 0 ∨ ∃ k, lo = some (.int k (l : Int)))
    (hmx : mx = none ∧ m = cap ∨ ∃ k, mx = some (.int k (m : Int))) (h1 : l ≤ e) (h2 : hi.isSome → e ≤ m) (h3 : m ≤ cap) (w : World) :
    (Instr.sliceBounds isS len cap lo hi mx).run P w = .ok (l, e, m) w := by
  rcases hmx with ⟨rfl, rfl⟩ | ⟨km, rfl⟩
  · rcases hh with ⟨rfl, rfl, _⟩ | ⟨kh, rfl⟩
    · rcases hl with ⟨rfl, rfl⟩ | ⟨kl, rfl⟩
      · simp [Instr.sliceBounds]
      · simp [Instr.sliceBounds, run_sliceBound _ _ _ _ h1]
    · have h2' := h2 rfl
      rcases hl with ⟨rfl, rfl⟩ | ⟨kl, rfl⟩
      · simp [Instr.sliceBounds, run_sliceBound _ _ _ _ h2']
      · simp [Instr.sliceBounds, run_sliceBound _ _ _ _ h1, run_sliceBound _ _ _ _ h2']
  · rcases hh with ⟨_, _, h⟩ | ⟨kh, rfl⟩
    · cases h
    · have h2' := h2 rfl
      rcases hl with ⟨rfl, rfl⟩ | ⟨kl, rfl⟩
      · simp [Instr.sliceBounds, run_sliceBound _ _ _ _ h2', run_sliceBound _ _ _ _ h3]
      · simp [Instr.sliceBounds, run_sliceBound _ _ _ _ h1, run_sliceBound _ _ _ _ h2', run_sliceBound _ _ _ _ h3]
end Am
