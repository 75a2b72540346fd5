/-
  An evaluator of the translated code on deep values: its values, its instructions, what they do. It holds for any program; nothing of a given program stands here.
-/
import Derived.Calls
import Derived.Laws.Entries
import Derived.Laws.World
import Derived.Laws.Cells
import Derived.Laws.AppendOwn
import Derived.Laws.OwnMore
import Derived.Laws.IdiomCopy
import Derived.Below
namespace Go.Av

/-- A value as the evaluator has it: what lies in memory that nobody writes any more stands in it whole ('slice', 'iptr'); what may still be written is told by the number of a block. -/
inductive AV where
  | undef
  | bool (b : Bool)
  | int (k : IntKind) (n : Int)
  | str (s : List UInt8)
  | nilptr
  | mptr (b off : Nat)
  | eptr (b n i off : Nat)
  | iptr (cs : List AV) (off : Nat)
  | nilslice
  | slice (x : Bool) (es : List AV)
  | mslice (b off len : Nat)
  | agg (cs : List AV)
  | tuple (vs : List AV)
  | nilfunc
  | func (f : Nat) (cap : List AV)
  | nilmap
  | map (b : Nat)
  | iter (b : Nat)
  | nilif
  deriving Inhabited

/-- A block that may still be written. 'fro': an array that was, and isn't any more. -/
inductive Blk where
  | var (ty : Nat) (cs : List AV)
  | arr (g : Option Nat) (s : Nat) (es : List AV)
  | fro (s : Nat) (es : List AV)
  | siter (s : List UInt8) (pos : Nat)
  | map (kd : Option IntKind) (m : List (AV × AV))
  deriving Inhabited

mutual
/-- One more than the greatest number of a block that a value leads to; 0: it leads to none. -/
def AV.top : AV → Nat
  | .mptr b _ => b + 1
  | .eptr b _ _ _ => b + 1
  | .mslice b _ _ => b + 1
  | .map b => b + 1
  | .iter b => b + 1
  | .agg cs => topAll cs
  | .tuple cs => topAll cs
  | .func _ cs => topAll cs
  | _ => 0
def topAll : List AV → Nat
  | [] => 0
  | v :: r => max (AV.top v) (topAll r)
end

mutual
/-- Are two values the same, letter by letter? -/
def AV.same : AV → AV → Bool
  | .undef, .undef => true
  | .bool a, .bool b => a == b
  | .int k a, .int l b => decide (k = l) && decide (a = b)
  | .str a, .str b => decide (a = b)
  | .nilptr, .nilptr => true
  | .mptr a b, .mptr c d => decide (a = c) && decide (b = d)
  | .eptr a b c d, .eptr e f g h => decide (a = e) && decide (b = f) && decide (c = g) && decide (d = h)
  | .iptr a b, .iptr c d => sameAll a c && decide (b = d)
  | .nilslice, .nilslice => true
  | .slice a b, .slice c d => (a == c) && sameAll b d
  | .mslice a b c, .mslice d e f => decide (a = d) && decide (b = e) && decide (c = f)
  | .agg a, .agg b => sameAll a b
  | .tuple a, .tuple b => sameAll a b
  | .nilfunc, .nilfunc => true
  | .func a b, .func c d => decide (a = c) && sameAll b d
  | .nilmap, .nilmap => true
  | .map a, .map b => decide (a = b)
  | .iter a, .iter b => decide (a = b)
  | .nilif, .nilif => true
  | _, _ => false
def sameAll : List AV → List AV → Bool
  | [], [] => true
  | a :: r, b :: q => AV.same a b && sameAll r q
  | _, _ => false
end

def sameMap : List (AV × AV) → List (AV × AV) → Bool
  | [], [] => true
  | a :: r, b :: q => AV.same a.1 b.1 && AV.same a.2 b.2 && sameMap r q
  | _, _ => false

def Blk.same : Blk → Blk → Bool
  | .var t a, .var u b => decide (t = u) && sameAll a b
  | .arr a b c, .arr d e f => decide (a = d) && decide (b = e) && sameAll c f
  | .fro a b, .fro c d => decide (a = c) && sameAll b d
  | .siter a b, .siter c d => decide (a = c) && decide (b = d)
  | .map k a, .map l b => decide (k = l) && sameMap a b
  | _, _ => false

def sameH : List Blk → List Blk → Bool
  | [], [] => true
  | a :: r, b :: q => Blk.same a b && sameH r q
  | _, _ => false

/-- May a value lie in one cell? -/
def isCell : AV → Bool
  | .undef => false
  | .agg _ => false
  | .tuple _ => false
  | _ => true

/-- The cells that a value takes in memory. -/
def AV.cells : AV → Option (List AV)
  | .agg cs => some cs
  | .undef => none
  | .tuple _ => none
  | v => some [v]

inductive Opd where
  | t (n : Nat)
  | c (v : AV)
  | g (n : Nat)

inductive Cv where
  | int (k : IntKind) | same | mark | strBytes | bytesStr | runeStr | runesStr | frozen

inductive MOp where
  | mv (x : Opd)
  | pick (c a b : Opd)
  | alloc (ty : Nat) (z : List AV)
  | box (ty : Nat) (x : Opd)
  | build (z : List AV) (parts : List (Nat × Nat × Opd))
  | mkSlice (s : Nat) (z : AV) (len : Nat) (parts : List (Nat × Opd))
  | mkSliceM (ty s : Nat) (z : AV) (len : Nat) (parts : List (Nat × Opd))
  | load (s : Option Nat) (a : Opd)
  | store (s : Nat) (a x : Opd)
  | nilCheck (x : Opd)
  | bin (op : BinOp) (x y : Opd)
  | eqp (neg : Bool) (k : Nat) (x y : Opd)
  | un (op : UnOp) (x : Opd)
  | conv (k : Cv) (x : Opd)
  | fieldA (x : Opd) (off : Nat)
  | field (x : Opd) (off : Nat) (s : Option Nat)
  | idxA (s : Nat) (x i : Opd)
  | idxArrA (n s : Nat) (x i : Opd)
  | idxStr (x i : Opd)
  | idxArr (n s : Nat) (agg : Bool) (x i : Opd)
  | sliceStr (x : Opd) (lo hi : Option Opd)
  | slice (s : Nat) (x : Opd) (lo hi mx : Option Opd)
  | rangeStr (x : Opd)
  | nextStr (x : Opd)
  | extract (x : Opd) (i : Nat)
  | func (f : Nat) (cap : List Opd)
  | call (f : Opd) (args : List Opd)
  | lenS (x : Opd)
  | lenL (x : Opd)
  | append (ty s bytes : Nat) (x y : Opd)
  | minmax (mx : Bool) (x y : Opd)
  | makeMap (kd : Option IntKind)
  | insert (kd : Option IntKind) (x k v : Opd)
  | lookup (kd : Option IntKind) (z : AV) (ok : Bool) (x i : Opd)

structure MInstr where
  dst : Option Nat
  op : MOp
  guard : Option (Nat × Bool)

/-- 'key': of an operation that changes blocks: those of them that are done behind it, in the text's order. -/
structure DInstr where
  i : MInstr
  key : Option (List Nat)

inductive M where
  | skip
  | ops (l : List MInstr) (keep : List Nat)
  /-- operations whose order is open; 'extra': at which other places each of them is to be looked at -/
  | draw (l : List DInstr) (extra : List (Nat × List Nat × List Nat)) (keep : List Nat)
  | seq (a b : M)
  | cond (c : Opd) (a b : M)
  | block (id : Nat) (b : M)
  | loop (keep : List Nat) (b : M)
  | exit (id : Nat)
  | scope (b : M)
  | ret

inductive RV where
  | t (n : Nat)
  | cell (t : Nat) (s : Option Nat)

structure MFunc where
  ntmps : Nat
  nargs : Nat
  results : List RV
  body : M
  /-- the arguments (by place) whose blocks may come to lead to what the call made; none of them: nothing that it made is left -/
  keep : Option (List Nat)

inductive Ex where
  | normal | exit (id : Nat) | ret
  deriving DecidableEq

structure St where
  fr : List (Nat × AV)
  base : Nat
  esc : Option (List Nat)
  h : List Blk

/-- What a call comes to: a value and the blocks behind it. -/
abbrev CallF := (Nat → Bool) → Nat → List AV → List Blk → Option (AV × List Blk)

section
variable (G : Nat → Option (List AV))

def fget (fr : List (Nat × AV)) (t : Nat) : AV :=
  match fr with
  | [] => .undef
  | (u, v) :: r => if u = t then v else fget r t

def fset (fr : List (Nat × AV)) (t : Nat) (v : AV) : List (Nat × AV) :=
  match fr with
  | [] => [(t, v)]
  | (u, x) :: r => if u = t then (t, v) :: r else (u, x) :: fset r t v

def fkeep (fr : List (Nat × AV)) : List Nat → List (Nat × AV)
  | [] => []
  | t :: r => (t, fget fr t) :: fkeep fr r

@[reducible] def Blk.top : Blk → Nat
  | .var _ cs => topAll cs
  | .arr _ _ es => topAll es
  | .fro _ es => topAll es
  | .siter _ _ => 0
  | .map _ m => max (topAll (m.map Prod.fst)) (topAll (m.map Prod.snd))

def Opd.get (fr : List (Nat × AV)) : Opd → AV
  | .t n => fget fr n
  | .c v => v
  | .g n => match G n with
    | some cs => .iptr cs 0
    | none => .undef

def oget (fr : List (Nat × AV)) : Option Opd → Option AV
  | none => none
  | some x => some (x.get G fr)

/-- cells put in the place of others, from a place on. -/
def putAt (cs : List AV) (off : Nat) (vs : List AV) : List AV :=
  match vs with
  | [] => cs
  | v :: r => putAt (cs.set off v) (off + 1) r

def takeCells (cs : List AV) (off : Nat) : Option Nat → Option AV
  | none => cs[off]?
  | some s => if off + s ≤ cs.length then some (.agg ((cs.drop off).take s)) else none

/-- A slice's elements, if they can be read: through an alias that is up to date. -/
def elemsOf (h : List Blk) : AV → Option (List AV)
  | .nilslice => some []
  | .slice _ es => some es
  | .mslice b off len =>
    match h[b]? with
    | some (.arr _ _ es) => if off + len = es.length then some (es.drop off) else none
    | some (.fro _ es) => if off + len = es.length then some (es.drop off) else none
    | _ => none
  | _ => none

mutual
/-- A value without ways to slices that may still be written: they are from now on not written any more. -/
def solid (h : List Blk) : AV → Option (AV × List Blk)
  | .mslice b off len =>
    match h[b]? with
    | some (.arr _ s es) =>
      if off + len = es.length ∧ topAll es = 0 then some (.slice false (es.drop off), h.set b (.fro s es)) else none
    | some (.fro _ es) => if off + len = es.length ∧ topAll es = 0 then some (.slice false (es.drop off), h) else none
    | _ => none
  | .agg cs => match solidAll h cs with
    | some (cs', h') => some (.agg cs', h')
    | none => none
  | .tuple cs => match solidAll h cs with
    | some (cs', h') => some (.tuple cs', h')
    | none => none
  | v => some (v, h)
def solidAll (h : List Blk) : List AV → Option (List AV × List Blk)
  | [] => some ([], h)
  | v :: r => match solid h v with
    | none => none
    | some (v', h1) => match solidAll h1 r with
      | none => none
      | some (r', h2) => some (v' :: r', h2)
end

def bytesLess : List UInt8 → List UInt8 → Bool
  | _, [] => false
  | [], _ :: _ => true
  | a :: x, b :: y => a < b || (a == b && bytesLess x y)

def binInt (op : BinOp) (k : IntKind) (x y : Int) : Option AV :=
  match op with
  | .add => some (.int k (k.wrap (x + y)))
  | .sub => some (.int k (k.wrap (x - y)))
  | .mul => some (.int k (k.wrap (x * y)))
  | .quo => if y = 0 then none else some (.int k (k.wrap (x.tdiv y)))
  | .rem => if y = 0 then none else some (.int k (x.tmod y))
  | .and => some (.int k (k.wrap (BitVec.ofInt k.bits x &&& BitVec.ofInt k.bits y).toNat))
  | .or => some (.int k (k.wrap (BitVec.ofInt k.bits x ||| BitVec.ofInt k.bits y).toNat))
  | .xor => some (.int k (k.wrap (BitVec.ofInt k.bits x ^^^ BitVec.ofInt k.bits y).toNat))
  | .andNot => some (.int k (k.wrap (BitVec.ofInt k.bits x &&& ~~~ BitVec.ofInt k.bits y).toNat))
  | .eql => some (.bool (x == y))
  | .neq => some (.bool (x != y))
  | .lss => some (.bool (decide (x < y)))
  | .leq => some (.bool (decide (x ≤ y)))
  | .gtr => some (.bool (decide (y < x)))
  | .geq => some (.bool (decide (y ≤ x)))
  | _ => none

def binShift (op : BinOp) (k : IntKind) (x y : Int) : Option AV :=
  if y < 0 then none else
  match op with
  | .shl => some (.int k (k.wrap (x * 2 ^ (min y.toNat k.bits))))
  | .shr => some (.int k (x.fdiv (2 ^ (min y.toNat k.bits))))
  | _ => none

def binStr (op : BinOp) (x y : List UInt8) : Option AV :=
  match op with
  | .add => if x.length + y.length ≤ 9223372036854775807 then some (.str (x ++ y)) else none
  | .eql => some (.bool (x == y))
  | .neq => some (.bool (!(x == y)))
  | .lss => some (.bool (bytesLess x y))
  | .leq => some (.bool (bytesLess x y || x == y))
  | .gtr => some (.bool (!(bytesLess x y || x == y)))
  | .geq => some (.bool (!bytesLess x y))
  | _ => none

/-- The kind of a value that can be nil. -/
def nilKind : AV → Nat
  | .nilptr | .mptr .. | .eptr .. | .iptr .. => 1
  | .nilslice | .slice .. | .mslice .. => 2
  | .nilfunc | .func .. => 3
  | .nilmap | .map .. => 4
  | .nilif => 5
  | .bool _ => 6
  | _ => 0

/-- Are two values the same, of which one is nil (or both are bools)? -/
def eqRef (h : List Blk) (x y : AV) : Option Bool :=
  match x, y with
  | .bool a, .bool b => some (a == b)
  | .nilptr, .nilptr => some true
  | .iptr .., .nilptr => some false
  | .mptr b _, .nilptr => match h[b]? with
    | some (.var _ _) => some false
    | _ => none
  | .eptr b n _ _, .nilptr => match h[b]? with
    | some (.arr _ _ es) => if n = es.length then some false else none
    | _ => none
  | .nilslice, .nilslice => some true
  | .slice .., .nilslice => some false
  | .mslice b off len, .nilslice => (elemsOf h (.mslice b off len)).bind fun _ => some false
  | .nilfunc, .nilfunc => some true
  | .func .., .nilfunc => some false
  | .nilmap, .nilmap => some true
  | _, _ => none

def binAV (op : BinOp) (x y : AV) : Option AV :=
  match op, x, y with
  | .shl, .int k a, .int _ b => binShift .shl k a b
  | .shr, .int k a, .int _ b => binShift .shr k a b
  | op, .int k a, .int k' b => if k = k' then binInt op k a b else none
  | op, .str a, .str b => binStr op a b
  | _, _, _ => none

def unAV (op : UnOp) (x : AV) : Option AV :=
  match op, x with
  | .neg, .int k n => some (.int k (k.wrap (0 - n)))
  | .not, .bool b => some (.bool (!b))
  | _, _ => none

def byteAV (b : UInt8) : AV := .int .u8 b.toNat
def bytesOf : List AV → Option (List UInt8)
  | [] => some []
  | .int .u8 n :: r => match bytesOf r with | some l => some (UInt8.ofNat n.toNat :: l) | none => none
  | _ :: _ => none
def runesOf : List AV → Option (List UInt8)
  | [] => some []
  | .int .i32 n :: r => match runesOf r with | some l => some ((Utf8.encode n).data.toList ++ l) | none => none
  | _ :: _ => none

/-- A load: 'none': one cell; else a struct's or an array's cells. -/
def loadAV (h : List Blk) (s : Option Nat) : AV → Option AV
  | .mptr b off => match h[b]? with
    | some (.var _ cs) => takeCells cs off s
    | _ => none
  | .eptr b n i off => match h[b]? with
    | some (.arr _ _ es) => if es.length = n then (es[i]?).bind fun e => e.cells.bind fun cs => takeCells cs off s else none
    | _ => none
  | .iptr cs off => takeCells cs off s
  | _ => none

/-- May a value be laid into a block? -/
def mayLay (base : Nat) (esc : Option (List Nat)) (b : Nat) (top : Nat) : Bool :=
  if base ≤ b then true else if top ≤ b + 1 then true else
  match esc with
  | none => false
  | some l => l.contains b

def storeInto (e : AV) (off s : Nat) (v : AV) (vs : List AV) : Option AV :=
  match e with
  | .agg cs => if off + s ≤ cs.length then some (.agg (putAt cs off vs)) else none
  | .undef => none
  | .tuple _ => none
  | _ => match v with
    | .agg _ => none
    | v => if off = 0 then some v else none

def storeAV (st : St) (s : Nat) (a v : AV) : Option (List Blk) :=
  v.cells.bind fun vs => if vs.length = s ∧ vs.all isCell = true then
      match a with
      | .mptr b off => match st.h[b]? with
        | some (.var ty cs) => if off + s ≤ cs.length ∧ mayLay st.base st.esc b (topAll vs) = true then some (st.h.set b (.var ty (putAt cs off vs))) else none
        | _ => none
      | .eptr b n i off => match st.h[b]? with
        | some (.arr g z es) => if es.length = n ∧ mayLay st.base st.esc b (topAll vs) = true then
            (es[i]?).bind fun e => (storeInto e off s v vs).bind fun e' => some (st.h.set b (.arr g z (es.set i e')))
          else none
        | _ => none
      | _ => none
    else none

def getInt : AV → Option Int
  | .int _ n => some n
  | _ => none

/-- A bound of a slice expression. -/
def bound (d : Nat) (y : Nat) : Option AV → Option Nat
  | none => some d
  | some (.int _ n) => if 0 ≤ n ∧ n ≤ (y : Int) then some n.toNat else none
  | some _ => none

/-- Has the first element so many cells? -/
def szOk (s : Nat) : List AV → Bool
  | [] => true
  | e :: _ => match e.cells with
    | some cs => cs.length == s
    | none => false

def resl (s : Nat) (f : Bool) (es : List AV) (lo hi mx : Option AV) : Option AV :=
  if szOk s es = true then
    match mx with
    | none => (bound es.length es.length hi).bind fun hh => (bound 0 hh lo).bind fun l => some (.slice (f && hh == es.length) ((es.drop l).take (hh - l)))
    | some m => if hi.isSome = true then (bound 0 es.length (some m)).bind fun m => (bound 0 m hi).bind fun hh => (bound 0 hh lo).bind fun l => some (.slice (hh == m) ((es.drop l).take (hh - l))) else none
  else none

def slicesOf (s : Nat) (h : List Blk) (x : AV) (lo hi mx : Option AV) : Option AV :=
  match x with
  | .nilslice => if mx.isSome = true then none else (bound 0 0 hi).bind fun _ => (bound 0 0 lo).bind fun _ => some .nilslice
  | .slice f es => resl s f es lo hi mx
  | .mslice b off len =>
    match h[b]? with
    | some (.arr _ z es) => if off + len = es.length ∧ z = s ∧ mx.isNone = true then (bound len len hi).bind fun hh => (bound 0 hh lo).bind fun l => if l < hh then some (.mslice b (off + l) (hh - l)) else some (.slice false []) else none
    | some (.fro _ es) => if off + len = es.length then resl s false (es.drop off) lo hi mx else none
    | _ => none
  | _ => none

/-- What is appended. -/
def srcOf (h : List Blk) : AV → Option (List AV)
  | .str l => some (l.map byteAV)
  | y => elemsOf h y

def sized (s : Nat) (es : List AV) : Bool := es.all fun e => match e.cells with
  | some cs => cs.length == s && cs.all isCell
  | none => false

def fits (n bytes : Nat) : Bool := decide (n * bytes ≤ 140737488355328 ∧ n ≤ 4611686018427387904)

def growAV (st : St) (ty s bytes : Nat) (h : List Blk) (ys : List AV) : AV → Option (AV × List Blk)
  | .nilslice => if ys = [] then some (.nilslice, h)
      else if fits ys.length bytes = true then some (.mslice h.length 0 ys.length, h ++ [.arr (some ty) s ys]) else none
  | .slice f es => if ys = [] then some (.slice f es, h)
      else if f = true ∧ fits (es.length + ys.length) bytes = true ∧ sized s es = true then some (.mslice h.length 0 (es.length + ys.length), h ++ [.arr (some ty) s (es ++ ys)]) else none
  | .mslice b off len =>
    match h[b]? with
    | some (.arr g z es) => if off = 0 ∧ len = es.length ∧ z = s then
        if ys = [] then some (.mslice b 0 len, h)
        else if fits (len + ys.length) bytes = true ∧ g = some ty ∧ mayLay st.base st.esc b (topAll ys) = true then some (.mslice b 0 (len + ys.length), h.set b (.arr g z (es ++ ys))) else none
      else none
    | _ => none
  | _ => none

def appendAV (st : St) (ty s bytes : Nat) (x y : AV) : Option (AV × List Blk) :=
  (srcOf st.h y).bind fun ys => (solidAll st.h ys).bind fun p => if sized s p.1 = true then growAV st ty s bytes p.2 p.1 x else none

/-- Parts put into cells. -/
def fillAV (fr : List (Nat × AV)) (cs : List AV) : List (Nat × Nat × Opd) → Option (List AV)
  | [] => some cs
  | (off, s, x) :: r => (x.get G fr).cells.bind fun vs => if vs.length = s ∧ off + s ≤ cs.length then fillAV fr (putAt cs off vs) r else none

/-- Elements of a slice that is written out. -/
def fillEs (fr : List (Nat × AV)) (s : Nat) (es : List AV) : List (Nat × Opd) → Option (List AV)
  | [] => some es
  | (i, x) :: r => (x.get G fr).cells.bind fun vs => if vs.length = s ∧ i < es.length then fillEs fr s (es.set i (x.get G fr)) r else none

def getAll (fr : List (Nat × AV)) (l : List Opd) : List AV := l.map (Opd.get G fr)

def utf8At (s : List UInt8) (pos : Nat) : Nat × Nat := Utf8.decode ⟨s.toArray⟩ pos

/-- A conversion. -/
def convAV (h : List Blk) : Cv → AV → Option (AV × List Blk)
  | .int k, v => match v with
    | .int _ n => some (.int k (k.wrap n), h)
    | _ => none
  | .same, v => match v with
    | .str s => some (.str s, h)
    | _ => none
  | .mark, v => match v with
    | .mslice b off len => match h[b]? with
      | some (.arr (some _) s es) => if off + len = es.length then some (.mslice b off len, h.set b (.arr none s es)) else none
      | _ => none
    | _ => none
  | .strBytes, v => match v with
    | .str s => some (.mslice h.length 0 s.length, h ++ [.arr none 1 (s.map byteAV)])
    | _ => none
  | .frozen, v => match v with
    | .str s => some (.slice false (s.map byteAV), h)
    | _ => none
  | .bytesStr, v => (elemsOf h v).bind fun es => (bytesOf es).bind fun s => some (.str s, h)
  | .runeStr, v => match v with
    | .int _ n => some (.str (Utf8.encode n).data.toList, h)
    | _ => none
  | .runesStr, v => (elemsOf h v).bind fun es => (runesOf es).bind fun s => some (.str s, h)

/-- The address of a slice's element. -/
def idxOf (s : Nat) (h : List Blk) (n : Int) : AV → Option AV
  | .slice _ es => if 0 ≤ n then (es[n.toNat]?).bind fun e => e.cells.bind fun cs => if cs.length = s then some (.iptr cs 0) else none else none
  | .mslice b off len => match h[b]? with
    | some (.arr _ z es) => if off + len = es.length ∧ z = s ∧ 0 ≤ n ∧ n < (len : Int) then some (.eptr b es.length (off + n.toNat) 0) else none
    | some (.fro _ es) => if off + len = es.length ∧ 0 ≤ n then ((es.drop off)[n.toNat]?).bind fun e => e.cells.bind fun cs => if cs.length = s then some (.iptr cs 0) else none else none
    | _ => none
  | _ => none

/-- An address, some cells further on. -/
def moveOf (h : List Blk) (k : Nat) : AV → Option AV
  | .mptr b o => match h[b]? with
    | some (.var _ _) => some (.mptr b (o + k))
    | _ => none
  | .eptr b n i o => match h[b]? with
    | some (.arr _ _ es) => if n = es.length then some (.eptr b n i (o + k)) else none
    | _ => none
  | .iptr cs o => some (.iptr cs (o + k))
  | _ => none

/-- A map's keys: strings, or integers of one kind. -/
def keyOk (kd : Option IntKind) : AV → Bool
  | .str _ => kd == none
  | .int k _ => kd == some k
  | _ => false

def bytesLt : List UInt8 → List UInt8 → Bool
  | _, [] => false
  | [], _ :: _ => true
  | a :: r, b :: q => if a = b then bytesLt r q else decide (a < b)

def keyLt : AV → AV → Bool
  | .str a, .str b => bytesLt a b
  | .int _ a, .int _ b => decide (a < b)
  | _, _ => false

def mfind (k : AV) : List (AV × AV) → Option AV
  | [] => none
  | p :: r => if AV.same p.1 k = true then some p.2 else mfind k r

def mset (k v : AV) : List (AV × AV) → List (AV × AV)
  | [] => []
  | p :: r => (if AV.same p.1 k = true then (p.1, v) else p) :: mset k v r

def mins (k v : AV) : List (AV × AV) → List (AV × AV)
  | [] => [(k, v)]
  | p :: r => if keyLt k p.1 = true then (k, v) :: p :: r else p :: mins k v r

def mput (k v : AV) (m : List (AV × AV)) : List (AV × AV) := if (mfind k m).isSome = true then mset k v m else mins k v m

def okTuple (ok : Bool) (v : AV) (b : Bool) : AV := if ok then .tuple [v, .bool b] else v

def lookupAV (h : List Blk) (kd : Option IntKind) (z : AV) (ok : Bool) (x i : AV) : Option AV :=
  if keyOk kd i = true then match x with
    | .nilmap => some (okTuple ok z false)
    | .map b => match h[b]? with
      | some (.map kd' m) => if kd' = kd then match mfind i m with
          | some v => some (okTuple ok v true)
          | none => some (okTuple ok z false)
        else none
      | _ => none
    | _ => none
  else none

def insertAV (st : St) (kd : Option IntKind) (x k v : AV) : Option (List Blk) :=
  if keyOk kd k = true then match x with
    | .map b => match st.h[b]? with
      | some (.map kd' m) => if kd' = kd ∧ mayLay st.base st.esc b v.top = true then some (st.h.set b (.map kd (mput k v m))) else none
      | _ => none
    | _ => none
  else none

/-- The blocks that a callee may let lead to what it made. -/
def limOf (st : St) (q : Nat) : Bool := decide (st.base ≤ q) || match st.esc with
  | none => false
  | some l => l.contains q

/-- An operation: what it yields ('none': nothing, a store), and the blocks behind it. -/
def stepOp (cf : CallF) (st : St) : MOp → Option (AV × List Blk)
  | .mv x => some (x.get G st.fr, st.h)
  | .pick c a b => match c.get G st.fr with
    | .bool t => some (if t then a.get G st.fr else b.get G st.fr, st.h)
    | _ => none
  | .alloc ty z => some (.mptr st.h.length 0, st.h ++ [.var ty z])
  | .box ty x => (x.get G st.fr).cells.bind fun cs => some (.mptr st.h.length 0, st.h ++ [.var ty cs])
  | .build z ps => (fillAV G st.fr z ps).bind fun cs => some (.agg cs, st.h)
  | .mkSlice s z n ps => (fillEs G st.fr s (List.replicate n z) ps).bind fun es => if topAll es = 0 ∧ sized s es = true then some (.slice true es, st.h) else none
  | .mkSliceM ty s z n ps => (fillEs G st.fr s (List.replicate n z) ps).bind fun es => if topAll es = 0 ∧ sized s es = true then some (.mslice st.h.length 0 n, st.h ++ [.arr (some ty) s es]) else none
  | .load s a => (loadAV st.h s (a.get G st.fr)).bind fun v => some (v, st.h)
  | .store s a x => (storeAV st s (a.get G st.fr) (x.get G st.fr)).bind fun h => some (.undef, h)
  | .nilCheck x => (moveOf st.h 0 (x.get G st.fr)).bind fun v => some (v, st.h)
  | .bin op x y => (binAV op (x.get G st.fr) (y.get G st.fr)).bind fun v => some (v, st.h)
  | .eqp neg k x y => if nilKind (x.get G st.fr) = k ∧ nilKind (y.get G st.fr) = k then (eqRef st.h (x.get G st.fr) (y.get G st.fr)).bind fun b => some (.bool (b != neg), st.h) else none
  | .un op x => (unAV op (x.get G st.fr)).bind fun v => some (v, st.h)
  | .conv k x => convAV st.h k (x.get G st.fr)
  | .fieldA x off => (moveOf st.h off (x.get G st.fr)).bind fun v => some (v, st.h)
  | .field x off s => match x.get G st.fr with
    | .agg cs => (takeCells cs off s).bind fun v => some (v, st.h)
    | _ => none
  | .idxA s x i => (getInt (i.get G st.fr)).bind fun n => (idxOf s st.h n (x.get G st.fr)).bind fun v => some (v, st.h)
  | .idxArrA n s x i => (getInt (i.get G st.fr)).bind fun k => if 0 ≤ k ∧ k < (n : Int) then (moveOf st.h (k.toNat * s) (x.get G st.fr)).bind fun v => some (v, st.h) else none
  | .idxStr x i => (getInt (i.get G st.fr)).bind fun n => match x.get G st.fr with
    | .str s => if 0 ≤ n then (s[n.toNat]?).bind fun b => some (byteAV b, st.h) else none
    | _ => none
  | .idxArr n s a x i => (getInt (i.get G st.fr)).bind fun k => match x.get G st.fr with
    | .agg cs => if 0 ≤ k ∧ k < (n : Int) then (takeCells cs (k.toNat * s) (if a then some s else none)).bind fun v => some (v, st.h) else none
    | _ => none
  | .sliceStr x lo hi => match x.get G st.fr with
    | .str s => (bound s.length s.length (oget G st.fr hi)).bind fun hh => (bound 0 hh (oget G st.fr lo)).bind fun l => some (.str ((s.drop l).take (hh - l)), st.h)
    | _ => none
  | .slice s x lo hi mx => (slicesOf s st.h (x.get G st.fr) (oget G st.fr lo) (oget G st.fr hi) (oget G st.fr mx)).bind fun v => some (v, st.h)
  | .rangeStr x => match x.get G st.fr with
    | .str s => some (.iter st.h.length, st.h ++ [.siter s 0])
    | _ => none
  | .nextStr x => match x.get G st.fr with
    | .iter b => match st.h[b]? with
      | some (.siter s pos) => if pos < s.length then
          some (.tuple [.bool true, .int .i64 pos, .int .i32 (utf8At s pos).1], st.h.set b (.siter s (pos + (utf8At s pos).2)))
        else some (.tuple [.bool false], st.h)
      | _ => none
    | _ => none
  | .extract x i => match x.get G st.fr with
    | .tuple vs => (vs[i]?).bind fun v => some (v, st.h)
    | _ => none
  | .func f cap => some (.func f (getAll G st.fr cap), st.h)
  | .call f args => match f.get G st.fr with
    | .func f cap => (solidAll st.h (getAll G st.fr args)).bind fun p => cf (limOf st) f (p.1 ++ cap) p.2
    | _ => none
  | .lenS x => match x.get G st.fr with
    | .str s => some (.int .i64 s.length, st.h)
    | _ => none
  | .lenL x => (elemsOf st.h (x.get G st.fr)).bind fun es => some (.int .i64 es.length, st.h)
  | .append ty s bytes x y => appendAV st ty s bytes (x.get G st.fr) (y.get G st.fr)
  | .makeMap kd => some (.map st.h.length, st.h ++ [.map kd []])
  | .insert kd x k v => (insertAV st kd (x.get G st.fr) (k.get G st.fr) (v.get G st.fr)).bind fun h => some (.undef, h)
  | .lookup kd z ok x i => (lookupAV st.h kd z ok (x.get G st.fr) (i.get G st.fr)).bind fun v => some (v, st.h)
  | .minmax mx x y => match x.get G st.fr, y.get G st.fr with
    | .int k a, .int _ b => some (.int k (if mx then (if a < b then b else a) else (if b < a then b else a)), st.h)
    | _, _ => none

def St.put (st : St) (dst : Option Nat) (p : AV × List Blk) : St :=
  match dst with
  | none => { st with h := p.2 }
  | some d => { st with fr := fset st.fr d p.1, h := p.2 }

def runOps (cf : CallF) : List MInstr → St → Option St
  | [], st => some st
  | i :: r, st =>
    match i.guard with
    | none => (stepOp G cf st i.op).bind fun p => runOps cf r (st.put i.dst p)
    | some (t, want) => match fget st.fr t with
      | .bool b => if b = want then (stepOp G cf st i.op).bind fun p => runOps cf r (st.put i.dst p)
        else runOps cf r (st.put i.dst (.undef, st.h))
      | _ => none

/-- One operation, with its guard. -/
def stepI (cf : CallF) (st : St) (i : MInstr) : Option (AV × List Blk) :=
  match i.guard with
  | none => stepOp G cf st i.op
  | some (t, want) => match fget st.fr t with
    | .bool b => if b = want then stepOp G cf st i.op else some (.undef, st.h)
    | _ => none

def lookH : List (List Nat × List Blk) → List Nat → Option (List Blk)
  | [], _ => none
  | (k, h) :: r, s => if k = s then some h else lookH r s

/-- In the text's order; what the blocks are behind each operation that changes them. -/
def runText (cf : CallF) : List DInstr → List (List Nat × List Blk) → St → Option (St × List (List Nat × List Blk))
  | [], tbl, st => some (st, tbl)
  | d :: r, tbl, st => (stepI G cf st d.i).bind fun p => match d.key with
    | none => if sameH p.2 st.h = true then runText cf r tbl (st.put d.i.dst (p.1, st.h)) else none
    | some k => match lookH tbl k with
      | none => runText cf r ((k, p.2) :: tbl) (st.put d.i.dst p)
      | some _ => none

def okDst (fr : List (Nat × AV)) (v : AV) : Option Nat → Bool
  | none => true
  | some t => AV.same v (fget fr t)

/-- In other orders: the same values, the same blocks. -/
def runExtra (cf : CallF) (l : List DInstr) (stF : St) : List (Nat × List Nat × List Nat) → List (List Nat × List Blk) → Option (List (List Nat × List Blk))
  | [], tbl => some tbl
  | (i, s, s') :: r, tbl => (l[i]?).bind fun d => (lookH tbl s).bind fun h => (stepI G cf { stF with h := h } d.i).bind fun p =>
    if okDst stF.fr p.1 d.i.dst = true then
      match lookH tbl s' with
      | some h2 => if sameH p.2 h2 = true then runExtra cf l stF r tbl else none
      | none => runExtra cf l stF r ((s', p.2) :: tbl)
    else none

def exec (cf : CallF) : Nat → M → St → Option (Ex × St)
  | 0, _, _ => none
  | n + 1, m, st =>
    match m with
    | .skip => some (.normal, st)
    | .ops l keep => (runOps G cf l st).bind fun st' => some (.normal, { st' with fr := fkeep st'.fr keep })
    | .draw l extra keep => (runText G cf l [([], st.h)] st).bind fun p => (runExtra G cf l p.1 extra p.2).bind fun _ => some (.normal, { p.1 with fr := fkeep p.1.fr keep })
    | .seq a b => (exec cf n a st).bind fun p => match p.1 with
      | .normal => exec cf n b p.2
      | _ => some p
    | .cond c a b => match c.get G st.fr with
      | .bool true => exec cf n a st
      | .bool false => exec cf n b st
      | _ => none
    | .block id b => (exec cf n b st).bind fun p => match p.1 with
      | .exit i => if i = id then some (.normal, p.2) else some p
      | _ => some p
    | .loop keep b => (exec cf n b st).bind fun p => match p.1 with
      | .normal => exec cf n (.loop keep b) { p.2 with fr := fkeep p.2.fr keep }
      | _ => some p
    | .exit id => some (.exit id, st)
    | .scope b => exec cf n b st
    | .ret => some (.ret, st)

def getRes (st : St) : List RV → Option (List AV)
  | [] => some []
  | .t n :: r => (getRes st r).bind fun l => some (fget st.fr n :: l)
  | .cell t s :: r => (loadAV st.h s (fget st.fr t)).bind fun v => (getRes st r).bind fun l => some (v :: l)

def enterFr : Nat → List AV → List (Nat × AV)
  | _, [] => []
  | i, v :: r => (i, v) :: enterFr (i + 1) r

/-- The blocks that a call may let lead to what it made. -/
def escOf (args : List AV) : List Nat → List Nat
  | [] => []
  | i :: r => match args[i]? with
    | some (.mptr b _) => b :: escOf args r
    | _ => escOf args r

def oneA : List AV → AV
  | [v] => v
  | rs => .tuple rs

def leave (m : MFunc) (base : Nat) (st : St) : Option (AV × List Blk) :=
  (getRes st m.results).bind fun rs => match m.keep with
    | some _ => some (oneA rs, st.h)
    | none => (solidAll st.h rs).bind fun p => if topAll p.1 ≤ base then some (oneA p.1, p.2.take base) else none

def callM (cf : CallF) (n : Nat) (m : MFunc) (lim : Nat → Bool) (args : List AV) (h : List Blk) : Option (AV × List Blk) :=
  if args.length = m.nargs ∧ ((m.keep.map (escOf args)).getD []).all lim = true then
    (exec G cf n m.body { fr := enterFr 0 args, base := h.length, esc := m.keep.map (escOf args), h }).bind fun p => match p.1 with
      | .exit _ => none
      | _ => leave m h.length p.2
  else none

/-- A call: by a function's own text, or by what is known of it. -/
def call (orc : CallF) (env : Nat → Option MFunc) : Nat → CallF
  | 0, _, _, _, _ => none
  | n + 1, lim, f, args, h => match env f with
    | some m => callM G (call orc env n) (n + 1) m lim args h
    | none => orc lim f args h
end
end Go.Av

/-
  How the evaluator's values stand for values in the model's memory, and how that lasts while memory grows.
-/
namespace Go.Av

def AV.isRef : AV → Bool
  | .mptr .. | .eptr .. | .mslice .. | .map _ | .iter _ => true
  | _ => false

/-- 'I': the blocks of the model's memory that nobody writes; 'R': what stands for a value that leads to a block that may be written. -/
inductive Rel (I : Nat → Prop) (R : AV → Value → Prop) (w : World) : AV → Value → Prop
  | undef (v : Value) : Rel I R w .undef v
  | bool (b : Bool) : Rel I R w (.bool b) (.bool b)
  | int (k : IntKind) (n : Int) : Rel I R w (.int k n) (.int k n)
  | str (s : ByteArray) (l : List UInt8) (h : s.data.toList = l) : Rel I R w (.str l) (.string s)
  | nilptr : Rel I R w .nilptr (.pointer none)
  | nilslice : Rel I R w .nilslice (.slice none 0 0)
  | nilfunc : Rel I R w .nilfunc .nilFunc
  | nilmap : Rel I R w .nilmap (.map none)
  | nilif : Rel I R w .nilif .nilIface
  | ref (a : AV) (v : Value) (h : a.isRef = true) (ho : v.oneCell' = true) (hr : R a v) : Rel I R w a v
  | iptr (cs : List AV) (off β o : Nat) (f : Nat → Value) (hI : cs ≠ [] → I β) (hc : ∀ j, j < cs.length → w.cell? ⟨β, o + j, none⟩ = some (f j))
      (ht : topAll cs = 0) (hr : ∀ j c, cs[j]? = some c → Rel I R w c (f j)) : Rel I R w (.iptr cs off) (.pointer (some ⟨β, o + off, none⟩))
  | slice (x : Bool) (es : List AV) (a : Addr) (len cap s : Nat) (f : Nat → Nat → Value) (hl : len = es.length) (hcap : len ≤ cap) (hx : x = true → cap = len)
      (ht : topAll es = 0) (hs : sized s es = true) (hsp : 0 < s) (hI : len ≠ 0 → a.spot = none ∧ I a.block)
      (hc : ∀ i j, i < len → j < s → w.cell? ⟨a.block, a.off + i * s + j, none⟩ = some (f i j))
      (hr : ∀ i e cs j c, es[i]? = some e → e.cells = some cs → cs[j]? = some c → Rel I R w c (f i j)) : Rel I R w (.slice x es) (.slice (some a) len cap)
  | agg (cs : List AV) (vs : Array Value) (hl : cs.length = vs.size) (hr : ∀ (i : Nat) (c : AV) (v : Value), cs[i]? = some c → vs[i]? = some v → Rel I R w c v) : Rel I R w (.agg cs) (.agg vs)
  | tuple (cs : List AV) (vs : Array Value) (hl : cs.length = vs.size) (hr : ∀ (i : Nat) (c : AV) (v : Value), cs[i]? = some c → vs[i]? = some v → Rel I R w c v) : Rel I R w (.tuple cs) (.tuple vs)
  | func (f : Nat) (cs : List AV) (vs : Array Value) (hl : cs.length = vs.size) (hr : ∀ (i : Nat) (c : AV) (v : Value), cs[i]? = some c → vs[i]? = some v → Rel I R w c v) : Rel I R w (.func f cs) (.func (.func f) #[] vs)

section tops
theorem top_le_topAll {l : List AV} {i : Nat} {a : AV} (h : l[i]? = some a) : a.top ≤ topAll l := by
  induction l generalizing i with
  | nil => simp at h
  | cons x r ih =>
    cases i with
    | zero => simp at h; subst h; simp only [topAll]; omega
    | succ i => simp at h; have := ih h; simp only [topAll]; omega
theorem topAll_le {l : List AV} {n : Nat} (h : ∀ (i : Nat) a, l[i]? = some a → a.top ≤ n) : topAll l ≤ n := by
  induction l with
  | nil => simp [topAll]
  | cons x r ih =>
    have h0 := h 0 x (by simp)
    have := ih (fun i a hi => h (i + 1) a (by simpa using hi))
    simp only [topAll]; omega
theorem topAll_append (a b : List AV) : topAll (a ++ b) = max (topAll a) (topAll b) := by
  induction a with
  | nil => simp [topAll]
  | cons x r ih => simp only [List.cons_append, topAll, ih]; omega
theorem topAll_mem {l : List AV} {a : AV} (h : a ∈ l) : a.top ≤ topAll l := by
  obtain ⟨i, hi⟩ := List.getElem?_of_mem h
  exact top_le_topAll hi
theorem topAll_drop (l : List AV) (n : Nat) : topAll (l.drop n) ≤ topAll l :=
  topAll_le fun i a h => by rw [List.getElem?_drop] at h; exact top_le_topAll h
theorem topAll_take (l : List AV) (n : Nat) : topAll (l.take n) ≤ topAll l :=
  topAll_le fun i a h => by
    rw [List.getElem?_take] at h
    split at h
    · exact top_le_topAll h
    · simp at h
theorem top_cells {a : AV} {cs : List AV} (h : a.cells = some cs) : topAll cs = a.top := by
  cases a <;> simp [AV.cells] at h <;> subst h <;> simp [topAll, AV.top]
end tops

section mono
variable {I I' : Nat → Prop} {R R' : AV → Value → Prop} {w w' : World}

/-- What stands in memory that nobody writes lasts. -/
theorem Rel.mono {a : AV} {v : Value} (h : Rel I R w a v) (N : Nat) (hN : a.top ≤ N)
    (hI : ∀ β, I β → β < w.heap.size → I' β ∧ w'.heap[β]? = w.heap[β]?) (hR : ∀ a v, a.isRef = true → a.top ≤ N → R a v → R' a v) : Rel I' R' w' a v := by
  have hcell : ∀ (β o : Nat) (v : Value), I β → w.cell? ⟨β, o, none⟩ = some v → I' β ∧ w'.cell? ⟨β, o, none⟩ = some v := by
    intro β o v hi hc
    have hlt := World.block_lt_of_cell? w _ hc
    obtain ⟨h1, h2⟩ := hI β hi hlt
    refine ⟨h1, ?_⟩
    simp only [World.cell?] at hc ⊢
    rw [h2]; exact hc
  induction h with
  | undef v => exact .undef v
  | bool b => exact .bool b
  | int k n => exact .int k n
  | str s l h => exact .str s l h
  | nilptr => exact .nilptr
  | nilslice => exact .nilslice
  | nilfunc => exact .nilfunc
  | nilmap => exact .nilmap
  | nilif => exact .nilif
  | ref a v h ho hr => exact .ref a v h ho (hR a v h hN hr)
  | iptr cs off β o f hi hc ht hr ih =>
    refine .iptr cs off β o f (fun hne => ?_) (fun j hj => ?_) ht (fun j c hc' => ih j c hc' (by have := top_le_topAll hc'; omega))
    · cases cs with
      | nil => exact absurd rfl hne
      | cons x r => exact (hcell β (o + 0) _ (hi hne) (hc 0 (by simp))).1
    · exact (hcell β _ _ (hi (by intro e; subst e; simp at hj)) (hc j hj)).2
  | slice x es a len cap s f hl hcap hx ht hs hsp hi hc hr ih =>
    refine .slice x es a len cap s f hl hcap hx ht hs hsp (fun h => ?_) (fun i j hi' hj => ?_) (fun i e cs j c h1 h2 h3 => ih i e cs j c h1 h2 h3 (by
      have := top_le_topAll h1; have := top_cells h2; have := top_le_topAll h3; omega))
    · have h1 := hi h
      exact ⟨h1.1, (hcell _ _ _ h1.2 (hc 0 0 (by omega) hsp)).1⟩
    · exact (hcell _ _ _ (hi (by omega)).2 (hc i j hi' hj)).2
  | agg cs vs hl hr ih => exact .agg cs vs hl fun i c v h1 h2 => ih i c v h1 h2 (by have := top_le_topAll h1; simp [AV.top] at hN; omega)
  | tuple cs vs hl hr ih => exact .tuple cs vs hl fun i c v h1 h2 => ih i c v h1 h2 (by have := top_le_topAll h1; simp [AV.top] at hN; omega)
  | func f cs vs hl hr ih => exact .func f cs vs hl fun i c v h1 h2 => ih i c v h1 h2 (by have := top_le_topAll h1; simp [AV.top] at hN; omega)
end mono


/-- Nobody writes this block. -/
def Imm (ρ : Nat → Option Nat) (β : Nat) : Prop := ∀ b, ρ b ≠ some β
abbrev Rel0 (ρ : Nat → Option Nat) (w : World) : AV → Value → Prop := Rel (Imm ρ) (fun _ _ => False) w
def blockSize (w : World) (β : Nat) : Nat := match w.heap[β]? with
  | some (.cells c _ _) => c.size
  | _ => 0

/-- What stands for a value that leads to a block. -/
def RefRel (ρ : Nat → Option Nat) (H : List Blk) (w : World) : AV → Value → Prop
  | .mptr b off, v => ∀ ty cs, H[b]? = some (.var ty cs) → ∃ β, ρ b = some β ∧ v = .pointer (some ⟨β, off, none⟩)
  | .eptr b n i off, v => ∀ g s es, H[b]? = some (.arr g s es) → n ≤ es.length ∧ (n = es.length → ∃ β, ρ b = some β ∧ v = .pointer (some ⟨β, i * s + off, none⟩))
  | .mslice b off len, v =>
    (∀ g s es, H[b]? = some (.arr g s es) → off + len ≤ es.length ∧ (off + len = es.length → ∃ β cap, ρ b = some β ∧ v = .slice (some ⟨β, off * s, none⟩) len cap ∧ len ≤ cap ∧ (off + cap) * s = blockSize w β)) ∧
    (∀ s es, H[b]? = some (.fro s es) → off + len = es.length → Rel0 ρ w (.slice false (es.drop off)) v)
  | .map b, v => ∀ kd m, H[b]? = some (.map kd m) → ∃ β, ρ b = some β ∧ v = .map (some β)
  | .iter b, v => ∀ s p, H[b]? = some (.siter s p) → ∃ β, ρ b = some β ∧ v = .pointer (some ⟨β, 0, none⟩)
  | _, _ => False

abbrev RelH (ρ : Nat → Option Nat) (H : List Blk) (w : World) : AV → Value → Prop := Rel (Imm ρ) (RefRel ρ H w) w

def keyRel (kd : Option IntKind) : AV → Value → Prop
  | .str l, v => kd = none ∧ ∃ S : ByteArray, v = .string S ∧ S.data.toList = l
  | .int k n, v => kd = some k ∧ v = .int k n
  | _, _ => False

/-- A map's entries: each key once; the same keys, values that are so. -/
structure MapRel (kd : Option IntKind) (R : AV → Value → Prop) (m : List (AV × AV)) (es : List MapEntry) : Prop where
  to : ∀ e ∈ es, ∃ p ∈ m, keyRel kd p.1 e.key ∧ R p.2 e.val
  fro : ∀ p ∈ m, ∃ e ∈ es, keyRel kd p.1 e.key ∧ R p.2 e.val
  once : ∀ p ∈ m, ∀ q ∈ m, p.1 = q.1 → p = q
  once' : ∀ (i j : Nat) (d e : MapEntry), es[i]? = some d → es[j]? = some e → d.key = e.key → i = j

theorem MapRel.mono {kd : Option IntKind} {R R' : AV → Value → Prop} {m : List (AV × AV)} {es : List MapEntry} (h : MapRel kd R m es) (hR : ∀ p ∈ m, ∀ v, R p.2 v → R' p.2 v) : MapRel kd R' m es :=
  ⟨fun e he => by obtain ⟨p, hp, h1, h2⟩ := h.to e he; exact ⟨p, hp, h1, hR p hp _ h2⟩, fun p hp => by obtain ⟨e, he, h1, h2⟩ := h.fro p hp; exact ⟨e, he, h1, hR p hp _ h2⟩, h.once, h.once'⟩

theorem top_map {kd : Option IntKind} {m : List (AV × AV)} {p : AV × AV} (hp : p ∈ m) : p.2.top ≤ (Blk.map kd m).top := by
  have h : ∀ (l : List AV) (a : AV), a ∈ l → a.top ≤ topAll l := by
    intro l a
    induction l with
    | nil => intro h; cases h
    | cons x r ih =>
      intro h
      simp only [topAll]
      rcases List.mem_cons.1 h with rfl | h
      · omega
      · have := ih h; omega
  have := h (m.map Prod.snd) p.2 (List.mem_map.2 ⟨p, hp, rfl⟩)
  simp only [Blk.top]
  omega

/-- What a block of the evaluator's is in the model's memory. -/
def BlkRel (ρ : Nat → Option Nat) (H : List Blk) (w : World) (b : Nat) : Blk → Prop
  | .var ty cs => ∃ (β : Nat) (c : Array Value), ρ b = some β ∧ w.heap[β]? = some (.cells c ty (0, 0)) ∧ c.size = cs.length ∧ ∀ (j : Nat) x, cs[j]? = some x → ∃ v, c[j]? = some v ∧ RelH ρ H w x v
  | .arr g s es => ∃ (β : Nat) (c : Array Value) (e : TypeId) (fz : Nat × Nat), ρ b = some β ∧ w.heap[β]? = some (.cells c e fz) ∧ (∀ ty, g = some ty → fz = (0, 0) ∧ e = ty) ∧ (∀ o, o < c.size → ¬ (fz.1 ≤ o ∧ o < fz.2)) ∧
      es.length * s ≤ c.size ∧ 0 < s ∧ sized s es = true ∧ ∀ (i : Nat) el cs (j : Nat) x, es[i]? = some el → el.cells = some cs → cs[j]? = some x → ∃ v, c[i * s + j]? = some v ∧ RelH ρ H w x v
  | .fro s es => sized s es = true ∧ 0 < s
  | .siter s pos => ∃ (β : Nat) (S : ByteArray), ρ b = some β ∧ S.data.toList = s ∧ w.heap[β]? = some (.stringIter S pos)
  | .map kd m => ∃ (β : Nat) (es : Array MapEntry) (c : Nat), ρ b = some β ∧ w.heap[β]? = some (.map es c) ∧ MapRel kd (RelH ρ H w) m es.toList

def Closed (t : Nat) (H : List Blk) : Prop := ∀ (q : Nat) x, q < t → H[q]? = some x → x.top ≤ t

structure Sim (G : Nat → Option (List AV)) (ρ : Nat → Option Nat) (H : List Blk) (w : World) : Prop where
  inj : ∀ b b' β, ρ b = some β → ρ b' = some β → b = b'
  dom : ∀ b β, ρ b = some β → β < w.heap.size ∧ b < H.length
  blk : ∀ (b : Nat) x, H[b]? = some x → BlkRel ρ H w b x
  tops : Closed H.length H
  glob : ∀ g cs, G g = some cs → Rel0 ρ w (.iptr cs 0) (.pointer (some ⟨g, 0, none⟩))

/-- What changes, and what doesn't. -/
structure Step (base : Nat) (esc : Option (List Nat)) (ρ : Nat → Option Nat) (H : List Blk) (w : World) (ρ' : Nat → Option Nat) (H' : List Blk) (w' : World) : Prop where
  os : w'.os = w.os
  tape : w'.tape = w.tape
  output : w'.output = w.output
  size : w.heap.size ≤ w'.heap.size
  keep : ∀ β, Imm ρ β → β < w.heap.size → w'.heap[β]? = w.heap[β]?
  fresh : ∀ b β, ρ' b = some β → (∃ b', ρ b' = some β) ∨ w.heap.size ≤ β
  len : H.length ≤ H'.length
  ref : ∀ a v, a.isRef = true → a.top ≤ H.length → RefRel ρ H w a v → RefRel ρ' H' w' a v
  closed : ∀ t, t ≤ base → (∀ l, esc = some l → ∀ q ∈ l, t ≤ q) → Closed t H → Closed t H'

section step
variable {base : Nat} {esc : Option (List Nat)} {ρ ρ' ρ₂ : Nat → Option Nat} {H H' H₂ : List Blk} {w w' w₂ : World}

theorem Step.refl : Step base esc ρ H w ρ H w :=
  ⟨rfl, rfl, rfl, Nat.le_refl _, fun _ _ _ => rfl, fun b _ h => .inl ⟨b, h⟩, Nat.le_refl _, fun _ _ _ _ h => h, fun _ _ _ h => h⟩

theorem Step.imm (h : Step base esc ρ H w ρ' H' w') {β : Nat} (hi : Imm ρ β) (hlt : β < w.heap.size) : Imm ρ' β := by
  intro b hb
  rcases h.fresh b β hb with ⟨b', hb'⟩ | hge
  · exact hi b' hb'
  · omega

theorem Step.trans (h : Step base esc ρ H w ρ' H' w') (k : Step base esc ρ' H' w' ρ₂ H₂ w₂) : Step base esc ρ H w ρ₂ H₂ w₂ :=
  ⟨k.os.trans h.os, k.tape.trans h.tape, k.output.trans h.output, Nat.le_trans h.size k.size,
    fun β hi hlt => (k.keep β (h.imm hi hlt) (Nat.lt_of_lt_of_le hlt h.size)).trans (h.keep β hi hlt),
    fun b β hb => by
      rcases k.fresh b β hb with ⟨b', hb'⟩ | hge
      · exact h.fresh b' β hb'
      · exact .inr (Nat.le_trans h.size hge),
    Nat.le_trans h.len k.len,
    fun a v hr ht hv => k.ref a v hr (Nat.le_trans ht h.len) (h.ref a v hr ht hv),
    fun t ht he hc => k.closed t ht he (h.closed t ht he hc)⟩

theorem Step.rel (h : Step base esc ρ H w ρ' H' w') {a : AV} {v : Value} (hr : RelH ρ H w a v) (ht : a.top ≤ H.length) : RelH ρ' H' w' a v :=
  hr.mono H.length ht (fun β hi hlt => ⟨h.imm hi hlt, h.keep β hi hlt⟩) (fun a v h1 h2 h3 => h.ref a v h1 h2 h3)

theorem Step.rel0 (h : Step base esc ρ H w ρ' H' w') {a : AV} {v : Value} (hr : Rel0 ρ w a v) : Rel0 ρ' w' a v :=
  hr.mono a.top (Nat.le_refl _) (fun β hi hlt => ⟨h.imm hi hlt, h.keep β hi hlt⟩) (fun _ _ _ _ h => h)

/-- A value that leads to no block is the same whatever blocks there are. -/
theorem Rel.to0 {a : AV} {v : Value} (hr : RelH ρ H w a v) (ht : a.top = 0) : Rel0 ρ w a v :=
  hr.mono 0 (by omega) (fun β hi _ => ⟨hi, rfl⟩) (fun a v h1 h2 _ => by cases a <;> simp [AV.isRef, AV.top] at h1 h2)
theorem Rel.of0 {a : AV} {v : Value} (hr : Rel0 ρ w a v) : RelH ρ H w a v :=
  hr.mono a.top (Nat.le_refl _) (fun _β hi _ => ⟨hi, rfl⟩) (fun _ _ _ _ h => h.elim)

theorem BlkRel.step (h : Step base esc ρ H w ρ' H' w') {b : Nat} {x : Blk} (hb : BlkRel ρ H w b x) (ht : x.top ≤ H.length)
    (hρ : ρ' b = ρ b) (hw : ∀ β, ρ b = some β → w'.heap[β]? = w.heap[β]?) : BlkRel ρ' H' w' b x := by
  cases x with
  | var ty cs =>
    obtain ⟨β, c, h1, h2, h3, h4⟩ := hb
    refine ⟨β, c, hρ.trans h1, (hw β h1).trans h2, h3, fun j x hx => ?_⟩
    obtain ⟨v, hv, hr⟩ := h4 j x hx
    exact ⟨v, hv, h.rel hr (Nat.le_trans (top_le_topAll hx) ht)⟩
  | arr g s es =>
    obtain ⟨β, c, e, fz, h1, h2, h3, h4, h5, h6, h7, h8⟩ := hb
    refine ⟨β, c, e, fz, hρ.trans h1, (hw β h1).trans h2, h3, h4, h5, h6, h7, fun i el cs j x hx hc hj => ?_⟩
    obtain ⟨v, hv, hr⟩ := h8 i el cs j x hx hc hj
    refine ⟨v, hv, h.rel hr ?_⟩
    have a1 := top_le_topAll hx
    have a2 := top_cells hc
    have a3 := top_le_topAll hj
    have : (Blk.arr g s es).top = topAll es := rfl
    omega
  | fro s es => exact hb
  | siter s p =>
    obtain ⟨β, S, h1, h2, h3⟩ := hb
    exact ⟨β, S, hρ.trans h1, h2, (hw β h1).trans h3⟩
  | map kd m =>
    obtain ⟨β, es, c, h1, h2, h3⟩ := hb
    exact ⟨β, es, c, hρ.trans h1, (hw β h1).trans h2, h3.mono fun p hp v hv => h.rel hv (Nat.le_trans (top_map hp) ht)⟩
end step
end Go.Av

/-
  How a state of the evaluator goes on standing for a state of the model: one block laid, one written, one laid anew, one that is not written any more, and those that a call leaves behind.
-/
namespace Go.Av
section
variable {G : Nat → Option (List AV)} {base : Nat} {esc : Option (List Nat)} {ρ ρ' : Nat → Option Nat} {H H' : List Blk} {w w' : World}

def AV.blk : AV → Nat
  | .mptr b _ => b
  | .eptr b _ _ _ => b
  | .mslice b _ _ => b
  | .map b => b
  | .iter b => b
  | _ => 0

theorem AV.top_blk {a : AV} (h : a.isRef = true) : a.top = a.blk + 1 := by cases a <;> simp [AV.isRef] at h <;> rfl

theorem RefRel.of_eq {a : AV} {v : Value} (href : a.isRef = true) (h : RefRel ρ H w a v) (hH : H'[a.blk]? = H[a.blk]?) (hρ : ρ' a.blk = ρ a.blk)
    (hsz : ∀ β, ρ a.blk = some β → blockSize w' β = blockSize w β) (h0 : ∀ a v, Rel0 ρ w a v → Rel0 ρ' w' a v) : RefRel ρ' H' w' a v := by
  cases a with
  | mptr b off =>
    intro ty cs hcs
    simp only [AV.blk] at hH hρ
    rw [hH] at hcs
    rw [hρ]
    exact h ty cs hcs
  | eptr b n i off =>
    intro g s es hes
    simp only [AV.blk] at hH hρ
    rw [hH] at hes
    rw [hρ]
    exact h g s es hes
  | mslice b off len =>
    simp only [AV.blk] at hH hρ hsz
    refine ⟨fun g s es hes => ?_, fun s es hes he => ?_⟩
    · rw [hH] at hes
      obtain ⟨h1, h2⟩ := h.1 g s es hes
      refine ⟨h1, fun he => ?_⟩
      obtain ⟨β, cap, h3, h4, h5, h7⟩ := h2 he
      exact ⟨β, cap, hρ.trans h3, h4, h5, h7.trans (hsz β h3).symm⟩
    · rw [hH] at hes
      exact h0 _ _ (h.2 s es hes he)
  | map b =>
    intro kd m hm
    simp only [AV.blk] at hH hρ
    rw [hH] at hm
    rw [hρ]
    exact h kd m hm
  | iter b =>
    intro s p hm
    simp only [AV.blk] at hH hρ
    rw [hH] at hm
    rw [hρ]
    exact h s p hm
  | _ => simp [AV.isRef] at href

theorem blockSize_eq {β : Nat} (h : w'.heap[β]? = w.heap[β]?) : blockSize w' β = blockSize w β := by unfold blockSize; rw [h]

theorem rel0_evo (hkeep : ∀ β, Imm ρ β → β < w.heap.size → w'.heap[β]? = w.heap[β]?) (hfresh : ∀ b β, ρ' b = some β → (∃ b', ρ b' = some β) ∨ w.heap.size ≤ β)
    {a : AV} {v : Value} (h : Rel0 ρ w a v) : Rel0 ρ' w' a v :=
  h.mono a.top (Nat.le_refl _) (fun β hi hlt => ⟨fun b hb => by
    rcases hfresh b β hb with ⟨b', hb'⟩ | hge
    · exact hi b' hb'
    · omega, hkeep β hi hlt⟩) (fun _ _ _ _ h => h)

/-- A block is laid: the evaluator's last, the model's last. -/
theorem step_push (hs : Sim G ρ H w) (hb : base ≤ H.length) (x : Blk) (o : Obj) (hw : w'.heap = w.heap.push o) (hos : w'.os = w.os) (htape : w'.tape = w.tape) (hout : w'.output = w.output) :
    Step base esc ρ H w (fun b => if b = H.length then some w.heap.size else ρ b) (H ++ [x]) w' := by
  have hold : ∀ β, β < w.heap.size → w'.heap[β]? = w.heap[β]? := fun β hβ => by rw [hw, Array.getElem?_push]; simp [Nat.ne_of_lt hβ]
  have hfresh : ∀ b β, (fun b => if b = H.length then some w.heap.size else ρ b) b = some β → (∃ b', ρ b' = some β) ∨ w.heap.size ≤ β := by
    intro b β hb'
    try simp only at hb'
    split at hb'
    · exact .inr (by simp at hb'; omega)
    · exact .inl ⟨b, hb'⟩
  refine ⟨hos, htape, hout, by rw [hw]; simp, fun β _ hlt => hold β hlt, hfresh, by simp, fun a v hr ht hv => ?_, fun t ht _ hc q y hq hy => ?_⟩
  · have hk := AV.top_blk hr
    refine RefRel.of_eq hr hv (by rw [List.getElem?_append_left (by omega)]) (by (try simp only); rw [if_neg (by omega)]) (fun β hβ => blockSize_eq (hold β (hs.dom _ _ hβ).1)) (fun a v h => rel0_evo (fun β _ hlt => hold β hlt) hfresh h)
  · rw [List.getElem?_append_left (by omega)] at hy
    exact hc q y hq hy

theorem sim_push (hs : Sim G ρ H w) (x : Blk) (o : Obj) (hw : w'.heap = w.heap.push o) (hos : w'.os = w.os) (htape : w'.tape = w.tape) (hout : w'.output = w.output)
    (hx : BlkRel (fun b => if b = H.length then some w.heap.size else ρ b) (H ++ [x]) w' H.length x) (ht : x.top ≤ H.length + 1) :
    Sim G (fun b => if b = H.length then some w.heap.size else ρ b) (H ++ [x]) w' := by
  have hst := step_push (base := 0) (esc := none) hs (Nat.zero_le _) x o hw hos htape hout
  refine ⟨fun b b' β h1 h2 => ?_, fun b β h => ?_, fun b y hy => ?_, fun q y hq hy => ?_, fun g cs hg => hst.rel0 (hs.glob g cs hg)⟩
  · try simp only at h1 h2
    split at h1 <;> split at h2
    · omega
    · have := hs.dom _ _ h2; simp at h1; omega
    · have := hs.dom _ _ h1; simp at h2; omega
    · exact hs.inj _ _ _ h1 h2
  · try simp only at h
    rw [hw]
    split at h
    · simp at h; subst h; simp; omega
    · have := hs.dom _ _ h; simp; omega
  · by_cases he : b = H.length
    · subst he
      simp at hy
      subst hy
      exact hx
    · have hlt : b < H.length := by
        rcases Nat.lt_or_ge b H.length with h | h
        · exact h
        · rw [List.getElem?_append_right h] at hy
          have : b - H.length ≠ 0 := by omega
          obtain ⟨k, hk⟩ := Nat.exists_eq_succ_of_ne_zero this
          rw [hk] at hy
          simp at hy
      rw [List.getElem?_append_left hlt] at hy
      refine BlkRel.step hst (hs.blk b y hy) (hs.tops b y hlt hy) (by (try simp only); rw [if_neg he]) (fun β hβ => ?_)
      have := hs.dom _ _ hβ
      rw [hw, Array.getElem?_push]; simp [Nat.ne_of_lt this.1]
  · simp only [List.length_append, List.length_singleton] at hq ⊢
    rcases Nat.lt_or_ge q H.length with h | h
    · rw [List.getElem?_append_left h] at hy
      have := hs.tops q y h hy
      omega
    · have : q = H.length := by omega
      subst this
      simp at hy
      subst hy
      omega

/-- The model lays a block that the evaluator doesn't keep. -/
theorem step_extra (hs : Sim G ρ H w) (o : Obj) (hw : w'.heap = w.heap.push o) (hos : w'.os = w.os) (htape : w'.tape = w.tape) (hout : w'.output = w.output) :
    Step base esc ρ H w ρ H w' ∧ Sim G ρ H w' := by
  have hold : ∀ β, β < w.heap.size → w'.heap[β]? = w.heap[β]? := fun β hβ => by rw [hw, Array.getElem?_push]; simp [Nat.ne_of_lt hβ]
  have hst : ∀ {base esc}, Step base esc ρ H w ρ H w' := fun {base esc} => ⟨hos, htape, hout, by rw [hw]; simp, fun β _ hlt => hold β hlt, fun b β h => .inl ⟨b, h⟩, Nat.le_refl _,
    fun a v hr _ hv => RefRel.of_eq hr hv rfl rfl (fun β hβ => blockSize_eq (hold β (hs.dom _ _ hβ).1)) (fun a v h => rel0_evo (fun β _ hlt => hold β hlt) (fun b β h => .inl ⟨b, h⟩) h), fun _ _ _ h => h⟩
  exact ⟨hst, hs.inj, fun b β h => by have := hs.dom b β h; rw [hw]; simp; omega, fun b y hy => BlkRel.step (hst (base := 0) (esc := none)) (hs.blk b y hy) (hs.tops b y (by
      rcases Nat.lt_or_ge b H.length with h | h
      · exact h
      · simp [List.getElem?_eq_none h] at hy) hy) rfl (fun β hβ => hold β (hs.dom _ _ hβ).1), hs.tops, fun g cs hg => (hst (base := 0) (esc := none)).rel0 (hs.glob g cs hg)⟩

/-- Nothing is laid or written: a draw. -/
theorem step_same (hs : Sim G ρ H w) (hw : w'.heap = w.heap) (hos : w'.os = w.os) (htape : w'.tape = w.tape) (hout : w'.output = w.output) :
    Step base esc ρ H w ρ H w' ∧ Sim G ρ H w' := by
  have hst : ∀ {base esc}, Step base esc ρ H w ρ H w' := fun {base esc} => ⟨hos, htape, hout, by rw [hw]; exact Nat.le_refl _, fun β _ _ => by rw [hw], fun b β h => .inl ⟨b, h⟩, Nat.le_refl _,
    fun a v hr _ hv => RefRel.of_eq hr hv rfl rfl (fun β _ => blockSize_eq (by rw [hw])) (fun a v h => rel0_evo (fun β _ _ => by rw [hw]) (fun b β h => .inl ⟨b, h⟩) h), fun _ _ _ h => h⟩
  exact ⟨hst, hs.inj, fun b β h => by have := hs.dom b β h; rw [hw]; exact this, fun b y hy => BlkRel.step (hst (base := 0) (esc := none)) (hs.blk b y hy) (hs.tops b y (by
      rcases Nat.lt_or_ge b H.length with h | h
      · exact h
      · simp [List.getElem?_eq_none h] at hy) hy) rfl (fun β _ => by rw [hw]), hs.tops, fun g cs hg => (hst (base := 0) (esc := none)).rel0 (hs.glob g cs hg)⟩

/-- One block is another one: its cells written, laid anew, or not written any more. -/
theorem step_set (hs : Sim G ρ H w) (b : Nat) (x x' : Blk) (hb : H[b]? = some x) (hρ : ∀ c, c ≠ b → ρ' c = ρ c) (hos : w'.os = w.os) (htape : w'.tape = w.tape) (hout : w'.output = w.output) (hsize : w.heap.size ≤ w'.heap.size)
    (hkeep : ∀ β, β < w.heap.size → ρ b ≠ some β → w'.heap[β]? = w.heap[β]?) (hfresh : ∀ β, ρ' b = some β → ρ b = some β ∨ w.heap.size ≤ β)
    (hk : (∀ a v, Rel0 ρ w a v → Rel0 ρ' w' a v) → ∀ a v, a.isRef = true → a.blk = b → RefRel ρ H w a v → RefRel ρ' (H.set b x') w' a v)
    (hcl : ∀ t, t ≤ base → (∀ l, esc = some l → ∀ q ∈ l, t ≤ q) → b < t → x.top ≤ t → x'.top ≤ t) : Step base esc ρ H w ρ' (H.set b x') w' := by
  have hf : ∀ c β, ρ' c = some β → (∃ b', ρ b' = some β) ∨ w.heap.size ≤ β := by
    intro c β hc
    by_cases he : c = b
    · subst he
      exact (hfresh β hc).imp (fun h => ⟨c, h⟩) id
    · exact .inl ⟨c, by rw [← hρ c he]; exact hc⟩
  have h0 : ∀ a v, Rel0 ρ w a v → Rel0 ρ' w' a v := fun a v h => rel0_evo (fun β hi hlt => hkeep β hlt (hi b)) hf h
  refine ⟨hos, htape, hout, hsize, fun β hi hlt => hkeep β hlt (hi b), hf, by simp, fun a v hr ht hv => ?_, fun t ht he hc q y hq hy => ?_⟩
  · by_cases hab : a.blk = b
    · exact hk h0 a v hr hab hv
    · refine RefRel.of_eq hr hv (by rw [List.getElem?_set_ne (Ne.symm hab)]) (hρ _ hab) (fun β hβ => blockSize_eq (hkeep β (hs.dom _ _ hβ).1 (fun h => hab (hs.inj _ _ _ hβ h)))) h0
  · by_cases hqb : q = b
    · subst hqb
      rw [List.getElem?_set_self (by rcases Nat.lt_or_ge q H.length with h | h; exact h; simp [List.getElem?_eq_none h] at hb)] at hy
      simp at hy
      subst hy
      exact hcl t ht he hq (hc q x hq hb)
    · rw [List.getElem?_set_ne (Ne.symm hqb)] at hy
      exact hc q y hq hy

theorem lt_of_get {α : Type} {l : List α} {i : Nat} {x : α} (h : l[i]? = some x) : i < l.length := by
  rcases Nat.lt_or_ge i l.length with h' | h'
  · exact h'
  · simp [List.getElem?_eq_none h'] at h

theorem sim_set (hs : Sim G ρ H w) (b : Nat) (x x' : Blk) (hb : H[b]? = some x) (hρ : ∀ c, c ≠ b → ρ' c = ρ c) (hst : Step base esc ρ H w ρ' (H.set b x') w')
    (hkeep : ∀ β, β < w.heap.size → ρ b ≠ some β → w'.heap[β]? = w.heap[β]?) (hfresh : ∀ β, ρ' b = some β → ρ b = some β ∨ w.heap.size ≤ β) (hdom : ∀ β, ρ' b = some β → β < w'.heap.size)
    (hx : BlkRel ρ' (H.set b x') w' b x') (ht : x'.top ≤ H.length) : Sim G ρ' (H.set b x') w' := by
  have hne : ∀ c β, c ≠ b → ρ' b = some β → ρ c ≠ some β := by
    intro c β hc h1 h2
    rcases hfresh β h1 with h | h
    · exact hc (hs.inj _ _ _ h2 h)
    · have := hs.dom _ _ h2; omega
  refine ⟨fun c c' β h1 h2 => ?_, fun c β h => ?_, fun c y hy => ?_, fun q y hq hy => ?_, fun g cs hg => hst.rel0 (hs.glob g cs hg)⟩
  · by_cases e1 : c = b <;> by_cases e2 : c' = b
    · exact e1.trans e2.symm
    · subst e1; rw [hρ c' e2] at h2; exact absurd h2 (hne c' β e2 h1)
    · subst e2; rw [hρ c e1] at h1; exact absurd h1 (hne c β e1 h2)
    · rw [hρ c e1] at h1; rw [hρ c' e2] at h2; exact hs.inj _ _ _ h1 h2
  · rw [List.length_set]
    by_cases e : c = b
    · subst e; exact ⟨hdom β h, lt_of_get hb⟩
    · rw [hρ c e] at h; have := hs.dom _ _ h; have := hst.size; omega
  · by_cases e : c = b
    · subst e
      rw [List.getElem?_set_self (lt_of_get hb)] at hy
      simp at hy
      subst hy
      exact hx
    · rw [List.getElem?_set_ne (Ne.symm e)] at hy
      exact BlkRel.step hst (hs.blk c y hy) (hs.tops c y (lt_of_get hy) hy) (hρ c e) (fun β hβ => hkeep β (hs.dom _ _ hβ).1 (fun h => e (hs.inj _ _ _ hβ h)))
  · rw [List.length_set] at hq ⊢
    by_cases e : q = b
    · subst e
      rw [List.getElem?_set_self (lt_of_get hb)] at hy
      simp at hy
      subst hy
      exact ht
    · rw [List.getElem?_set_ne (Ne.symm e)] at hy
      exact hs.tops q y hq hy

/-- What a call made is left. -/
theorem sim_take (hs : Sim G ρ H w) (n : Nat) (hn : n ≤ H.length) (hc : Closed n H) : Sim G (fun b => if b < n then ρ b else none) (H.take n) w := by
  have hi : ∀ β, Imm ρ β → Imm (fun b => if b < n then ρ b else none) β := fun β h b hb => by
    try simp only at hb
    split at hb
    · exact h b hb
    · simp at hb
  have h0 : ∀ a v, Rel0 ρ w a v → Rel0 (fun b => if b < n then ρ b else none) w a v := fun a v h =>
    h.mono a.top (Nat.le_refl _) (fun β h1 _ => ⟨hi β h1, rfl⟩) (fun _ _ _ _ h => h)
  have hr : ∀ a v, a.isRef = true → a.top ≤ n → RefRel ρ H w a v → RefRel (fun b => if b < n then ρ b else none) (H.take n) w a v := fun a v h1 h2 h3 => by
    have hk := AV.top_blk h1
    exact RefRel.of_eq h1 h3 (by rw [List.getElem?_take, if_pos (by omega)]) (by (try simp only); rw [if_pos (by omega)]) (fun _ _ => rfl) h0
  have hrel : ∀ {a v}, RelH ρ H w a v → a.top ≤ n → RelH (fun b => if b < n then ρ b else none) (H.take n) w a v := fun {a v} h ht =>
    h.mono n ht (fun β h1 _ => ⟨hi β h1, rfl⟩) hr
  have hget : ∀ (b : Nat) (x : Blk), (H.take n)[b]? = some x → b < n ∧ H[b]? = some x := fun b x h => by
    rw [List.getElem?_take] at h
    split at h
    · exact ⟨by assumption, h⟩
    · simp at h
  refine ⟨fun b b' β h1 h2 => ?_, fun b β h => ?_, fun b y hy => ?_, fun q y hq hy => ?_, fun g cs hg => h0 _ _ (hs.glob g cs hg)⟩
  · try simp only at h1 h2
    split at h1
    · split at h2
      · exact hs.inj _ _ _ h1 h2
      · simp at h2
    · simp at h1
  · try simp only at h
    split at h
    · have := hs.dom _ _ h
      rw [List.length_take]; omega
    · simp at h
  · obtain ⟨hlt, hy'⟩ := hget b y hy
    have ht := hc b y hlt hy'
    have hb := hs.blk b y hy'
    have hρb : (fun b => if b < n then ρ b else none) b = ρ b := by (try simp only); rw [if_pos hlt]
    cases y with
    | var ty cs =>
      obtain ⟨β, c, h1, h2, h3, h4⟩ := hb
      refine ⟨β, c, hρb.trans h1, h2, h3, fun j x hx => ?_⟩
      obtain ⟨v, hv, hr'⟩ := h4 j x hx
      exact ⟨v, hv, hrel hr' (Nat.le_trans (top_le_topAll hx) ht)⟩
    | arr g s es =>
      obtain ⟨β, c, e, fz, h1, h2, h3, h4, h5, h6, h7, h8⟩ := hb
      refine ⟨β, c, e, fz, hρb.trans h1, h2, h3, h4, h5, h6, h7, fun i el cs j x hx hc hj => ?_⟩
      obtain ⟨v, hv, hr'⟩ := h8 i el cs j x hx hc hj
      refine ⟨v, hv, hrel hr' ?_⟩
      have a1 := top_le_topAll hx
      have a2 := top_cells hc
      have a3 := top_le_topAll hj
      have : (Blk.arr g s es).top = topAll es := rfl
      omega
    | fro s es => exact hb
    | siter s p =>
      obtain ⟨β, S, h1, h2, h3⟩ := hb
      exact ⟨β, S, hρb.trans h1, h2, h3⟩
    | map kd m =>
      obtain ⟨β, es, c, h1, h2, h3⟩ := hb
      exact ⟨β, es, c, hρb.trans h1, h2, h3.mono fun p hp v hv => hrel hv (Nat.le_trans (top_map hp) ht)⟩
  · obtain ⟨hlt, hy'⟩ := hget q y hy
    have := hc q y hlt hy'
    rw [List.length_take]; omega
end
end Go.Av

/-
  From the translation's code to the evaluator's: each operation with the sizes of its types looked up.
-/
namespace Go.Av

def toAV0 : Value → Option AV
  | .bool b => some (.bool b)
  | .int k n => some (.int k n)
  | .string s => some (.str s.data.toList)
  | .pointer none => some .nilptr
  | .slice none 0 0 => some .nilslice
  | .map none => some .nilmap
  | .nilFunc => some .nilfunc
  | .nilIface => some .nilif
  | _ => none

def allAV0 : List Value → Option (List AV)
  | [] => some []
  | v :: r => (toAV0 v).bind fun a => (allAV0 r).bind fun l => some (a :: l)

def toAV : Value → Option AV
  | .agg cs => (allAV0 cs.toList).map AV.agg
  | v => toAV0 v

def cOpd : Operand → Option Opd
  | .tmp t => some (.t t)
  | .const v => (toAV v).map Opd.c
  | .global g => some (.g g)
  | .func f => some (.c (.func f []))

def cOpds : List Operand → Option (List Opd)
  | [] => some []
  | x :: r => (cOpd x).bind fun a => (cOpds r).bind fun l => some (a :: l)

def cOpt : Option Operand → Option (Option Opd)
  | none => some none
  | some x => (cOpd x).map some

section
variable (P : Program)
def sizeT (t : TypeId) : Option Nat := (P.info? t).map (·.size)
def zeroT (t : TypeId) : Option (List AV) := (P.info? t).bind fun i => i.zero.bind fun z => allAV0 z.cells.toList
def isAggT (t : TypeId) : Option Bool := (P.underlying t).map fun
  | .struct _ => true
  | .array _ _ => true
  | _ => false
/-- A type's cells: 'none': one, no struct or array. -/
def shapeT (t : TypeId) : Option (Option Nat) := (isAggT P t).bind fun
  | true => (sizeT P t).map some
  | false => some none

def kindT (t : TypeId) : Nat := match P.underlying t with
  | some (.pointer e) => if ((sizeT P e).getD 0) = 0 then 0 else 1
  | some (.slice _) => 2
  | some (.func _ _ _) => 3
  | some (.map _ _) => 4
  | some .bool => 6
  | _ => 0

/-- A map's kind of keys. -/
def kdT (t : TypeId) : Option (Option IntKind × TypeId) := (P.underlying t).bind fun
  | .map k e => (P.underlying k).bind fun
    | .string => some (none, e)
    | .int i => some (some i, e)
    | _ => none
  | _ => none
/-- A type's zero value. -/
def zeroA (t : TypeId) : Option AV := (P.info? t).bind fun i => i.zero.bind toAV

def cPartsS (fields : Array Field) : List (Nat × Operand) → Option (List (Nat × Nat × Opd))
  | [] => some []
  | (i, x) :: r => (fields[i]?).bind fun f => (sizeT P f.type).bind fun s => (cOpd x).bind fun o => (cPartsS fields r).bind fun l => some ((f.offset, s, o) :: l)
def cPartsA (s : Nat) : List (Nat × Operand) → Option (List (Nat × Nat × Opd))
  | [] => some []
  | (i, x) :: r => (cOpd x).bind fun o => (cPartsA s r).bind fun l => some ((i * s, s, o) :: l)
def cPartsL : List (Nat × Operand) → Option (List (Nat × Opd))
  | [] => some []
  | (i, x) :: r => (cOpd x).bind fun o => (cPartsL r).bind fun l => some ((i, o) :: l)

/-- What 'append' asks of its second operand's type. -/
def srcKind (uu : TypeDesc) : Bool := match uu with
  | .slice _ => true
  | .string => true
  | _ => false

/-- 'frz': a string that is made bytes is not written afterwards. 'mk': a slice that is written out is marked as a string's bytes at once. -/
def cOp (frz mk : Bool) : Op → Option MOp
  | .move x => (cOpd x).map .mv
  | .assign x => (cOpd x).map .mv
  | .pick c a b => (cOpd c).bind fun c => (cOpd a).bind fun a => (cOpd b).bind fun b => some (.pick c a b)
  | .alloc e => (zeroT P e).bind fun z => if z.all isCell = true then some (.alloc e z) else none
  | .box e x => (cOpd x).map (.box e)
  | .build t ps => (zeroT P t).bind fun z => (P.underlying t).bind fun
    | .struct fields => if fields.all (fun f => (sizeT P f.type).isSome) = true then (cPartsS P fields ps.toList).bind fun l => some (.build z l) else none
    | .array _ e => (sizeT P e).bind fun s => (cPartsA s ps.toList).bind fun l => some (.build z l)
    | _ => none
  | .buildSlice t n ps => (P.underlying t).bind fun
    | .slice e => (sizeT P e).bind fun s => (zeroT P e).bind fun z => (isAggT P e).bind fun ag => (cPartsL ps.toList).bind fun l =>
      if 0 < s ∧ z.length = s ∧ n * s ≤ 16777216 ∧ (ag = false → s = 1) then
        (if ag then some (.agg z) else z[0]?).bind fun z => some (if mk then .mkSliceM e s z n l else .mkSlice s z n l)
      else none
    | _ => none
  | .load t a => (shapeT P t).bind fun s => (cOpd a).bind fun a => some (.load s a)
  | .store t a x => (sizeT P t).bind fun s => (cOpd a).bind fun a => (cOpd x).bind fun x => some (.store s a x)
  | .nilCheck x => (cOpd x).map .nilCheck
  | .binOp op t x y _ => (cOpd x).bind fun x => (cOpd y).bind fun y =>
    match op, kindT P t with
    | _, 0 => some (.bin op x y)
    | .eql, k => some (.eqp false k x y)
    | .neq, k => some (.eqp true k x y)
    | _, _ => none
  | .unOp op _ x => (cOpd x).bind fun x => some (.un op x)
  | .convert s d x => (cOpd x).bind fun x => (P.underlying s).bind fun us => (P.underlying d).bind fun ud =>
    match us, ud with
    | .int _, .int k => some (.conv (.int k) x)
    | .int _, .string => some (.conv .runeStr x)
    | .string, .string => some (.conv .same x)
    | .slice _, .slice e => match P.underlying e with
      | some (.int .u8) => if (s == d) = true then some (.conv .mark x) else none
      | _ => none
    | .string, .slice e => match P.underlying e with
      | some (.int .u8) => some (.conv (if frz then .frozen else .strBytes) x)
      | _ => none
    | .slice e, .string => match P.underlying e with
      | some (.int .u8) => if sizeT P e = some 1 then some (.conv .bytesStr x) else none
      | some (.int .i32) => if sizeT P e = some 1 then some (.conv .runesStr x) else none
      | _ => none
    | _, _ => none
  | .makeFunc (.func f) first cap => if first.isEmpty = true then (cOpds cap.toList).bind fun l => some (.func f l) else none
  | .slice t x lo hi mx => (cOpd x).bind fun x => (cOpt lo).bind fun lo => (cOpt hi).bind fun hi => (cOpt mx).bind fun mx => (P.underlying t).bind fun
    | .string => if mx.isNone = true then some (.sliceStr x lo hi) else none
    | .slice e => (sizeT P e).bind fun s => if 0 < s then some (.slice s x lo hi mx) else none
    | _ => none
  | .fieldAddr t x f => (cOpd x).bind fun x => (P.underlying t).bind fun
    | .struct fields => (fields[f]?).bind fun f => (sizeT P f.type).bind fun s => if s = 0 then none else some (.fieldA x f.offset)
    | _ => none
  | .field t x f => (cOpd x).bind fun x => (P.underlying t).bind fun
    | .struct fields => (fields[f]?).bind fun f => (shapeT P f.type).bind fun s => some (.field x f.offset s)
    | _ => none
  | .indexAddr t x i => (cOpd x).bind fun x => (cOpd i).bind fun i => (P.underlying t).bind fun
    | .slice e => (sizeT P e).bind fun s => if 0 < s then some (.idxA s x i) else none
    | .array n e => (sizeT P e).bind fun s => if 0 < s then some (.idxArrA n s x i) else none
    | _ => none
  | .index t x i => (cOpd x).bind fun x => (cOpd i).bind fun i => (P.underlying t).bind fun
    | .string => some (.idxStr x i)
    | .array n e => (sizeT P e).bind fun s => (isAggT P e).bind fun ag => some (.idxArr n s ag x i)
    | _ => none
  | .range t x => (cOpd x).bind fun x => (P.underlying t).bind fun
    | .string => some (.rangeStr x)
    | _ => none
  | .next x true => (cOpd x).bind fun x => some (.nextStr x)
  | .extract x i => (cOpd x).bind fun x => some (.extract x i)
  | .makeMap t none => (kdT P t).bind fun p => some (.makeMap p.1)
  | .insert t m k v => (kdT P t).bind fun p => (cOpd m).bind fun m => (cOpd k).bind fun k => (cOpd v).bind fun v => some (.insert p.1 m k v)
  | .mapUpdate t m k v => (kdT P t).bind fun p => (cOpd m).bind fun m => (cOpd k).bind fun k => (cOpd v).bind fun v => some (.insert p.1 m k v)
  | .lookup t x i ok => (kdT P t).bind fun p => (zeroA P p.2).bind fun z => (cOpd x).bind fun x => (cOpd i).bind fun i => some (.lookup p.1 z ok x i)
  | .call { callee := .value f, args, argTypes := _ } => (cOpd f).bind fun f => (cOpds args.toList).bind fun l => some (.call f l)
  | .call { callee := .builtin .len, args, argTypes } => match args.toList, argTypes.toList with
    | [x], [t] => (cOpd x).bind fun x => (P.underlying t).bind fun
      | .string => some (.lenS x)
      | .slice _ => some (.lenL x)
      | _ => none
    | _, _ => none
  | .call { callee := .builtin .append, args, argTypes } => match args.toList, argTypes.toList with
    | [x, y], [t, u] => (cOpd x).bind fun x => (cOpd y).bind fun y => (P.underlying t).bind fun
      | .slice e => (P.info? e).bind fun i => (zeroT P e).bind fun z => (P.underlying u).bind fun uu =>
        if 0 < i.size ∧ z.length = i.size ∧ srcKind uu = true then some (.append e i.size i.bytes x y) else none
      | _ => none
    | _, _ => none
  | .call { callee := .builtin .min, args, argTypes := _ } => match args.toList with
    | [x, y] => (cOpd x).bind fun x => (cOpd y).bind fun y => some (.minmax false x y)
    | _ => none
  | .call { callee := .builtin .max, args, argTypes := _ } => match args.toList with
    | [x, y] => (cOpd x).bind fun x => (cOpd y).bind fun y => some (.minmax true x y)
    | _ => none
  | _ => none

def cGuard (ops : Array Oper) : Option (Nat × Bool) → Option (Option (Nat × Bool))
  | none => some none
  | some (j, b) => ((ops[j]?).bind (·.dst)).bind fun t => some (some (t, b))

def cOper (frz mk : Bool) (nt : Nat) (ops : Array Oper) (o : Oper) : Option MInstr :=
  (cOp P frz mk o.op).bind fun op => (cGuard ops o.guard).bind fun g =>
    match o.dst with
    | none => some { dst := none, op, guard := g }
    | some d => if d < nt then some { dst := some d, op, guard := g } else none

/-- Is the next operation the conversion of this slice to its own type? -/
def marks (o : Oper) : List Oper → Bool
  | ⟨_, .convert s d (.tmp t), _, _, _, _⟩ :: _ => (s == d) && decide (o.dst = some t) && (match o.op with | .buildSlice .. => true | _ => false)
  | _ => false

def cOpers (frz : Bool) (nt : Nat) (ops : Array Oper) : List Oper → Option (List MInstr)
  | [] => some []
  | o :: r => (cOper P frz (marks o r) nt ops o).bind fun i => (cOpers frz nt ops r).bind fun l => some (i :: l)

def Opd.reads : Opd → List Nat
  | .t n => [n]
  | _ => []
def oreads : Option Opd → List Nat
  | none => []
  | some x => x.reads
def readsAll : List Opd → List Nat
  | [] => []
  | x :: r => x.reads ++ readsAll r

/-- The temporaries that an operation looks at. -/
def MOp.reads : MOp → List Nat
  | .mv x => x.reads
  | .pick c a b => c.reads ++ (a.reads ++ b.reads)
  | .alloc _ _ => []
  | .box _ x => x.reads
  | .build _ ps => readsAll (ps.map (·.2.2))
  | .mkSlice _ _ _ ps => readsAll (ps.map (·.2))
  | .mkSliceM _ _ _ _ ps => readsAll (ps.map (·.2))
  | .load _ a => a.reads
  | .store _ a x => a.reads ++ x.reads
  | .nilCheck x => x.reads
  | .bin _ x y => x.reads ++ y.reads
  | .eqp _ _ x y => x.reads ++ y.reads
  | .un _ x => x.reads
  | .conv _ x => x.reads
  | .fieldA x _ => x.reads
  | .field x _ _ => x.reads
  | .idxA _ x i => x.reads ++ i.reads
  | .idxArrA _ _ x i => x.reads ++ i.reads
  | .idxStr x i => x.reads ++ i.reads
  | .idxArr _ _ _ x i => x.reads ++ i.reads
  | .sliceStr x lo hi => x.reads ++ (oreads lo ++ oreads hi)
  | .slice _ x lo hi mx => x.reads ++ (oreads lo ++ (oreads hi ++ oreads mx))
  | .rangeStr x => x.reads
  | .nextStr x => x.reads
  | .extract x _ => x.reads
  | .func _ cap => readsAll cap
  | .call f args => f.reads ++ readsAll args
  | .lenS x => x.reads
  | .lenL x => x.reads
  | .append _ _ _ x y => x.reads ++ y.reads
  | .minmax _ x y => x.reads ++ y.reads
  | .makeMap _ => []
  | .insert _ x k v => x.reads ++ (k.reads ++ v.reads)
  | .lookup _ _ _ x i => x.reads ++ i.reads

def MInstr.reads (i : MInstr) : List Nat := match i.guard with
  | none => i.op.reads
  | some (t, _) => t :: i.op.reads

/-- Does an operation change blocks? A call: if it is said to. -/
def MOp.loud (lc : Bool) : MOp → Bool
  | .alloc _ _ => true
  | .box _ _ => true
  | .store _ _ _ => true
  | .append _ _ _ _ _ => true
  | .rangeStr _ => true
  | .nextStr _ => true
  | .makeMap _ => true
  | .insert _ _ _ _ => true
  | .conv .strBytes _ => true
  | .conv .mark _ => true
  | .mkSliceM _ _ _ _ _ => true
  | .call _ _ => lc
  | _ => false

def loudsAt (lcs : List Nat) : Nat → List MInstr → List Nat
  | _, [] => []
  | k, i :: r => if i.op.loud (lcs.contains k) then k :: loudsAt lcs (k + 1) r else loudsAt lcs (k + 1) r

def subs : List Nat → List (List Nat)
  | [] => [[]]
  | j :: r => subs r ++ (subs r).map (j :: ·)

/-- What an operation waits for. -/
def predsOf (o : Oper) : List Nat := o.after.toList.filterMap fun e => if Region.binds .any e then some e.on else none

def addNew (x : Nat) (l : List Nat) : List Nat := if l.contains x then l else x :: l
def dedup : List Nat → List Nat
  | [] => []
  | x :: r => addNew x (dedup r)

def ancsGo : List Oper → List (List Nat) → List (List Nat)
  | [], acc => acc
  | o :: r, acc => ancsGo r (acc ++ [dedup (predsOf o ++ (predsOf o).flatMap fun j => acc.getD j [])])

/-- What an operation waits for, directly or not. -/
def ancsOf (ops : List Oper) : List (List Nat) := ancsGo ops []

/-- May operation 'i' be next when just 's' of those that change blocks are done? -/
def possible (an : List (List Nat)) (louds : List Nat) (i : Nat) (s : List Nat) : Bool :=
  !s.contains i && louds.all fun j => (!(an.getD i []).contains j || s.contains j) && (!s.contains j || (!(an.getD j []).contains i && louds.all fun k => !(an.getD j []).contains k || s.contains k))

def addLoud (louds s : List Nat) (i : Nat) : List Nat := louds.filter fun j => s.contains j || j == i

def extraOf (an : List (List Nat)) (louds : List Nat) (n : Nat) : List (Nat × List Nat × List Nat) :=
  (subs louds).flatMap fun s => (List.range n).filterMap fun i =>
    if possible an louds i s && !decide (s = louds.filter (· < i)) then some (i, s, addLoud louds s i) else none

def keysOf (louds : List Nat) : Nat → List MInstr → List DInstr
  | _, [] => []
  | k, i :: r => ⟨i, if louds.contains k then some (louds.filter (· ≤ k)) else none⟩ :: keysOf louds (k + 1) r

def distinct : List Nat → Bool
  | [] => true
  | x :: r => !r.contains x && distinct r

def orderly (ops : List Oper) : Nat → Bool
  | 0 => true
  | n + 1 => orderly ops n && ((ops[n]?).map fun o => (predsOf o).all (decide <| · < n)).getD true

/-- Is what an operation looks at made ahead of it? 'weak': or behind it. -/
def seenAt (weak : Bool) (an : List (List Nat)) (l : List MInstr) (i : Nat) : Bool :=
  ((l[i]?).map (·.reads)).getD [] |>.all fun t => (List.range l.length).all fun j =>
    !decide ((l[j]?).bind (·.dst) = some t) || ((an.getD i []).contains j && decide (j < i)) || (weak && (decide (j = i) || ((an.getD j []).contains i && decide (i < j))))

def seen (an : List (List Nat)) (l : List MInstr) : Bool := (List.range l.length).all (seenAt true an l)

def cDraw (frz : Bool) (nt : Nat) (ops : Array Oper) (lcs keep : List Nat) : Option M :=
  (cOpers P frz nt ops ops.toList).bind fun l =>
    let louds := loudsAt lcs 0 l
    let an := ancsOf ops.toList
    if orderly ops.toList ops.size && distinct (l.filterMap (·.dst)) && seen an l && (extraOf an louds l.length).all (fun e => seenAt false an l e.1) then
      some (.draw (keysOf louds 0 l) (extraOf an louds l.length) keep)
    else none

/-- 'hs': of each region the temporaries that are still of use behind it; of each loop those at its head. -/
def cCode (frz : Bool) (nt : Nat) : Code → List (List Nat) → Option (M × List (List Nat))
  | .skip, hs => some (.skip, hs)
  | .region _ ops false, keep :: hs => (cOpers P frz nt ops ops.toList).bind fun l => some (.ops l keep, hs)
  | .region _ ops true, keep :: lcs :: hs => (cDraw P frz nt ops lcs keep).bind fun m => some (m, hs)
  | .seq a b, hs => (cCode frz nt a hs).bind fun p => (cCode frz nt b p.2).bind fun q => some (.seq p.1 q.1, q.2)
  | .cond c a b, hs => (cOpd c).bind fun c => (cCode frz nt a hs).bind fun p => (cCode frz nt b p.2).bind fun q => some (.cond c p.1 q.1, q.2)
  | .block id b, hs => (cCode frz nt b hs).bind fun p => some (.block id p.1, p.2)
  | .loop b, keep :: hs => (cCode frz nt b hs).bind fun p => some (.loop keep p.1, p.2)
  | .exit id, hs => some (.exit id, hs)
  | .scope b, hs => (cCode frz nt b hs).bind fun p => some (.scope p.1, p.2)
  | .label _, hs => some (.skip, hs)
  | .ret, hs => some (.ret, hs)
  | _, _ => none

def cRes : List ResultVar → Option (List RV)
  | [] => some []
  | .tmp t :: r => (cRes r).bind fun l => some (.t t :: l)
  | .cell a t :: r => (shapeT P t).bind fun s => (cRes r).bind fun l => some (.cell a s :: l)

def cFunc (frz : Bool) (keep : Option (List Nat)) (hs : List (List Nat)) (fn : Func) : Option MFunc :=
  fn.body.bind fun b => (cCode P frz fn.ntmps b hs).bind fun p => (cRes P fn.results.toList).bind fun rs =>
    if fn.params.size + fn.nfree ≤ fn.ntmps then some { ntmps := fn.ntmps, nargs := fn.params.size + fn.nfree, results := rs, body := p.1, keep } else none
end
end Go.Av
