/- Part 12 of what the closing text rests on. -/
import Derived.Test.YtdamnoleoakehaaGreatDoorKX11
namespace Go.Q
noncomputable section
open Go.RowKit
open Go.Z hiding cond_false get

abbrev E := List (Nat × DV)
def E.get : E → Nat → Option DV
  | [], _ => none
  | (m, d) :: l, t => cond (Nat.beq m t) (some d) (E.get l t)
def fail {α : Type} (s : String) (l : List Nat) : R α := .error (.msg s l)
def optR {α : Type} (s : String) (l : List Nat) : Option α → R α
  | some a => .ok a
  | none => .error (.msg s l)

def lift1 : Value → DV
  | .int k n => .n k (lit n)
  | .string s => .s (s.data.toList.map fun b => .y (lit (Int.ofNat b.toNat)))
  | v => .c v
def lift : Value → DV
  | .agg cs => .a (cs.toList.map lift1)
  | v => lift1 v
def getF (env : Nat → Option DV) : Operand → Option DV
  | .tmp t => env t
  | .const v => some (lift v)
  | .func f => some (.f (.func f) [] [])
  | .global n => some (.g n)
def resF (env : Nat → Option DV) : List Operand → R (List DV)
  | [] => .ok []
  | x :: l => match getF env x with
    | some d => match resF env l with
      | .ok ds => .ok (d :: ds)
      | .error e => .error e
    | none => .error (.msg "operand" (match x with | .tmp t => [t] | _ => []))

def oneD : DV → Bool
  | .c v => v.oneCell'
  | .a _ => false
  | .t _ => false
  | .x _ => false
  | _ => true
def allOne : List DV → Bool
  | [] => true
  | x :: l => oneD x && allOne l
def cellsD : DV → Option (List DV)
  | .a l => cond (allOne l) (some l) none
  | d => cond (oneD d) (some [d]) none
def rowOf : List DV → List Cl
  | [] => []
  | x :: l => .v x :: rowOf l

def takeV : Nat → List Cl → Option (List DV)
  | 0, _ => some []
  | _ + 1, [] => none
  | k + 1, c :: l => match c with
    | .v x => match takeV k l with
      | some m => some (x :: m)
      | none => none
    | .b _ => none
def ldRow (P : Program) (T : Nat) (b : List Cl) : Option DV :=
  match kindT P T with
  | some (true, s) => match takeV s b with
    | some l => some (.a l)
    | none => none
  | some (false, _) => match b with
    | .v x :: _ => some x
    | _ => none
  | none => none
def rowAt (h : St) (n : Nat) : Option (Nat × List Cl × Bool) :=
  match h.get n with
  | some (.cells T cs ex) => some (T, cs, ex)
  | _ => none
def loadD (Γ : Cx) (P : Program) (T : Nat) (d : DV) (h : St) : R DV :=
  match d with
  | .p n o => match rowAt h n with
    | some (_, cs, _) => match split Γ cs o with
      | some (_, b) => optR "load" [T, n] (ldRow P T b)
      | none => fail "load: place" [T, n]
    | none => match h.get n with
      | some (.win o0 cs) => match split Γ cs (o.sub o0) with
        | some (_, b) => optR "load" [T, n] (ldRow P T b)
        | none => fail "load: place" [T, n]
      | _ => fail "load: nothing there" [T, n]
  | _ => fail "load: no pointer" [T]

def intBin (op : BinOp) (k k' : IntKind) (a b : Int) : Option Value :=
  match op with
  | .shl => cond (intLe 0 b) (some (.int k (shlI k a b))) none
  | .shr => cond (intLe 0 b) (some (.int k (shrI k a b))) none
  | _ => if k = k' then
    match op with
    | .add => some (.int k (k.wrap (a + b)))
    | .sub => some (.int k (k.wrap (a - b)))
    | .mul => some (.int k (k.wrap (a * b)))
    | .quo => cond (intB b 0) none (some (.int k (k.wrap (a.tdiv b))))
    | .rem => cond (intB b 0) none (some (.int k (a.tmod b)))
    | .and => some (.int k (bits .and k a b))
    | .or => some (.int k (bits .or k a b))
    | .xor => some (.int k (bits .xor k a b))
    | .andNot => some (.int k (bits .andNot k a b))
    | .eql => some (.bool (intB a b))
    | .neq => some (.bool (!intB a b))
    | .lss => some (.bool (!intLe b a))
    | .leq => some (.bool (intLe a b))
    | .gtr => some (.bool (!intLe a b))
    | .geq => some (.bool (intLe b a))
    | _ => none
    else none
def boolV : Option Bool → Option DV
  | some b => some (.c (.bool b))
  | none => none
def notO : Option Bool → Option Bool
  | some b => some (!b)
  | none => none
def inK (Γ : Cx) (k : IntKind) (x : Lin) : Option DV := cond (inI Γ k.min k.max x) (some (.n k x)) none
def orElseD (a : Option DV) (b : Option DV) : Option DV := match a with
  | some x => some x
  | none => b
def opTab (op : BinOp) (k : IntKind) (x y : Lin) : List (BinOp × IntKind × Lin × Lin × Option Lin × Bool) → Option DV
  | [] => none
  | (op', k', x', y', r, b) :: l => if op = op' then if k = k' then cond (x.eqb x' && y.eqb y') (match r with
    | some z => some (.n k z)
    | none => some (.c (.bool b))) (opTab op k x y l) else opTab op k x y l else opTab op k x y l
def symBin (Γ : Cx) (op : BinOp) (k : IntKind) (x y : Lin) : Option DV :=
  match op with
  | .add => inK Γ k (x.add y)
  | .sub => inK Γ k (x.sub y)
  | .mul => cond y.isLit (inK Γ k (x.mul y.c)) none
  | .eql => boolV (eqD Γ x y)
  | .neq => boolV (notO (eqD Γ x y))
  | .lss => boolV (notO (leD Γ y x))
  | .leq => boolV (leD Γ x y)
  | .gtr => boolV (notO (leD Γ x y))
  | .geq => boolV (leD Γ y x)
  | _ => none
def isSh : BinOp → Bool
  | .shl => true
  | .shr => true
  | _ => false
def intD (Γ : Cx) (op : BinOp) (k k' : IntKind) (x y : Lin) : R DV :=
  cond (x.isLit && y.isLit) (match intBin op k k' x.c y.c with
      | some v => .ok (lift1 v)
      | none => fail "integers" [])
    (if k = k' then match orElseD (opTab op k x y Γ.ops) (symBin Γ op k x y) with
      | some d => .ok d
      | none => .error (.op op k x y) else cond (isSh op) (match opTab op k x y Γ.ops with
      | some d => .ok d
      | none => .error (.op op k x y)) (.error (.op op k x y)))

def szS (Γ : Cx) : List Sg → Lin
  | [] => lit 0
  | .y _ :: l => (szS Γ l).add (lit 1)
  | .b i :: l => (szS Γ l).add (Γ.bl.getD i (lit 0))
def eqByte (Γ : Cx) (x y : Lin) : Option Bool :=
  cond (x.eqb y) (some true) (cond (inI Γ 0 255 x && inI Γ 0 255 y) (eqD Γ x y) none)
def eqSg (Γ : Cx) : List Sg → List Sg → Option Bool
  | [], [] => some true
  | [], .y _ :: _ => some false
  | .y _ :: _, [] => some false
  | .y x :: l, .y z :: r => match eqByte Γ x z with
    | some true => eqSg Γ l r
    | some false => some false
    | none => none
  | .b i :: l, .b j :: r => cond (Nat.beq i j) (eqSg Γ l r) none
  | _, _ => none
def sgB : List Sg → List Sg → Bool
  | [], [] => true
  | .y x :: l, .y z :: r => x.eqb z && sgB l r
  | .b i :: l, .b j :: r => Nat.beq i j && sgB l r
  | _, _ => false
def linO : Option Lin → Option Lin → Bool
  | none, none => true
  | some x, some y => x.eqb y
  | _, _ => false
def valB : Value → Value → Bool
  | .bool a, .bool b => a == b
  | .pointer none, .pointer none => true
  | .slice none 0 0, .slice none 0 0 => true
  | .map none, .map none => true
  | .nilFunc, .nilFunc => true
  | .nilIface, .nilIface => true
  | .tuple a, .tuple b => a.isEmpty && b.isEmpty
  | _, _ => false
mutual
def DV.eqb : DV → DV → Bool
  | .c a, .c b => valB a b
  | .n k x, .n k' y => decide (k = k') && x.eqb y
  | .s l, .s m => sgB l m
  | .p n o, .p m q => Nat.beq n m && o.eqb q
  | .g n, .g m => Nat.beq n m
  | .l n es o len cp q, .l n' es' o' len' cp' q' => Nat.beq n n' && (Nat.beq es es' && (o.eqb o' && (len.eqb len' && (linO cp cp' && q.eqb q'))))
  | .m n, .m m => Nat.beq n m
  | .f fn a b, .f fn' a' b' => decide (fn = fn') && (eqbL a a' && eqbL b b')
  | .i t v, .i t' v' => Nat.beq t t' && v.eqb v'
  | .a l, .a m => eqbL l m
  | .t l, .t m => eqbL l m
  | .x i, .x j => Nat.beq i j
  | .e v i, .e v' i' => Nat.beq v v' && Nat.beq i i'
  | _, _ => false
def eqbL : List DV → List DV → Bool
  | [], [] => true
  | x :: l, y :: m => x.eqb y && eqbL l m
  | _, _ => false
end
def sqTab (x y : List Sg) : List (List Sg × List Sg × Bool) → Option Bool
  | [] => none
  | (x', y', b) :: l => cond (sgB x x' && sgB y y') (some b) (sqTab x y l)
def eqStr (Γ : Cx) (x y : List Sg) : Option Bool :=
  match sqTab x y Γ.sq with
  | some b => some b
  | none => match eqD Γ (szS Γ x) (szS Γ y) with
    | some false => some false
    | _ => eqSg Γ x y
def partD (P : Program) (T : Nat) (l : List DV) (o : Nat) : Option DV :=
  match kindT P T with
  | some (true, s) => cond (Nat.ble (o + s) l.length) (some (.a ((l.drop o).take s))) none
  | some (false, _) => l[o]?
  | none => none
def eqFs (eq : Nat → DV → DV → Option Bool) (P : Program) (xs ys : List DV) : List Field → Option Bool
  | [] => some true
  | f :: l => if f.name = "_" then eqFs eq P xs ys l else match partD P f.type xs f.offset, partD P f.type ys f.offset with
    | some x, some y => match eq f.type x y with
      | some true => eqFs eq P xs ys l
      | some false => some false
      | none => none
    | _, _ => none
def eqV (Γ : Cx) (P : Program) : Nat → Nat → DV → DV → Option Bool
  | 0, _, _, _ => none
  | d + 1, T, x, y => match P.underlying T, x, y with
    | some .bool, .c (.bool a), .c (.bool b) => some (a == b)
    | some (.int _), .n k a, .n k' b => if k = k' then eqD Γ a b else none
    | some .string, .s a, .s b => eqStr Γ a b
    | some (.pointer _), .c (.pointer none), .c (.pointer none) => some true
    | some (.pointer _), .c (.pointer none), .p _ _ => some false
    | some (.pointer _), .p _ _, .c (.pointer none) => some false
    | some (.slice _), .c (.slice none 0 0), .c (.slice none 0 0) => some true
    | some (.slice _), .l .., .c (.slice none 0 0) => some false
    | some (.slice _), .c (.slice none 0 0), .l .. => some false
    | some (.map _ _), .c (.map none), .c (.map none) => some true
    | some (.map _ _), .m _, .c (.map none) => some false
    | some (.func _ _ _), .c .nilFunc, .c .nilFunc => some true
    | some (.func _ _ _), .f .., .c .nilFunc => some false
    | some (.struct fs), .a xs, .a ys => cond (P.stoodInHeld T) none (eqFs (eqV Γ P d) P xs ys fs.toList)
    | _, _, _ => none
def eqDepth : Nat := 8

def isStruct (P : Program) (T : Nat) : Bool := match P.underlying T with
  | some (.struct _) => true
  | _ => false
def isIface (P : Program) (T : Nat) : Bool := match P.underlying T with
  | some (.interface _) => true
  | some (.array ..) => true
  | none => true
  | _ => false
def okGuard (P : Program) (T : Nat) : Bool := cond (isStruct P T) (!P.eqGuardType P.depth T) (!isIface P T)
def binD (Γ : Cx) (P : Program) (op : BinOp) (T : Nat) (x y : DV) : R DV :=
  match x, y with
  | .n k a, .n k' b => intD Γ op k k' a b
  | .s a, .s b => match op with
    | .add => cond (upLe Γ (szS Γ (a ++ b)) 9223372036854775807) (.ok (.s (a ++ b))) (fail "strings" [])
    | .eql => optR "strings ==" [] (boolV (eqStr Γ a b))
    | .neq => optR "strings !=" [] (boolV (notO (eqStr Γ a b)))
    | _ => fail "strings" []
  | _, _ => cond (okGuard P T) (match op with
    | .eql => optR "==" [T] (boolV (eqV Γ P eqDepth T x y))
    | .neq => optR "!=" [T] (boolV (notO (eqV Γ P eqDepth T x y)))
    | _ => fail "operator" [T]) (fail "operator: guard" [T])

def unD (Γ : Cx) (op : UnOp) (x : DV) : R DV :=
  match op, x with
  | .not, .c (.bool t) => .ok (.c (.bool (!t)))
  | .neg, .n k a => cond a.isLit (.ok (.n k (lit (k.wrap (0 - a.c))))) (optR "negation" [] (inK Γ k (a.mul (-1))))
  | .xor, .n k a => cond a.isLit (.ok (.n k (lit (bits .xor k (if k.signed then -1 else k.max) a.c)))) (fail "complement" [])
  | _, _ => fail "unary" []

def winAt (h : St) (n : Nat) : Option (Lin × List Cl) :=
  match h.get n with
  | some (.win o cs) => some (o, cs)
  | _ => none
def midD (Γ : Cx) (h : St) (n es : Nat) (o len : Lin) : Option (List Cl) :=
  match rowAt h n with
  | some (_, cs, _) => match split Γ cs o with
    | some (_, b) => match split Γ b (len.mul es) with
      | some (m, _) => some m
      | none => none
    | none => none
  | none => match winAt h n with
    | some (o0, cs) => cond (o.eqb o0) (match split Γ cs (len.mul es) with
      | some (m, _) => some m
      | none => none) none
    | none => none
def toSg : List Cl → Option (List Sg)
  | [] => some []
  | .v (.n .u8 x) :: l => match toSg l with
    | some m => some (.y x :: m)
    | none => none
  | .b i :: l => match toSg l with
    | some m => some (.b i :: m)
    | none => none
  | _ :: _ => none
def ofSg (Γ : Cx) : List Sg → Option (List Cl)
  | [] => some []
  | .y x :: l => cond (inI Γ 0 255 x) (match ofSg Γ l with
    | some m => some (.v (.n .u8 x) :: m)
    | none => none) none
  | .b i :: l => match ofSg Γ l with
    | some m => some (.b i :: m)
    | none => none
def cvTab (k : IntKind) (x : Lin) : List (IntKind × Lin × Lin) → Option DV
  | [] => none
  | (k', x', r) :: l => if k = k' then cond (x.eqb x') (some (.n k r)) (cvTab k x l) else cvTab k x l
def isU8 (P : Program) (e : Nat) : Bool := match P.underlying e with
  | some (.int .u8) => true
  | _ => false
def convD (Γ : Cx) (P : Program) (src dst : Nat) (x : DV) (h : St) : R DV :=
  match P.underlying src, P.underlying dst, x with
  | some _, some (.int k), .n _ a => cond a.isLit (.ok (.n k (lit (k.wrap a.c)))) (match orElseD (cvTab k a Γ.cv) (inK Γ k a) with
    | some d => .ok d
    | none => .error (.op .add k a (lit 0)))
  | some .string, some .string, .s l => .ok (.s l)
  | some (.slice e), some .string, .c (.slice none 0 0) => cond (isU8 P e) (.ok (.s [])) (fail "convert" [src, dst])
  | some (.slice e), some .string, .l n es o len _ _ => cond (isU8 P e && Nat.beq es 1) (cond (len.eqb (lit 0)) (.ok (.s [])) (match midD Γ h n es o len with
    | some m => optR "convert: bytes" [n] (match toSg m with | some l => some (.s l) | none => none)
    | none => fail "convert: memory" [n])) (fail "convert" [src, dst])
  | _, _, _ => fail "convert" [src, dst]

def surely (o : Option Bool) : Bool := match o with
  | some b => b
  | none => false
def le0 (Γ : Cx) (x y : Lin) : Bool := surely (leD Γ x y)

def indexAddrD (Γ : Cx) (P : Program) (T : Nat) (x i : DV) : R DV :=
  match P.underlying T, x, i with
  | some (.slice e), .l n es o len _ _, .n _ z => match kindT P e with
    | some (_, s) => cond (Nat.beq s es && (le0 Γ (lit 0) z && le0 Γ (z.add (lit 1)) len)) (.ok (.p n (o.add (z.mul es)))) (fail "index" [n])
    | none => fail "index" [T]
  | some (.array len e), .p n o, .n _ z => match kindT P e with
    | some (_, s) => cond (le0 Γ (lit 0) z && le0 Γ (z.add (lit 1)) (lit len)) (.ok (.p n (o.add (z.mul s)))) (fail "index" [n])
    | none => fail "index" [T]
  | _, _, _ => fail "index: kind" [T]
def sgAt : List Sg → Nat → Option Lin
  | .y x :: _, 0 => some x
  | .y _ :: l, k + 1 => sgAt l k
  | _, _ => none
def indexD (Γ : Cx) (P : Program) (T : Nat) (x i : DV) : R DV :=
  match P.underlying T, x, i with
  | some .string, .s l, .n _ z => match z.isLit, z.c with
    | true, .ofNat k => match sgAt l k with
      | some x => cond (inI Γ 0 255 x) (.ok (.n .u8 x)) (fail "byte" [])
      | none => fail "index of a string" [k]
    | _, _ => fail "index of a string" []
  | some (.array len e), .a l, .n _ z => match kindT P e, z.isLit, z.c with
    | some (_, s), true, .ofNat k => cond (Nat.blt k len) (optR "index" [T] (partD P e l (k * s))) (fail "index" [T])
    | _, _, _ => fail "index" [T]
  | _, _, _ => fail "index: kind" [T]

def sliceL (Γ : Cx) (n es : Nat) (o len : Lin) (cp : Option Lin) (q : Lin) (lo hi : Lin) (mx : Option Lin) : R DV :=
  cond (le0 Γ (lit 0) lo && (le0 Γ lo hi && (match mx with
      | none => le0 Γ hi len
      | some m => le0 Γ hi m && le0 Γ m len)))
    (cond (lo.eqb (lit 0))
      (match mx with
      | none => .ok (.l n es o hi cp q)
      | some m => cond (q.eqb o || le0 Γ (lit 1) len) (.ok (.l n es o hi (some m) o)) (fail "slice: max" [n]))
      (cond (le0 Γ (lit 1) lo)
        (.ok (.l n es (o.add (lo.mul es)) (hi.sub lo) (match mx with
          | some m => some (m.sub lo)
          | none => match cp with
            | some c => some (c.sub lo)
            | none => none) o))
        (fail "slice: from" [n])))
    (fail "slice: bounds" [n])
def takeS : Nat → List Sg → Option (List Sg × List Sg)
  | 0, l => some ([], l)
  | _ + 1, [] => none
  | k + 1, s :: l => match s with
    | .y x => match takeS k l with
      | some (a, b) => some (.y x :: a, b)
      | none => none
    | .b _ => none
def natOf (x : Lin) : Option Nat := match x.t, x.c with
  | [], .ofNat k => some k
  | _, _ => none
def sliceStr (l : List Sg) (lo : Option Lin) (hi : Option Lin) : R DV :=
  match (match hi with | none => some l | some z => match natOf z with | none => none | some k => match takeS k l with | some (a, _) => some a | none => none) with
  | none => fail "slice of a string" []
  | some a => match lo with
    | none => .ok (.s a)
    | some z => match natOf z with
      | none => fail "slice of a string" []
      | some k => match takeS k a with
        | some (_, b) => .ok (.s b)
        | none => fail "slice of a string" []
def sliceD (Γ : Cx) (P : Program) (T : Nat) (x : DV) (lo hi mx : Option Lin) : R DV :=
  match P.underlying T, x with
  | some (.slice e), .l n es o len cp q => match kindT P e with
    | some (_, s) => cond (Nat.beq s es) (sliceL Γ n es o len cp q (lo.getD (lit 0)) (hi.getD len) mx) (fail "slice: size" [T])
    | none => fail "slice" [T]
  | some (.slice e), .c (.slice none 0 0) => match kindT P e with
    | some _ => cond ((lo.getD (lit 0)).eqb (lit 0) && ((hi.getD (lit 0)).eqb (lit 0) && (mx.getD (lit 0)).eqb (lit 0))) (.ok x) (fail "slice of nil" [T])
    | none => fail "slice" [T]
  | some .string, .s l => match mx with
    | none => sliceStr l lo hi
    | some _ => fail "slice of a string" []
  | _, _ => fail "slice: kind" [T]
def sliceOp (Γ : Cx) (P : Program) (T : Nat) (lo hi mx : Bool) (vs : List DV) : R DV :=
  match lo, hi, mx, vs with
  | false, false, false, [x] => sliceD Γ P T x none none none
  | true, false, false, [x, .n _ l] => sliceD Γ P T x (some l) none none
  | false, true, false, [x, .n _ m] => sliceD Γ P T x none (some m) none
  | true, true, false, [x, .n _ l, .n _ m] => sliceD Γ P T x (some l) (some m) none
  | false, true, true, [x, .n _ m, .n _ c] => sliceD Γ P T x none (some m) (some c)
  | true, true, true, [x, .n _ l, .n _ m, .n _ c] => sliceD Γ P T x (some l) (some m) (some c)
  | _, _, _, _ => fail "slice: operands" [T]

def fieldD (P : Program) (T f : Nat) (s : DV) : R DV :=
  match P.underlying T, s with
  | some (.struct fs), .a l => match fs[f]? with
    | some fl => optR "field" [T, f] (partD P fl.type l fl.offset)
    | none => fail "field" [T, f]
  | _, _ => fail "field: kind" [T, f]
def zeroL (P : Program) (T : Nat) : Option (List DV) :=
  match P.info? T with
  | some i => match i.zero with
    | some z => some (z.cells.toList.map lift1)
    | none => none
  | none => none
def zeroD (P : Program) (T : Nat) : Option DV :=
  match P.info? T with
  | some i => match i.zero with
    | some z => some (lift z)
    | none => none
  | none => none
def fillD (place : Nat → Option (Nat × Nat)) (cells : List DV) : List (Nat × DV) → Option (List DV)
  | [] => some cells
  | (i, s) :: rest =>
    match place i, cellsD s with
    | some (off, size), some cs => cond (Nat.beq cs.length size && Nat.ble (off + size) cells.length)
        (fillD place (cells.take off ++ (cs ++ cells.drop (off + size))) rest) none
    | _, _ => none
def buildD (P : Program) (T : Nat) (ixs : List Nat) (vs : List DV) : R DV :=
  match zeroL P T, placesT P T, allInfo P T with
  | some z, some pl, true => match fillD pl z (ixs.zip vs) with
    | some cs => .ok (.a cs)
    | none => fail "build" [T]
  | _, _, _ => fail "build: type" [T]

def keyFs (ok : Nat → DV → Bool) (P : Program) (xs : List DV) : List Field → Bool
  | [] => true
  | f :: l => match partD P f.type xs f.offset with
    | some x => ok f.type x && keyFs ok P xs l
    | none => false
def keyOk (P : Program) : Nat → Nat → DV → Bool
  | 0, _, _ => false
  | d + 1, T, x => match P.underlying T, x with
    | some .bool, .c (.bool _) => true
    | some (.int _), .n _ _ => true
    | some .string, .s _ => true
    | some (.struct fs), .a xs => keyFs (keyOk P d) P xs fs.toList
    | _, _ => false
def restNe (Γ : Cx) (P : Program) (kt : Nat) (key : DV) : List (DV × DV) → Bool
  | [] => true
  | (k, _) :: l => (match eqV Γ P eqDepth kt key k with
    | some b => !b
    | none => false) && restNe Γ P kt key l
def findD (Γ : Cx) (P : Program) (kt : Nat) (key : DV) : List (DV × DV) → Nat → Option (Option (Nat × DV))
  | [], _ => some none
  | (k, v) :: l, i => match eqV Γ P eqDepth kt key k with
    | some true => cond (restNe Γ P kt key l) (some (some (i, v))) none
    | some false => findD Γ P kt key l (i + 1)
    | none => none
def mapAt (h : St) (n : Nat) : Option (List (DV × DV) × Nat) :=
  match h.get n with
  | some (.map es c) => some (es, c)
  | _ => none
def okD (ok : Bool) (s : DV) (b : Bool) : DV := cond ok (.t [s, .c (.bool b)]) s
def entriesOf (h : St) : DV → Option (List (DV × DV))
  | .c (.map none) => some []
  | .m n => match mapAt h n with
    | some (es, _) => some es
    | none => none
  | _ => none
def lookupD (Γ : Cx) (P : Program) (T : Nat) (ok : Bool) (x y : DV) (h : St) : R DV :=
  match P.underlying T, entriesOf h x with
  | some (.map kt vt), some es => cond (keyOk P eqDepth kt y) (match findD Γ P kt y es 0, zeroD P vt with
      | some none, some z => .ok (okD ok z false)
      | some (some (_, v)), _ => .ok (okD ok v true)
      | _, _ => fail "lookup" [T]) (fail "lookup: key" [T])
  | _, _ => fail "lookup: map" [T]

def lenD (Γ : Cx) (P : Program) (T : Option Nat) (x : DV) (h : St) : R DV :=
  match T with
  | none => fail "len" []
  | some t => match P.underlying t, x with
    | some .string, .s l => .ok (.n .i64 (szS Γ l))
    | some (.slice _), .c (.slice none 0 0) => .ok (.n .i64 (lit 0))
    | some (.slice _), .l _ _ _ len _ _ => .ok (.n .i64 len)
    | some (.array n _), _ => .ok (.n .i64 (lit n))
    | some (.map _ _), x => match entriesOf h x with
      | some es => .ok (.n .i64 (lit es.length))
      | none => fail "len of a map" [t]
    | _, _ => fail "len: kind" [t]
def csz (Γ : Cx) : List Cl → Lin
  | [] => lit 0
  | .v _ :: l => (csz Γ l).add (lit 1)
  | .b i :: l => (csz Γ l).add (Γ.bl.getD i (lit 0))
def capL (Γ : Cx) (h : St) : DV → Option Lin
  | .l n es o _ cp _ => match cp with
    | some c => some c
    | none => match rowAt h n with
      | some (_, cs, true) => cond (Nat.beq es 1) (some ((csz Γ cs).sub o)) (match natOf ((csz Γ cs).sub o) with
        | some k => cond (Nat.beq (k % es) 0) (some (lit (Int.ofNat (k / es)))) none
        | none => none)
      | _ => none
  | _ => none
def capD (Γ : Cx) (P : Program) (T : Option Nat) (x : DV) (h : St) : R DV :=
  match T with
  | none => fail "cap" []
  | some t => match P.underlying t with
    | some (.slice _) => match x with
      | .c (.slice none 0 0) => .ok (.n .i64 (lit 0))
      | x => match capL Γ h x with
        | some c => .ok (.n .i64 c)
        | none => fail "cap" [t]
    | _ => fail "cap" [t]
def minI (a b : Int) : Int := cond (intLe b a && !intB a b) b a
def maxI (a b : Int) : Int := cond (intLe a b && !intB a b) b a
def minmaxD (f : Int → Int → Int) : DV → List DV → R DV
  | x, [] => .ok x
  | .n k a, .n _ b :: l => cond (a.isLit && b.isLit) (minmaxD f (.n k (lit (f a.c b.c))) l) (fail "min, max" [])
  | _, _ => fail "min, max" []

def r1 (vs : List DV) (k : DV → R DV) : R DV := match vs with
  | [s] => k s
  | _ => fail "operands" []
def r2 (vs : List DV) (k : DV → DV → R DV) : R DV := match vs with
  | [s, t] => k s t
  | _ => fail "operands" []

def quietD (Γ : Cx) (P : Program) (op : Op) (vs : List DV) (h : St) : Option (R DV) :=
  match op with
  | .move _ => some (r1 vs fun s => .ok s)
  | .assign _ => some (r1 vs fun s => .ok s)
  | .fieldAddr S _ f => some (r1 vs fun s => match fldT P S f, s with
    | some k, .p n o => .ok (.p n (o.add (lit k)))
    | _, _ => fail "field's address" [S, f])
  | .load T _ => some (r1 vs fun s => loadD Γ P T s h)
  | .nilCheck _ => some (r1 vs fun s => match s with
    | .p n o => .ok (.p n o)
    | .f (.func g) a b => .ok (.f (.func g) a b)
    | _ => fail "nil" [])
  | .binOp op T _ _ _ => some (r2 vs fun s t => binD Γ P op T s t)
  | .unOp op _ _ => some (r1 vs fun s => unD Γ op s)
  | .convert src dst _ => match P.underlying dst with
    | some (.slice _) => none
    | _ => some (r1 vs fun s => convD Γ P src dst s h)
  | .extract _ i => some (r1 vs fun s => match s with
    | .t l => optR "extract" [i] l[i]?
    | _ => fail "extract" [i])
  | .field T _ f => some (r1 vs fun s => fieldD P T f s)
  | .indexAddr T _ _ => some (r2 vs fun s t => indexAddrD Γ P T s t)
  | .index T _ _ => some (r2 vs fun s t => indexD Γ P T s t)
  | .slice T _ lo hi mx => some (sliceOp Γ P T lo.isSome hi.isSome mx.isSome vs)
  | .makeFunc fn first _ => some (.ok (.f fn (vs.take first.toList.length) (vs.drop first.toList.length)))
  | .lookup T _ _ ok => some (r2 vs fun s t => lookupD Γ P T ok s t h)
  | .build T parts => some (buildD P T (parts.toList.map (·.1)) vs)
  | .makeInterface T _ => some (r1 vs fun s => match P.underlying T with
    | some (.interface _) => fail "interface" [T]
    | some _ => .ok (.i T s)
    | none => fail "interface" [T])
  | .typeAssert _ _ T ok => some (r1 vs fun s => match P.underlying T, s, ok with
    | some (.interface _), _, _ => fail "assertion" [T]
    | some _, .i t s', false => cond (Nat.beq t T) (.ok s') (fail "assertion" [T, t])
    | _, _, _ => fail "assertion" [T])
  | .call c => match c.callee with
    | .builtin .len => some (r1 vs fun s => lenD Γ P c.argTypes[0]? s h)
    | .builtin .cap => some (r1 vs fun s => capD Γ P c.argTypes[0]? s h)
    | .builtin .min => some (match vs with
      | x :: l => minmaxD minI x l
      | [] => fail "min" [])
    | .builtin .max => some (match vs with
      | x :: l => minmaxD maxI x l
      | [] => fail "max" [])
    | _ => none
  | _ => none
end
end Go.Q

namespace Go.Q
noncomputable section
open Go.RowKit
open Go.Z hiding cond_false get

abbrev RS := R (List (DV × St))
def one (d : DV) (s : St) : RS := .ok [(d, s)]
def noD : DV := .c undef
def newOb (s : St) (o : Ob) (k : Nat → DV) : RS := match s.new o with
  | .ok (n, s') => .ok [(k n, s')]
  | .error e => .error e
def setOb (s : St) (n : Nat) (o : Ob) (d : DV) : RS := match s.set n o with
  | .ok s' => .ok [(d, s')]
  | .error e => .error e

def allocD (P : Program) (T : Nat) (s : St) : RS := match zeroL P T with
  | some l => cond (allOne l) (newOb s (.cells T (rowOf l) true) fun n => .p n (lit 0)) (fail "alloc" [T])
  | none => fail "alloc" [T]
def boxD (T : Nat) (x : DV) (s : St) : RS := match cellsD x with
  | some l => newOb s (.cells T (rowOf l) true) fun n => .p n (lit 0)
  | none => fail "box" [T]
def dropV : Nat → List Cl → Option (List Cl)
  | 0, l => some l
  | _ + 1, [] => none
  | k + 1, c :: l => match c with
    | .v _ => dropV k l
    | .b _ => none
def storeD (Γ : Cx) (P : Program) (T : Nat) (x y : DV) (s : St) : RS :=
  match x with
  | .p n o => match rowAt s n, cellsD y, kindT P T with
    | some (T', cs, ex), some l, some (_, sz) => match split Γ cs o with
      | some (a, b) => match dropV sz b with
        | some c => cond (Nat.beq l.length sz) (setOb s n (.cells T' (a ++ (rowOf l ++ c)) ex) noD) (fail "store: size" [T, n])
        | none => fail "store: end" [T, n]
      | none => fail "store: place" [T, n]
    | _, _, _ => fail "store: nothing there" [T, n]
  | _ => fail "store: no pointer" [T]

def repL (l : List DV) : Nat → List DV
  | 0 => []
  | n + 1 => l ++ repL l n
def buildSliceD (P : Program) (T len : Nat) (ixs : List Nat) (vs : List DV) (s : St) : RS :=
  match P.underlying T with
  | some (.slice e) => match kindT P e, zeroL P e with
    | some (_, es), some z => cond (Nat.blt 0 es && (Nat.beq z.length es && Nat.ble (len * es) 16777216)) (match fillD (fun i => some (i * es, es)) (repL z len) (ixs.zip vs) with
      | some cs => cond (allOne cs) (newOb s (.cells e (rowOf cs) true) fun n => .l n es (lit 0) (lit len) none (lit 0)) (fail "literal" [T])
      | none => fail "literal" [T]) (fail "literal: size" [T])
    | _, _ => fail "literal" [T]
  | _ => fail "literal" [T]
def zsTab (x : Lin) : List (Lin × Nat × Nat) → Option (Nat × Nat)
  | [] => none
  | (y, c, i) :: l => cond (x.eqb y) (some (c, i)) (zsTab x l)
def isZero8 : List DV → Bool
  | [.n .u8 x] => x.isLit && intB x.c 0
  | _ => false
def zerosD (Γ : Cx) (z : List DV) (x : Lin) : Option (List Cl) :=
  match natOf x with
  | some k => cond (allOne z) (some (rowOf (repL z k))) none
  | none => cond (isZero8 z) (match zsTab x Γ.zs with
    | some (c, i) => some (rowOf (repL z c) ++ [.b i])
    | none => none) none
def bytesOf (P : Program) (e : Nat) : Option Nat := match P.info? e with
  | some i => some i.bytes
  | none => none
def makeSliceD (Γ : Cx) (P : Program) (T : Nat) (x y : DV) (s : St) : RS :=
  match P.underlying T, x, y with
  | some (.slice e), .n _ a, .n _ b => match kindT P e, zeroL P e, bytesOf P e with
    | some (_, es), some z, some bs => cond (Nat.blt 0 es && (Nat.beq z.length es && (Nat.blt 0 bs && (a.eqb b && (le0 Γ (lit 0) a && le0 Γ (a.mul bs) (lit 16777216))))))
      (match zerosD Γ z a with
      | some cs => newOb s (.cells e cs true) fun n => .l n es (lit 0) a none (lit 0)
      | none => .error (.op .add .i64 a (lit 0))) (fail "make" [T])
    | _, _, _ => fail "make" [T]
  | _, _, _ => fail "make" [T]
def newMap (s : St) : RS := match s.ver.2.new (.map [] s.nx) with
  | .ok (n, s') => .ok [(.m n, s')]
  | .error e => .error e
def makeMapD (P : Program) (T : Nat) (vs : List DV) (s : St) : RS :=
  match P.underlying T, vs with
  | some (.map _ _), [] => newMap s
  | some (.map _ _), [.n _ x] => cond (x.isLit && (intLe 0 x.c && intLe x.c 1000)) (newMap s) (fail "make a map" [T])
  | _, _ => fail "make a map" [T]
def convL (Γ : Cx) (P : Program) (src dst : Nat) (x : DV) (s : St) : RS :=
  match P.underlying src, P.underlying dst, x with
  | some .string, some (.slice e), .s l => cond (isU8 P e) (match ofSg Γ l with
    | some cs => newOb s (.cells e cs false) fun n => .l n 1 (lit 0) (szS Γ l) none (lit 0)
    | none => fail "bytes" [src, dst]) (fail "bytes" [src, dst])
  | some (.slice _), some (.slice e), .l n es o len cp q => cond (Nat.beq src dst && isU8 P e) (match rowAt s n with
    | some (T, cs, ex) => setOb s n (.cells T cs ex) (.l n es o len cp q)
    | none => fail "bytes" [src, dst]) (fail "bytes" [src, dst])
  | some (.slice _), some (.slice _), .c (.slice none 0 0) => fail "bytes of nil" [src, dst]
  | _, _, _ => fail "bytes: kind" [src, dst]

def setE (i : Nat) (v : DV) : List (DV × DV) → List (DV × DV)
  | [] => []
  | (k, w) :: l => match i with
    | 0 => (k, v) :: l
    | i + 1 => (k, w) :: setE i v l
def delE (i : Nat) : List (DV × DV) → List (DV × DV)
  | [] => []
  | (k, w) :: l => match i with
    | 0 => l
    | i + 1 => (k, w) :: delE i l
def all2 (f : DV → DV → Bool) : List DV → List DV → Bool
  | [], [] => true
  | x :: l, y :: m => f x y && all2 f l m
  | _, _ => false
def sameK : Nat → DV → DV → Bool
  | 0, _, _ => false
  | d + 1, x, y => match x, y with
    | .n k a, .n k' b => decide (k = k') && a.eqb b
    | .s a, .s b => sgB a b
    | .c (.bool a), .c (.bool b) => a == b
    | .a l, .a m => all2 (sameK d) l m
    | _, _ => false
def keyAtE (es : List (DV × DV)) (i : Nat) : Option DV := match es[i]? with
  | some (k, _) => some k
  | none => none
def setMap (s : St) (n : Nat) (es : List (DV × DV)) (d : DV) : RS := setOb s.ver.2 n (.map es s.nx) d
def mapUpdateD (Γ : Cx) (P : Program) (T : Nat) (x y z : DV) (s : St) : RS :=
  match P.underlying T, x with
  | some (.map kt _), .m n => match mapAt s n with
    | some (es, _) => cond (keyOk P eqDepth kt y) (match findD Γ P kt y es 0 with
      | some none => setMap s n (es ++ [(y, z)]) noD
      | some (some (i, _)) => match keyAtE es i with
        | some k => cond (sameK eqDepth k y) (setMap s n (setE i z es) noD) (fail "map: key" [n])
        | none => fail "map" [n]
      | none => fail "map: key" [n]) (fail "map: key" [n])
    | none => fail "map" [n]
  | _, _ => fail "map" [T]
def deleteD (Γ : Cx) (P : Program) (T : Nat) (x y : DV) (s : St) : RS :=
  match P.underlying T, x with
  | some (.map kt _), .m n => match mapAt s n with
    | some (es, _) => cond (keyOk P eqDepth kt y) (match findD Γ P kt y es 0 with
      | some none => one noD s
      | some (some (i, _)) => setMap s n (delE i es) noD
      | none => fail "delete: key" [n]) (fail "delete: key" [n])
    | none => fail "delete" [n]
  | _, _ => fail "delete" [T]
def mapEntryD (Γ : Cx) (P : Program) (T : Nat) (x y : DV) (s : St) : RS :=
  match P.underlying T, x with
  | some (.map kt vt), .m n => match mapAt s n with
    | some (es, ver) => cond (keyOk P eqDepth kt y) (match findD Γ P kt y es 0 with
      | some none => match zeroD P vt with
        | some z => setMap s n (es ++ [(y, z)]) (.t [z, .e s.nx es.length])
        | none => fail "map: zero" [n]
      | some (some (i, v)) => match keyAtE es i with
        | some k => cond (sameK eqDepth k y) (one (.t [v, .e ver i]) s) (fail "map: key" [n])
        | none => fail "map" [n]
      | none => fail "map: key" [n]) (fail "map: key" [n])
    | none => fail "map" [n]
  | _, _ => fail "map" [T]
def entryStoreD (x y z : DV) (s : St) : RS :=
  match x, y with
  | .m n, .e v i => match mapAt s n with
    | some (es, ver) => cond (Nat.beq v ver && Nat.blt i es.length) (setMap s n (setE i z es) noD) (fail "entry" [n])
    | none => fail "entry" [n]
  | _, _ => fail "entry" []
def rangeD (P : Program) (T : Nat) (x : DV) (s : St) : RS :=
  match P.underlying T, x with
  | some (.map _ _), .c (.map none) => newOb s (.it none [] none) fun n => .p n (lit 0)
  | some (.map _ _), .m m => match mapAt s m with
    | some (_, ver) => newOb s (.it (some (m, ver)) [] none) fun n => .p n (lit 0)
    | none => fail "range" [m]
  | _, _ => fail "range" [T]
def allN (p : Nat → Bool) : List Nat → Bool
  | [] => true
  | i :: l => p i && allN p l
def memN (b : Nat) : List Nat → Bool
  | [] => false
  | c :: l => Nat.beq c b || memN b l
def insN (b : Nat) : List Nat → List Nat
  | [] => [b]
  | c :: l => cond (Nat.ble b c) (b :: c :: l) (c :: insN b l)
def itAt (h : St) (n : Nat) : Option (Option (Nat × Nat) × List Nat × Option Nat) :=
  match h.get n with
  | some (.it m seen last) => some (m, seen, last)
  | _ => none
def nextsD (n : Nat) (m : Nat × Nat) (seen : List Nat) (s : St) : List (DV × DV) → Nat → RS
  | [], _ => .ok []
  | (k, v) :: l, i => match nextsD n m seen s l (i + 1) with
    | .ok r => cond (memN i seen) (.ok r) (match s.set n (.it (some m) (insN i seen) (some i)) with
      | .ok s' => .ok ((.t [.c (.bool true), k, v], s') :: r)
      | .error e => .error e)
    | .error e => .error e
def nextD (x : DV) (s : St) : RS :=
  match x with
  | .p n o => cond (o.eqb (lit 0)) (match itAt s n with
    | some (none, _, _) => one (.t [.c (.bool false)]) s
    | some (some (m, ver), seen, _) => match mapAt s m with
      | some (es, ver') => cond (Nat.beq ver ver' && allN (fun i => Nat.blt i es.length) seen) (match nextsD n (m, ver) seen s es 0 with
        | .ok [] => one (.t [.c (.bool false)]) s
        | r => r) (fail "next: the map has turned" [n])
      | none => fail "next" [n]
    | none => fail "next" [n]) (fail "next" [n])
  | _ => fail "next" []

def entryD (x : DV) (s : St) : RS :=
  match x with
  | .p n o => cond (o.eqb (lit 0)) (match itAt s n with
    | some (some (m, ver), seen, some i) => match mapAt s m with
      | some (es, ver') => cond (Nat.beq ver ver') (match es[i]? with
        | some (k, v) => setOb s n (.it (some (m, ver)) seen none) (.t [k, v])
        | none => fail "entry" [n]) (fail "entry: the map has turned" [n])
      | none => fail "entry" [n]
    | _ => fail "entry" [n]) (fail "entry" [n])
  | _ => fail "entry" []

def bytesBound : Int := 140737488355328
def newsD (Γ : Cx) (P : Program) (_e es : Nat) (z : List DV) (xT : Nat) (x : DV) (h : St) : Option (List Cl × Lin) :=
  match P.underlying xT, x with
  | some (.slice _), .c (.slice none 0 0) => some ([], lit 0)
  | some (.slice _), .l n es' o len _ _ => cond (Nat.beq es es') (cond (len.eqb (lit 0)) (some ([], lit 0)) (match midD Γ h n es o len with
    | some m => some (m, len)
    | none => none)) none
  | some .string, .s l => cond (Nat.beq es 1) (match ofSg Γ l with
    | some m => some (m, szS Γ l)
    | none => none) none
  | some (.int _), .n _ a => cond (le0 Γ (lit 0) a && le0 Γ (a.mul 64) (lit 16777216)) (match zerosD Γ z a with
    | some cs => some (cs, a)
    | none => none) none
  | _, _ => none
def appendD (Γ : Cx) (P : Program) (sT xT : Nat) (x y : DV) (s : St) : RS :=
  match P.underlying sT with
  | some (.slice e) => match kindT P e, zeroL P e, bytesOf P e with
    | some (_, es), some z, some bs => match newsD Γ P e es z xT y s with
      | some (news, m) => cond (Nat.blt 0 es && (Nat.beq z.length es && (Nat.blt 0 bs && Nat.ble bs 1000)))
        (match x with
        | .c (.slice none 0 0) => cond (m.eqb (lit 0)) (one x s) (cond (le0 Γ (lit 1) m && le0 Γ (m.mul bs) (lit bytesBound))
            (newOb s (.cells e news false) fun n => .l n es (lit 0) m none (lit 0)) (fail "append: how many" [sT]))
        | .l n es' o len cp q => cond (Nat.beq es es') (match rowAt s n with
          | none => fail "append: nothing there" [n]
          | some (T', cs, ex) =>
            match split Γ cs o with
            | none => fail "append: place" [n]
            | some (a, b) => match split Γ b (len.mul es) with
              | none => fail "append: end" [n]
              | some (mid, rest) =>
                let need := len.add m
                -- is there room for sure, as far as the row is known?
                cond (m.eqb (lit 0)) (one x s)
                (match capL Γ s x with
                | some C => match leD Γ need C with
                  | some true => (match split Γ rest (m.mul es) with
                    | some (_, c) => setOb s n (.cells T' (a ++ (mid ++ (news ++ c))) ex) (.l n es o need cp q)
                    | none => fail "append: row" [n])
                  | some false => cond (le0 Γ (need.mul bs) (lit bytesBound)) (newOb s (.cells e (mid ++ news) false) fun k => .l k es (lit 0) need none (lit 0)) (fail "append: too much" [n])
                  | none => fail "append: room?" [n]
                | none => match split Γ rest (m.mul es) with
                  | some (_, c) => setOb s n (.cells T' (a ++ (mid ++ (news ++ c))) ex) (.l n es o need cp q)
                  | none => cond (o.eqb (lit 0) && (rest.isEmpty && le0 Γ (need.mul bs) (lit bytesBound) && Nat.beq T' e && (cp.isNone && le0 Γ (lit 1) need)))
                    (match s.new (.cells e (mid ++ news) false) with
                    | .ok (k, s') => match s'.drop n with
                      | .ok s'' => one (.l k es (lit 0) need none (lit 0)) s''
                      | .error e => .error e
                    | .error e => .error e) (fail "append: room" [n])))
            (fail "append: size" [n])
        | _ => fail "append: what" [sT]) (fail "append: size" [sT])
      | none => fail "append: which" [sT, xT]
    | _, _, _ => fail "append: type" [sT]
  | _ => fail "append: type" [sT]
def copyD (Γ : Cx) (P : Program) (dT sT : Nat) (x y : DV) (s : St) : RS :=
  match P.underlying dT with
  | some (.slice e) => match kindT P e, zeroL P e, bytesOf P e with
    | some (_, es), some z, some bs => cond (Nat.beq z.length es && Nat.ble bs 1000) (match newsD Γ P e es z sT y s, x, P.underlying sT with
      | _, _, some (.int _) => fail "copy" [dT]
      | some _, .c (.slice none 0 0), _ => one (.n .i64 (lit 0)) s
      | some (news, m), .l n es' o len _ _, _ => cond (Nat.beq es es') (match rowAt s n with
        | none => fail "copy" [n]
        | some (T', cs, ex) => match split Γ cs o with
          | none => fail "copy" [n]
          | some (a, b) => match leD Γ m len with
            | none => fail "copy: how many" [n]
            | some t => match split Γ b ((cond t m len).mul es), split Γ news ((cond t m len).mul es) with
              | some (_, c), some (nw, _) => setOb s n (.cells T' (a ++ (nw ++ c)) ex) (.n .i64 (cond t m len))
              | _, _ => fail "copy: row" [n]) (fail "copy: size" [n])
      | _, _, _ => fail "copy" [dT]) (fail "copy" [dT])
    | _, _, _ => fail "copy" [dT]
  | _ => fail "copy" [dT]
def clearD (Γ : Cx) (P : Program) (T : Nat) (x : DV) (s : St) : RS :=
  match P.underlying T, x with
  | some (.slice _), .c (.slice none 0 0) => one noD s
  | some (.slice e), .l n es o len _ _ => match kindT P e, zeroL P e, rowAt s n, natOf len with
    | some (_, es'), some z, some (T', cs, ex), some k => cond (Nat.beq es es' && (Nat.beq z.length es && allOne z)) (match split Γ cs o with
      | some (a, b) => match dropV (k * es) b with
        | some c => setOb s n (.cells T' (a ++ (rowOf (repL z k) ++ c)) ex) noD
        | none => fail "clear" [n]
      | none => fail "clear" [n]) (fail "clear" [n])
    | _, _, _, _ => fail "clear" [n]
  | _, _ => fail "clear" [T]

def l1 (vs : List DV) (k : DV → RS) : RS := match vs with
  | [s] => k s
  | _ => fail "operands" []
def l2 (vs : List DV) (k : DV → DV → RS) : RS := match vs with
  | [s, t] => k s t
  | _ => fail "operands" []
def l3 (vs : List DV) (k : DV → DV → DV → RS) : RS := match vs with
  | [s, t, u] => k s t u
  | _ => fail "operands" []
abbrev CallF := Nat → List DV → St → RS
def loudD (Γ : Cx) (P : Program) (call : CallF) (op : Op) (vs : List DV) (s : St) : RS :=
  match op with
  | .alloc T => allocD P T s
  | .box T _ => l1 vs fun x => boxD T x s
  | .store T _ _ => l2 vs fun x y => storeD Γ P T x y s
  | .buildSlice T len parts => buildSliceD P T len (parts.toList.map (·.1)) vs s
  | .makeSlice T _ _ => l2 vs fun x y => makeSliceD Γ P T x y s
  | .makeMap T _ => makeMapD P T vs s
  | .convert src dst _ => l1 vs fun x => convL Γ P src dst x s
  | .mapUpdate T _ _ _ => l3 vs fun x y z => mapUpdateD Γ P T x y z s
  | .insert T _ _ _ => l3 vs fun x y z => mapUpdateD Γ P T x y z s
  | .mapEntry T _ _ => l2 vs fun x y => mapEntryD Γ P T x y s
  | .entryStore _ _ _ _ => l3 vs fun x y z => entryStoreD x y z s
  | .range T _ => l1 vs fun x => rangeD P T x s
  | .entry _ => l1 vs fun x => entryD x s
  | .next _ str => cond str (fail "next of a string" []) (l1 vs fun x => nextD x s)
  | .call c => match c.callee with
    | .builtin .append => l2 vs fun x y => match c.argTypes.toList with
      | [sT, xT] => appendD Γ P sT xT x y s
      | _ => fail "append" []
    | .builtin .copy => l2 vs fun x y => match c.argTypes.toList with
      | [sT, xT] => copyD Γ P sT xT x y s
      | _ => fail "copy" []
    | .builtin .delete => l2 vs fun x y => match c.argTypes.toList with
      | T :: _ => deleteD Γ P T x y s
      | _ => fail "delete" []
    | .builtin .clear => l1 vs fun x => match c.argTypes.toList with
      | T :: _ => clearD Γ P T x s
      | _ => fail "clear" []
    | .value _ => match vs with
      | .f (.func f) first caps :: args => call f (first ++ (args ++ caps)) s
      | _ => fail "call" []
    | .invoke _ m => match vs with
      | .i T x :: args => match methF P T m with
        | some f => call f (x :: args) s
        | none => fail "method" [T]
      | _ => fail "method" []
    | .builtin _ => fail "builtin" []
  | _ => fail "operation" []

def guardD (ops : Array Oper) (env : Nat → Option DV) : Option (Nat × Bool) → Option Bool
  | none => some true
  | some (j, want) => match ops.toList[j]? with
    | some oj => match oj.dst with
      | some d => match env d with
        | some (.c (.bool t)) => some (t == want)
        | some (.c (.tuple _)) => some false
        | _ => none
      | none => none
    | none => none
def putE (N : Nat) (dst : Option Nat) (d : DV) (env : E) : R E := match dst with
  | none => .ok env
  | some t => cond (Nat.blt t N) (.ok ((t, d) :: env)) (.error (.msg "slot" [t]))
def tagE {α : Type} (l : List Nat) : R α → R α
  | .ok a => .ok a
  | .error e => .error (.at l e)
abbrev ES := E × St
def pickD (env : Nat → Option DV) (c a b : Operand) : R DV := match getF env c with
  | some (.c (.bool t)) => match getF env (cond t a b) with
    | some d => .ok d
    | none => fail "pick" []
  | _ => fail "pick" []
def stepD (Γ : Cx) (P : Program) (call : CallF) (op : Op) (env : Nat → Option DV) (s : St) : RS :=
  match op with
  | .pick c a b => match pickD env c a b with
    | .ok d => one d s
    | .error e => .error e
  | op => match resF env op.operands.toList with
    | .ok vs => match quietD Γ P op vs s with
      | some (.ok d) => one d s
      | some (.error e) => .error e
      | none => loudD Γ P call op vs s
    | .error e => .error e
def bindAll {α β : Type} (f : α → R (List β)) : List α → R (List β)
  | [] => .ok []
  | a :: l => match f a, bindAll f l with
    | .ok x, .ok y => .ok (x ++ y)
    | .error e, _ => .error e
    | _, .error e => .error e
def opsD (Γ : Cx) (P : Program) (call : CallF) (N id : Nat) (ops : Array Oper) : List Oper → Nat → E → St → R (List ES)
  | [], _, env, s => .ok [(env, s)]
  | o :: rest, i, env, s => match guardD ops (E.get env) o.guard with
    | some true => match tagE [id, i] (stepD Γ P call o.op (E.get env) s) with
      | .ok [(d, s')] => match putE N o.dst d env with
        | .ok env' => opsD Γ P call N id ops rest (i + 1) env' s'
        | .error e => .error e
      | .ok l => bindAll (fun x => match putE N o.dst x.1 env with
        | .ok env' => opsD Γ P call N id ops rest (i + 1) env' x.2
        | .error e => .error e) l
      | .error e => .error e
    | some false => match putE N o.dst noD env with
      | .ok env' => opsD Γ P call N id ops rest (i + 1) env' s
      | .error e => .error e
    | none => .error (.at [id, i] (.msg "guard" []))

structure Rc where
  d : DV
  kind : Nat
  lo : Nat
  hi : Nat
  news : List (Nat × Ob)
  h : Tr (Option Ob)
  deriving Inhabited
def isSlice (P : Program) (T : Nat) : Bool := match P.underlying T with
  | some (.slice _) => true
  | none => true
  | _ => false
def memOp (P : Program) : Op → Bool
  | .move _ => false
  | .convert src dst _ => isSlice P src || isSlice P dst
  | .assign _ => false
  | .pick .. => false
  | .fieldAddr .. => false
  | .nilCheck _ => false
  | .binOp .. => false
  | .unOp .. => false
  | .extract .. => false
  | .field .. => false
  | .indexAddr .. => false
  | .index .. => false
  | .slice .. => false
  | .makeFunc .. => false
  | .build .. => false
  | .makeInterface .. => false
  | .typeAssert .. => false
  | .call c => match c.callee with
    | .builtin .min => false
    | .builtin .max => false
    | _ => true
  | _ => true
def allocOp (P : Program) : Op → Bool
  | .alloc _ => true
  | .box _ _ => true
  | .buildSlice _ _ _ => true
  | .makeMap _ _ => true
  | .makeSlice _ _ _ => true
  | .convert src _ _ => !isSlice P src
  | _ => false
def writers : List Oper → Nat → Nat → List Nat
  | [], _, _ => []
  | o :: l, i, t => match o.dst with
    | some d => cond (Nat.beq d t) (i :: writers l (i + 1) t) (writers l (i + 1) t)
    | none => writers l (i + 1) t
def lastN : Nat → List Nat → Nat
  | i, [] => i
  | _, j :: l => lastN j l
def chainN (an : Nat → Nat → Bool) : List Nat → Bool
  | [] => true
  | i :: l => allN (fun j => an j i) l && chainN an l
def seenD (ops : Array Oper) (an : Nat → Nat → Bool) (recs : Tr Rc) (env : E) (k t : Nat) : Option DV :=
  match writers ops.toList 0 t with
  | [] => E.get env t
  | i :: l => cond (allN (an k) (i :: l)) (match recs.get (lastN i l) with
      | some r => some r.d
      | none => none)
    (cond (allN (fun j => an j k) (i :: l)) (E.get env t) none)
def putNews : List (Nat × Ob) → Tr (Option Ob) → Option (Tr (Option Ob))
  | [], h => some h
  | (n, o) :: l, h => match Tr.put 64 h n (some o) with
    | some h' => putNews l h'
    | none => none
def newsOf (s : St) (n : Nat) : Nat → List (Nat × Ob)
  | 0 => []
  | k + 1 => match s.get n with
    | some o => (n, o) :: newsOf s (n + 1) k
    | none => newsOf s (n + 1) k
def heapFor (an : Nat → Nat → Bool) (k : Nat) : List (Nat × List (Nat × Ob)) → Tr (Option Ob) → Option (Tr (Option Ob))
  | [], h => some h
  | (i, news) :: l, h => match heapFor an k l h with
    | some h' => cond (an k i) (putNews news h') (some h')
    | none => none
structure Ly where
  base : Tr (Option Ob)
  fls : List (Nat × List (Nat × Ob))
  b : Nat
  deriving Inhabited
structure Dg where
  recs : Tr Rc
  base : Tr (Option Ob)
  fls : List (Nat × List (Nat × Ob))
  last : Option Nat
  nx : Nat
  old : List Ly
  rd : List (Nat × Op × List DV × DV)
  deriving Inhabited
def addRc (k : Nat) (r : Rc) (g : Dg) : R Dg := match Tr.put 64 g.recs k r with
  | some t => .ok { g with recs := t }
  | none => fail "region" [k]
def oneR (l : List Nat) : RS → R (DV × St)
  | .ok [x] => .ok x
  | .ok _ => .error (.at l (.msg "region: ways" []))
  | .error e => .error (.at l e)
def readsAs (Γ : Cx) (P : Program) (op : Op) (vs : List DV) (d : DV) (s : St) : Bool := match quietD Γ P op vs s with
  | some (.ok d') => d.eqb d'
  | _ => false
mutual
def belowD (nx : Nat) : DV → Bool
  | .p n _ => Nat.blt n nx
  | .l n _ _ _ _ _ => Nat.blt n nx
  | .m n => Nat.blt n nx
  | .f _ a b => belowL nx a && belowL nx b
  | .i _ d => belowD nx d
  | .a l => belowL nx l
  | .t l => belowL nx l
  | .e v _ => Nat.blt v nx
  | _ => true
def belowL (nx : Nat) : List DV → Bool
  | [] => true
  | d :: l => belowD nx d && belowL nx l
end
def readsIn (Γ : Cx) (P : Program) (an : Nat → Nat → Bool) (k : Nat) (op : Op) (vs : List DV) (d : DV) (s : St) (fls : List (Nat × List (Nat × Ob))) (base : Tr (Option Ob)) : Bool := match heapFor an k fls base with
  | some h => readsAs Γ P op vs d { s with h := h }
  | none => false
def keepRd (Γ : Cx) (P : Program) (an : Nat → Nat → Bool) (k : Nat) (s : St) (fls : List (Nat × List (Nat × Ob))) (base : Tr (Option Ob)) : List (Nat × Op × List DV × DV) → Bool
  | [] => true
  | (i, op, vs, d) :: l => (an k i || readsIn Γ P an i op vs d s fls base) && keepRd Γ P an k s fls base l
def keepOld (Γ : Cx) (P : Program) (an : Nat → Nat → Bool) (k : Nat) (op : Op) (vs : List DV) (d : DV) (s : St) : List Ly → Bool
  | [] => true
  | y :: l => an k y.b || (readsIn Γ P an k op vs d s y.fls y.base && keepOld Γ P an k op vs d s l)
def restF (an : Nat → Nat → Bool) (k : Nat) : List (Nat × List (Nat × Ob)) → List (Nat × List (Nat × Ob))
  | [] => []
  | (i, news) :: l => cond (an k i) (restF an k l) ((i, news) :: restF an k l)
def allPut : List (Nat × List (Nat × Ob)) → Tr (Option Ob) → Option (Tr (Option Ob))
  | [], h => some h
  | (_, news) :: l, h => match allPut l h with
    | some h' => putNews news h'
    | none => none
def lastOk (an : Nat → Nat → Bool) (k : Nat) : Option Nat → Bool
  | none => true
  | some b => an k b
def readQ (Γ : Cx) (P : Program) (op : Op) (see : Nat → Option DV) (s : St) : Option (List DV × R DV) := match resF see op.operands.toList with
  | .ok vs => match quietD Γ P op vs s with
    | some r => some (vs, r)
    | none => none
  | .error _ => none
def pureQ (Γ : Cx) (P : Program) (op : Op) (see : Nat → Option DV) (s : St) : R DV := match op with
  | .pick c a b => pickD see c a b
  | op => match readQ Γ P op see s with
    | some (_, r) => r
    | none => fail "no value" []
def emptyS (n : Nat) : St := { b := .nil, h := .nil, nx := n, fl := n }
def dag1 (Γ : Cx) (P : Program) (call : CallF) (id : Nat) (ops : Array Oper) (an : Nat → Nat → Bool) (env : E) (s : St) (o : Oper) (k : Nat) (g : Dg) : R Dg :=
  match guardD ops (seenD ops an g.recs env k) o.guard with
  | none => .error (.at [id, k] (.msg "guard" []))
  | some false => addRc k ⟨noD, 0, g.nx, g.nx, [], .nil⟩ g
  | some true => cond (memOp P o.op)
    (cond (allocOp P o.op)
      (match oneR [id, k, 2] (stepD Γ P call o.op (seenD ops an g.recs env k) (emptyS g.nx)) with
        | .ok (d, s1) => cond (Nat.ble g.nx s1.nx) (addRc k ⟨d, 5, g.nx, s1.nx, newsOf s1 g.nx (s1.nx - g.nx), .nil⟩ { g with fls := (k, newsOf s1 g.nx (s1.nx - g.nx)) :: g.fls, nx := s1.nx }) (fail "region" [id, k])
        | .error e => .error e)
      (match heapFor an k g.fls g.base with
        | none => fail "region" [id, k]
        | some h => match readQ Γ P o.op (seenD ops an g.recs env k) { s with h := h } with
          | some (vs, .ok d) => cond (belowD g.nx d && keepOld Γ P an k o.op vs d s g.old)
            (addRc k ⟨d, 0, g.nx, g.nx, [], .nil⟩ { g with rd := (k, o.op, vs, d) :: g.rd })
            (fail "region: read otherwise ahead" [id, k])
          | some (_, .error e) => .error (.at [id, k] e)
          | none => cond (lastOk an k g.last)
            (match oneR [id, k] (stepD Γ P call o.op (seenD ops an g.recs env k) { s with h := h, nx := g.nx }) with
              | .ok (d, s1) => cond (Nat.ble g.nx s1.nx && keepRd Γ P an k s (restF an k g.fls) s1.h g.rd)
                (addRc k ⟨d, 2, g.nx, s1.nx, [], s1.h⟩ { g with base := s1.h, fls := restF an k g.fls, last := some k, nx := s1.nx, old := ⟨g.base, g.fls, k⟩ :: g.old })
                (fail "region: read otherwise behind" [id, k])
              | .error e => .error e)
            (fail "region: not in order" [id, k])))
    (match pureQ Γ P o.op (seenD ops an g.recs env k) (emptyS g.nx) with
      | .ok d => addRc k ⟨d, 0, g.nx, g.nx, [], .nil⟩ g
      | .error e => .error (.at [id, k] e))
def dagD (Γ : Cx) (P : Program) (call : CallF) (id : Nat) (ops : Array Oper) (an : Nat → Nat → Bool) (env : E) (s : St) : List Oper → Nat → Dg → R Dg
  | [], _, g => .ok g
  | o :: rest, k, g => match dag1 Γ P call id ops an env s o k g with
    | .ok g' => dagD Γ P call id ops an env s rest (k + 1) g'
    | .error e => .error e
def outE (N : Nat) (recs : Tr Rc) : List Oper → Nat → E → R E
  | [], _, env => .ok env
  | o :: l, k, env => match recs.get k with
    | some r => match putE N o.dst r.d env with
      | .ok env' => outE N recs l (k + 1) env'
      | .error e => .error e
    | none => fail "region: out" [k]
def chainsOk (ops : Array Oper) (an : Nat → Nat → Bool) : List Oper → Bool
  | [] => true
  | o :: l => (match o.dst with
    | some t => chainN an (writers ops.toList 0 t)
    | none => true) && chainsOk ops an l
def topoOk (ops : Array Oper) : List Oper → Nat → Bool
  | [], _ => true
  | _ :: l, j => allN (fun x => Nat.blt x j) (predsO ops j) && topoOk ops l (j + 1)
def drawD (Γ : Cx) (P : Program) (call : CallF) (N id : Nat) (ops : Array Oper) (env : E) (s : St) : R (List ES) :=
  let an := anc ops ops.size
  cond (topoOk ops ops.toList 0 && chainsOk ops an ops.toList)
    (match dagD Γ P call id ops an env s ops.toList 0 ⟨.nil, s.h, [], none, s.nx, [], []⟩ with
    | .ok g => match outE N g.recs ops.toList 0 env with
      | .ok env' => match allPut g.fls g.base with
        | some h => .ok [(env', { s with h := h, nx := g.nx })]
        | none => fail "region" [id]
      | .error e => .error e
    | .error e => .error e) (fail "region: slots" [id])

inductive Xt where
  | normal
  | exit (id : Nat)
  | ret
  deriving Inhabited
def optB {α : Type} (f : α → α → Bool) : Option α → Option α → Bool
  | none, none => true
  | some x, some y => f x y
  | _, _ => false
def eqbT {α : Type} (f : α → α → Bool) (a b : Tr α) : Bool := N8.eqb (N8.eqb (N8.eqb (N8.eqb (N8.eqb (optB f))))) a.t b.t
def eqbC : List Cl → List Cl → Bool
  | [], [] => true
  | .v x :: l, .v y :: m => x.eqb y && eqbC l m
  | .b i :: l, .b j :: m => Nat.beq i j && eqbC l m
  | _, _ => false
def eqbM : List (DV × DV) → List (DV × DV) → Bool
  | [], [] => true
  | (k, v) :: l, (k', v') :: m => k.eqb k' && (v.eqb v' && eqbM l m)
  | _, _ => false
def eqbN : List Nat → List Nat → Bool
  | [], [] => true
  | a :: l, b :: m => Nat.beq a b && eqbN l m
  | _, _ => false
def natO : Option (Nat × Nat) → Option (Nat × Nat) → Bool
  | none, none => true
  | some x, some y => Nat.beq x.1 y.1 && Nat.beq x.2 y.2
  | _, _ => false
def Ob.eqb : Ob → Ob → Bool
  | .cells T cs ex, .cells T' cs' ex' => Nat.beq T T' && (ex == ex' && eqbC cs cs')
  | .map es c, .map es' c' => Nat.beq c c' && eqbM es es'
  | .it m n none, .it m' n' none => natO m m' && eqbN n n'
  | _, _ => false
def eqbO : Option Ob → Option Ob → Bool
  | none, none => true
  | some x, some y => x.eqb y
  | _, _ => false
def St.eqb (s s' : St) : Bool := Nat.beq s.nx s'.nx && eqbT eqbO s.h s'.h
def eqbE : E → E → Bool
  | [], [] => true
  | (t, d) :: l, (t', d') :: m => Nat.beq t t' && (d.eqb d' && eqbE l m)
  | _, _ => false
def ES.eqb (a b : ES) : Bool := eqbE a.1 b.1 && a.2.eqb b.2
def hasES (x : ES) : List ES → Bool
  | [] => false
  | y :: l => x.eqb y || hasES x l
def uniq : List ES → List ES
  | [] => []
  | [x] => [x]
  | x :: l => cond (hasES x l) (uniq l) (x :: uniq l)
def hasNext : List Oper → Bool
  | [] => false
  | o :: l => match o.op with
    | .next _ _ => true
    | _ => hasNext l
def walks : Code → Bool
  | .region _ ops _ => hasNext ops.toList
  | .seq a b => walks a || walks b
  | .cond _ a b => walks a || walks b
  | .block _ c => walks c
  | _ => false
def lay (h : Tr (Option Ob)) (b : Tr Ob) : Tr Ob := ⟨layZ (fun o o' => match o with | some x => x | none => o') h.t b.t⟩
def layO (h h0 : Tr (Option Ob)) : Tr (Option Ob) := ⟨layZ (fun o o' => match o with | some x => some x | none => o') h.t h0.t⟩
def rebase (s : St) : St := { s with b := lay s.h s.b, h := .nil }
def drops : List (Nat × List Nat) → Option Nat → List Nat
  | (r, l) :: m, some i => cond (Nat.beq r i) l (drops m (some i))
  | _, _ => []
structure Fd where
  code : Code
  N : Nat
  rv : List ResultVar
  dr : List (Nat × List Nat)
  ks : List Nat
def resD (P : Program) (env : E) (h : St) : List ResultVar → R (List DV)
  | [] => .ok []
  | .tmp t :: l => match E.get env t with
    | some d => match resD P env h l with
      | .ok m => .ok (d :: m)
      | .error e => .error e
    | none => fail "result" [t]
  | .cell t T :: l => match E.get env t with
    | some (.p n o) => cond (o.eqb (lit 0)) (match rowAt h n with
      | some (_, cs, _) => match ldRow P T cs with
        | some d => match resD P env h l with
          | .ok m => .ok (d :: m)
          | .error e => .error e
        | none => fail "result" [t]
      | none => fail "result" [t]) (fail "result" [t])
    | _ => fail "result" [t]
def retD : List DV → DV
  | [d] => d
  | l => .t l
def hasV (x : DV × St) : List (DV × St) → Bool
  | [] => false
  | y :: l => (x.1.eqb y.1 && x.2.eqb y.2) || hasV x l
def uniqV : List (DV × St) → List (DV × St)
  | [] => []
  | [x] => [x]
  | x :: l => cond (hasV x l) (uniqV l) (x :: uniqV l)
def rvSlots : List ResultVar → List Nat
  | [] => []
  | .tmp t :: l => t :: rvSlots l
  | .cell t _ :: l => t :: rvSlots l
end
end Go.Q

namespace Go.Q
noncomputable section
open Go.RowKit
open Go.Z hiding cond_false get

theorem cond_ok {α : Type} {c : Bool} {a : R α} {e : Er} {r : α} (h : cond c a (.error e) = .ok r) : c = true ∧ a = .ok r := by
  cases c
  · cases h
  · exact ⟨rfl, h⟩
theorem cond_fail {α : Type} {c : Bool} {a : R α} {m : String} {l : List Nat} {r : α} (h : cond c a (fail m l) = .ok r) : c = true ∧ a = .ok r := cond_ok h
theorem optR_ok {α : Type} {m : String} {l : List Nat} {o : Option α} {r : α} (h : optR m l o = .ok r) : o = some r := by
  cases o with
  | none => cases h
  | some a => cases h; rfl
theorem condO {α : Type} {c : Bool} {a : Option α} {r : α} (h : cond c a none = some r) : c = true ∧ a = some r := by
  cases c
  · cases h
  · exact ⟨rfl, h⟩
theorem fail_ok {α : Type} {m : String} {l : List Nat} {r : α} (h : (fail m l : R α) = .ok r) : False := by cases h
section
variable {ρ : Rh} {θ : Tz}

theorem W_c (v : Value) : W ρ θ (.c v) v := by simp only [W]
theorem W_int (k : IntKind) (n : Int) : W ρ θ (.n k (lit n)) (.int k n) := by simp only [W, ev_lit]
theorem sgs_lift (l : List UInt8) : sgs ρ (l.map fun b => .y (lit (Int.ofNat b.toNat))) = l := by
  induction l with
  | nil => rfl
  | cons b l ih =>
    simp only [List.map_cons, sgs, Sg.bytes, ev_lit, ih]
    simp
theorem W_lift1 (v : Value) : W ρ θ (lift1 v) v := by
  unfold lift1
  split
  · exact W_int _ _
  · rename_i s
    simp only [W, strOf, sgs_lift]
  · exact W_c _
theorem WL_lift1 : ∀ l : List Value, WL ρ θ (l.map lift1) l
  | [] => by simp only [List.map_nil, WL]
  | v :: l => by simp only [List.map_cons, WL]; exact ⟨W_lift1 v, WL_lift1 l⟩
theorem W_lift (v : Value) : W ρ θ (lift v) v := by
  unfold lift
  split
  · rename_i cs
    simp only [W]
    exact ⟨cs.toList, by simp, WL_lift1 _⟩
  · exact W_lift1 v

def EnvOk (ρ : Rh) (θ : Tz) (env : Nat → Option DV) (a : Act) : Prop := ∀ t d, env t = some d → ∃ v, a.tmps[t]? = some v ∧ W ρ θ d v
theorem EnvOk.mono {θ' : Tz} {env : Nat → Option DV} {a : Act} (h : EnvOk ρ θ env a) (hx : θ.ext θ') : EnvOk ρ θ' env a := fun t d hd =>
  let ⟨v, h1, h2⟩ := h t d hd
  ⟨v, h1, W_mono hx _ _ h2⟩
theorem getF_sound {env : Nat → Option DV} {a : Act} (h : EnvOk ρ θ env a) {x : Operand} {d : DV} (hd : getF env x = some d) : W ρ θ d (a.eval x) := by
  cases x with
  | tmp t =>
    obtain ⟨v, h1, h2⟩ := h t d hd
    have : a.eval (.tmp t) = v := by simp only [Act.eval, Array.getD_eq_getD_getElem?, h1]; rfl
    rw [this]; exact h2
  | const v => cases hd; exact W_lift v
  | func f => cases hd; simp only [W]; exact ⟨[], [], rfl, WL_nil, WL_nil⟩
  | global n => cases hd; simp only [W]; rfl
theorem resF_sound {env : Nat → Option DV} {a : Act} (h : EnvOk ρ θ env a) : ∀ {xs : List Operand} {ds : List DV}, resF env xs = .ok ds → WL ρ θ ds (xs.map a.eval)
  | [], ds, hd => by cases hd; exact WL_nil
  | x :: xs, ds, hd => by
    unfold resF at hd
    split at hd
    · rename_i d h1
      split at hd <;> cases hd
      rename_i ds h2
      simp only [List.map_cons, WL]
      exact ⟨getF_sound h h1, resF_sound h h2⟩
    · cases hd

theorem oneD_sound {d : DV} {v : Value} (h : oneD d = true) (hv : W ρ θ d v) : v.oneCell' = true := by
  cases d <;> simp only [oneD] at h <;> simp only [W] at hv <;> try (cases h; done)
  · subst hv; exact h
  · subst hv; rfl
  · subst hv; rfl
  · obtain ⟨L, _, _, rfl⟩ := hv; rfl
  · subst hv; rfl
  · obtain ⟨L, _, _, _, _, _, C, _, _, rfl⟩ := hv; rfl
  · obtain ⟨L, _, rfl⟩ := hv; rfl
  · obtain ⟨cs, ds, rfl, _⟩ := hv; rfl
  · obtain ⟨u, rfl, _⟩ := hv; rfl
  · obtain ⟨V, _, rfl⟩ := hv; rfl
theorem allOne_sound : ∀ {l : List DV} {vs : List Value}, allOne l = true → WL ρ θ l vs → ∀ u ∈ vs, u.oneCell' = true
  | [], vs, _, hv, u, hu => by rw [WL_nil_left hv] at hu; cases hu
  | d :: l, vs, h, hv, u, hu => by
    obtain ⟨w, ws, rfl, h1, h2⟩ := WL_cons_left hv
    simp only [allOne, Bool.and_eq_true] at h
    rcases List.mem_cons.1 hu with rfl | hu
    · exact oneD_sound h.1 h1
    · exact allOne_sound h.2 h2 u hu
theorem rowOf_sound : ∀ {l : List DV} {vs : List Value}, allOne l = true → WL ρ θ l vs → CW ρ θ (rowOf l) vs
  | [], vs, _, hv => WL_nil_left hv
  | d :: l, vs, h, hv => by
    obtain ⟨w, ws, rfl, h1, h2⟩ := WL_cons_left hv
    simp only [allOne, Bool.and_eq_true] at h
    exact ⟨w, ws, rfl, h1, oneD_sound h.1 h1, rowOf_sound h.2 h2⟩
theorem cellsD_sound {d : DV} {l : List DV} {v : Value} (h : cellsD d = some l) (hv : W ρ θ d v) : WL ρ θ l v.cells.toList ∧ allOne l = true := by
  have one : oneD d = true → l = [d] → WL ρ θ l v.cells.toList ∧ allOne l = true := by
    rintro h1 rfl
    rw [cells_of_one (oneD_sound h1 hv)]
    refine ⟨?_, by simp [allOne, h1]⟩
    simp only [WL]; exact ⟨hv, trivial⟩
  cases d with
  | a l' =>
    obtain ⟨h1, h2⟩ := condO h
    cases h2
    simp only [W] at hv
    obtain ⟨cs, rfl, h3⟩ := hv
    exact ⟨by simpa [Value.cells] using h3, h1⟩
  | _ =>
    simp only [cellsD] at h
    obtain ⟨h1, h2⟩ := condO h
    exact one h1 (Option.some.inj h2).symm

theorem takeV_sound : ∀ {k : Nat} {b : List Cl} {l : List DV} {bs : List Value}, takeV k b = some l → CW ρ θ b bs → ∃ us rest, bs = us ++ rest ∧ WL ρ θ l us ∧ us.length = k
  | 0, b, l, bs, h, hb => by cases h; exact ⟨[], bs, rfl, WL_nil, rfl⟩
  | k + 1, [], l, bs, h, hb => by cases h
  | k + 1, .b i :: b, l, bs, h, hb => by cases h
  | k + 1, .v x :: b, l, bs, h, hb => by
    simp only [takeV] at h
    split at h <;> cases h
    rename_i m hm
    obtain ⟨u, us, rfl, h1, _, h2⟩ := hb
    obtain ⟨us', rest, rfl, h3, h4⟩ := takeV_sound hm h2
    exact ⟨u :: us', rest, rfl, by simp only [WL]; exact ⟨h1, h3⟩, by simp [h4]⟩

theorem rowAt_some {s : St} {n T : Nat} {cs : List Cl} {ex : Bool} (h : rowAt s n = some (T, cs, ex)) : s.get n = some (.cells T cs ex) := by
  unfold rowAt at h
  split at h <;> cases h
  assumption

theorem row_at {Γ : Cx} (hΓ : CxOk Γ ρ) {s : St} {w : World} (hs : SatR ρ θ s w) {n T : Nat} {cs a b : List Cl} {ex : Bool} {o : Lin} (hr : rowAt s n = some (T, cs, ex)) (hsp : split Γ cs o = some (a, b)) {L : Ln} (hL : θ n = some L) :
    ∃ as bs sp fz, w.heap[L.b]? = some (.cells (as ++ (bs ++ sp)).toArray T fz) ∧ (fz = (0, 0) ∨ fz = (L.sz, L.sz + 1)) ∧ CW ρ θ a as ∧ CW ρ θ b bs ∧ (as.length : Int) = o.ev ρ.a ∧ (as ++ (bs ++ sp)).length = L.sz ∧ cs = a ++ b ∧ (ex = true → sp = []) := by
  obtain ⟨L', hL', vs, sp, fz, h1, h2, h3, h4, h5⟩ := hs.res n _ (rowAt_some hr)
  obtain rfl := Option.some.inj (hL.symm.trans hL')
  obtain ⟨e1, as, bs, rfl, e2, e3, e4⟩ := split_cells hΓ hsp h3
  exact ⟨as, bs, sp, fz, by rw [h1, List.append_assoc], h2, e2, e3, e4, by rw [← List.append_assoc]; exact h4, e1, h5⟩

theorem cell_row {w : World} {b T : Nat} {cs : List Value} {fz : Nat × Nat} (h : w.heap[b]? = some (.cells cs.toArray T fz)) (o : Nat) : w.cell? ⟨b, o, none⟩ = cs[o]? := by
  simp [World.cell?, h]

theorem ldRow_sound {P : Program} {T : Nat} {b : List Cl} {r : DV} {bs : List Value} (h : ldRow P T b = some r) (hb : CW ρ θ b bs) :
    ∃ v, W ρ θ r v ∧ ∀ (w : World) (c o : Nat), (∀ j u, bs[j]? = some u → w.cell? ⟨c, o + j, none⟩ = some u) → (loadVar T ⟨c, o, none⟩).run P w = .ok v w := by
  unfold ldRow at h
  split at h
  · rename_i s hT
    split at h <;> cases h
    rename_i l hl
    obtain ⟨us, rest, rfl, h1, h2⟩ := takeV_sound hl hb
    refine ⟨.agg us.toArray, by simp only [W]; exact ⟨us, rfl, h1⟩, fun w c o hc => run_loadVar_agg hT w c o us h2 fun j v hj => hc j v ?_⟩
    rw [List.getElem?_append_left (List.getElem?_eq_some_iff.1 hj).1]; exact hj
  · rename_i s hT
    split at h <;> cases h
    obtain ⟨u, us, rfl, h1, _⟩ := hb
    exact ⟨u, h1, fun w c o hc => run_loadVar_one hT w c o u (by simpa using hc 0 u (by simp))⟩
  · cases h

theorem loadD_sound {Γ : Cx} (hΓ : CxOk Γ ρ) {P : Program} {s : St} {w : World} (hs : SatR ρ θ s w) {T : Nat} {d r : DV} {v : Value} (hv : W ρ θ d v) (h : loadD Γ P T d s = .ok r) :
    ∃ u, W ρ θ r u ∧ (Instr.loadAt T v).run P w = .ok u w := by
  unfold loadD at h
  split at h <;> try exact (fail_ok h).elim
  rename_i n o
  simp only [W] at hv
  obtain ⟨L, hL, ho, rfl⟩ := hv
  split at h
  · rename_i T' cs ex hr
    split at h <;> try exact (fail_ok h).elim
    rename_i a b hsp
    replace h := optR_ok h
    obtain ⟨as, bs, sp, fz, h1, _, h2, h3, h4, h5, _⟩ := row_at hΓ hs hr hsp hL
    obtain ⟨u, e1, e2⟩ := ldRow_sound (P := P) h h3
    refine ⟨u, e1, ?_⟩
    have hlen : as.length = (o.ev ρ.a).toNat := by omega
    have := e2 w L.b (o.ev ρ.a).toNat fun j u hj => by
      rw [cell_row h1, List.getElem?_append_right (by omega), show (o.ev ρ.a).toNat + j - as.length = j by omega, List.getElem?_append_left (List.getElem?_eq_some_iff.1 hj).1]
      exact hj
    simpa [Instr.loadAt, Instr.sureAddr] using this
  · split at h <;> try exact (fail_ok h).elim
    rename_i o0 cs hget
    split at h <;> try exact (fail_ok h).elim
    rename_i a b hsp
    replace h := optR_ok h
    obtain ⟨L', hL', pre, ms, post, T', fz, h1, h2, h3⟩ := hs.res n _ hget
    obtain rfl := Option.some.inj (hL.symm.trans hL')
    obtain ⟨_, as, bs, rfl, f1, f2, f3⟩ := split_cells hΓ hsp h2
    rw [ev_sub] at f3
    obtain ⟨u, e1, e2⟩ := ldRow_sound (P := P) h f2
    refine ⟨u, e1, ?_⟩
    have h1' : w.heap[L.b]? = some (.cells ((pre ++ as) ++ (bs ++ post)).toArray T' fz) := by rw [h1]; simp [List.append_assoc]
    have hlen : (pre ++ as).length = (o.ev ρ.a).toNat := by rw [List.length_append]; omega
    have := e2 w L.b (o.ev ρ.a).toNat fun j u hj => by
      rw [cell_row h1', List.getElem?_append_right (by omega), show (o.ev ρ.a).toNat + j - (pre ++ as).length = j by omega, List.getElem?_append_left (List.getElem?_eq_some_iff.1 hj).1]
      exact hj
    simpa [Instr.loadAt, Instr.sureAddr] using this

theorem intB_dec (a b : Int) : intB a b = decide (a = b) := by
  cases h : intB a b with
  | true => simp [intB_eq h]
  | false => simp [intB_ne h]
theorem intLe_dec (a b : Int) : intLe a b = decide (a ≤ b) := by
  cases h : intLe a b with
  | true => simp [intLe_iff.1 h]
  | false => have := intLe_false.1 h; simp; omega
theorem intBin_sound {P : Program} {op : BinOp} {T : Nat} {k k' : IntKind} {a b : Int} {v : Value} (h : intBin op k k' a b = some v) : ∃ c, binV P op T (.int k a) (.int k' b) = some (c, v) ∧ c := by
  unfold intBin at h
  cases op <;> simp only [binV] at h ⊢
  case shl => obtain ⟨h1, h2⟩ := condO h; cases h2; exact ⟨_, rfl, intLe_iff.1 h1⟩
  case shr => obtain ⟨h1, h2⟩ := condO h; cases h2; exact ⟨_, rfl, intLe_iff.1 h1⟩
  all_goals
    split at h <;> try (cases h; done)
    rename_i hk
    subst hk
    simp only [if_true]
  case quo =>
    cases hb : intB b 0 with
    | true => rw [hb] at h; cases h
    | false => rw [hb] at h; cases h; exact ⟨_, rfl, intB_ne hb⟩
  case rem =>
    cases hb : intB b 0 with
    | true => rw [hb] at h; cases h
    | false => rw [hb] at h; cases h; exact ⟨_, rfl, intB_ne hb⟩
  all_goals
    first
      | (cases h; exact ⟨_, rfl, trivial⟩)
      | skip
  all_goals
    cases h
    refine ⟨True, ?_, trivial⟩
    simp only [intB_dec, intLe_dec, Option.some.injEq, Prod.mk.injEq, true_and, Value.bool.injEq]
    try (rw [Bool.eq_iff_iff]; simp)
end
end
end Go.Q

