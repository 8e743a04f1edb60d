/- Operations that write or make memory: what they do to the symbolic state. -/
import Derived.Test.YtonfaeenoifomaaZ13
namespace Go.Z
open Go.RowKit

/-- An array of integers, all zero: their kind, how many. -/
def zeroInts (P : Program) (T : Nat) : Option (IntKind × Nat) :=
  match P.underlying T with
  | some (.array n e) => match P.underlying e, zeroS P T with
    | some (.int kk), some l => cond (Nat.beq l.length n && l.all (isZ kk)) (some (kk, n)) none
    | _, _ => none
  | _ => none
where
  isZ (kk : IntKind) : SV → Bool
    | .c (.int k' 0) => decide (k' = kk)
    | _ => false

/-- A new variable. -/
def allocL (P : Program) (T : Nat) (h : List (Nat × R)) (nx : Nat) (k : HK) : Prop :=
  match zeroInts P T with
  | some (kk, n) => k (.q nx) ((nx, .own T (.ints kk (List.replicate n 0))) :: h) (nx + 1)
  | none => match zeroS P T with
    | some l => k (.p nx 0) ((nx, .blk T l) :: h) (nx + 1)
    | none => False

def boxL (T : Nat) (s : SV) (h : List (Nat × R)) (nx : Nat) (k : HK) : Prop :=
  match s with
  | .arr kk xs => k (.q nx) ((nx, .own T (.ints kk xs)) :: h) (nx + 1)
  | s => match cellsS s with
    | some l => k (.p nx 0) ((nx, .blk T l) :: h) (nx + 1)
    | none => False

def splice (l : List SV) (o : Nat) (cs : List SV) : List SV := l.take o ++ (cs ++ l.drop (o + cs.length))

def intOf1 : SV → Option (IntKind × Int)
  | .c (.int k z) => some (k, z)
  | _ => none

/-- A record's element, some of its fields new. -/
def setRec (f : Nat → Nat → D) (i o : Nat) (ds : List D) : Nat → Nat → D := fun i' j' =>
  cond (Nat.beq i' i && Nat.ble o j' && Nat.blt j' (o + ds.length)) (ds.getD (j' - o) (f i' j')) (f i' j')

def storeL (P : Program) (T : Nat) (t s : SV) (h : List (Nat × R)) (nx : Nat) (k : List (Nat × R) → Nat → Prop) : Prop :=
  match t with
  | .p n o => match hfind h n, kindT P T, cellsS s with
    | some (.blk T' l), some (_, sz), some cs => cond (Nat.beq cs.length sz && Nat.ble (o + sz) l.length && cs.all oneS) (k ((n, .blk T' (splice l o cs)) :: h) nx) False
    | _, _, _ => False
  | .e n es i o => match hfind h n, kindT P T with
    | some (.own T' (.ints kk xs)), some (_, sz) => match cellsS s with
      | some [c] => match intOf1 c with
        | some (k', z) => cond (Nat.beq sz 1 && Nat.beq es 1 && Nat.beq o 0) (kk = k' ∧ k ((n, .own T' (.ints kk (xs.set i z))) :: h) nx) False
        | none => False
      | _ => False
    | some (.own T' (.recs es' m f)), some (_, sz) => match cellsS s with
      | some cs => match dsOf P T (freezeL h cs) cs with
        | some ds => cond (Nat.beq cs.length sz && Nat.beq es es' && Nat.ble (o + sz) es && nodead n (freezeL h cs) T') (k ((n, .own T' (.recs es' m (setRec f i o ds))) :: freezeL h cs) nx) False
        | none => False
      | none => False
    | _, _ => False
  | .q n => match hfind h n, kindT P T, s with
    | some (.own T' (.ints kk xs)), some (_, sz), .arr kk' ys => (kk = kk' ∧ sz = ys.length ∧ xs.length = ys.length) ∧ k ((n, .own T' (.ints kk' ys)) :: h) nx
    | _, _, _ => False
  | _ => False
where
  /-- the array itself is owned still -/
  nodead (n : Nat) (h : List (Nat × R)) (T' : Nat) : Bool :=
    match hfind h n with
    | some (.own T _) => Nat.beq T T'
    | _ => false

/-- What is appended: its data. -/
def srcD (P : Program) (e xT : Nat) (x : SV) (h : List (Nat × R)) : Option (Prop × D) :=
  match P.underlying xT, x with
  | some (.slice _), .a m => match arrOf h m with
    | some d => some (True, d)
    | none => none
  | some .string, .c (.string s) => match P.underlying e with
    | some (.int .u8) => some (True, .ints .u8 (s.data.toList.map fun b => (b.toNat : Int)))
    | _ => none
  | some (.int _), .c (.int _ z) => match P.underlying e with
    | some (.int k) => match P.info? e with
      | some i => match i.zero with
        | some (.int k' 0) => some (0 ≤ z ∧ z ≤ 9223372036854775807 ∧ z.toNat * i.bytes ≤ 281474976710656 ∧ k' = k, .ints k (List.replicate z.toNat 0))
        | _ => none
      | none => none
    | _ => none
  | _, _ => none

def appendL (P : Program) (sT xT : Nat) (s x : SV) (h : List (Nat × R)) (nx : Nat) (k : HK) : Prop :=
  match P.underlying sT with
  | some (.slice e) => match P.info? e with
    | some i => match i.zero with
      | some z => cond (Nat.beq z.cells.size i.size && Nat.blt 0 i.size && Nat.blt 0 i.bytes)
        (match s, x with
        | .nil, .nil => cond (isSl P xT) (k .nil h nx) False
        | .a n, .nil => match arrOf h n with
          | some _ => cond (isSl P xT) (k (.a n) h nx) False
          | none => False
        | .nil, _ => match srcD P e xT x h with
          | some (c, d) => cond (Nat.beq d.es i.size) (c ∧ d.len * i.bytes ≤ 140737488355328 ∧ k (.a nx) ((nx, .own e d) :: h) (nx + 1)) False
          | none => False
        | .a n, _ => match hfind h n with
          | some (.own T d) => match srcD P e xT x h with
            | some (c, d') => match D.app d d' with
              | some r => cond (Nat.beq T e && Nat.beq d.es i.size && notSame n x) (c ∧ (d.len + d'.len) * i.bytes ≤ 140737488355328 ∧ k (.a nx) ((nx, .own e r) :: (n, .dead) :: h) (nx + 1)) False
              | none => False
            | none => False
          | _ => False
        | _, _ => False) False
      | none => False
    | none => False
  | _ => False
where
  isSl (P : Program) (T : Nat) : Bool :=
    match P.underlying T with
    | some (.slice _) => true
    | _ => false
  notSame (n : Nat) (x : SV) : Bool :=
    match x with
    | .a m => !Nat.beq n m
    | _ => true

/-- A slice written out. -/
def gridD (es : Nat) (ds : List D) : Nat → Nat → D := fun i j => ds.getD (i * es + j) (.v undef)

def intsOf (k : IntKind) : List SV → Option (List Int)
  | [] => some []
  | .c (.int k' z) :: l => match intsOf k l with
    | some zs => if k = k' then some (z :: zs) else none
    | none => none
  | _ => none

def placesSl (es : Nat) (i : Nat) : Option (Nat × Nat) := some (i * es, es)

def buildSliceL (P : Program) (T len : Nat) (ixs : List Nat) (vs : List SV) (h : List (Nat × R)) (nx : Nat) (k : HK) : Prop :=
  match P.underlying T with
  | some (.slice e) => match P.info? e with
    | some i => match i.zero with
      | some z => cond (Nat.ble (len * i.size) 1000 && Nat.blt 0 i.size && Nat.beq z.cells.size i.size)
        (match fillS (placesSl i.size) (((List.range (len * i.size)).map fun j => liftK1 (z.cells.toList.getD (j % i.size) undef))) (ixs.zip vs) with
        | some cs => match P.underlying e with
          | some (.int kk) => match intsOf kk cs with
            | some zs => cond (Nat.beq i.size 1) (k (.a nx) ((nx, .own e (.ints kk zs)) :: h) (nx + 1)) False
            | none => False
          | _ => match dsOf P e (freezeL h cs) cs with
            | some ds => k (.a nx) ((nx, .own e (.recs i.size len (gridD i.size ds))) :: freezeL h cs) (nx + 1)
            | none => False
        | none => False) False
      | none => False
    | none => False
  | _ => False

def makeSliceL (P : Program) (T : Nat) (l c : SV) (h : List (Nat × R)) (nx : Nat) (k : HK) : Prop :=
  match P.underlying T, l, c with
  | some (.slice e), .c (.int _ n), .c (.int _ m) => match P.underlying e, P.info? e with
    | some (.int kk), some i => match i.zero with
      | some (.int k' 0) => cond (Nat.beq i.size 1) ((0 ≤ n ∧ n ≤ m ∧ m ≤ 9223372036854775807 ∧ m.toNat * i.bytes ≤ 281474976710656 ∧ kk = k') ∧ k (.a nx) ((nx, .own e (.ints kk (List.replicate n.toNat 0))) :: h) (nx + 1)) False
      | _ => False
    | _, _ => False
  | _, _, _ => False

/-- A string's bytes, in new memory. -/
def bytesL (P : Program) (src dst : Nat) (x : SV) (h : List (Nat × R)) (nx : Nat) (k : HK) : Prop :=
  match P.underlying src, P.underlying dst, x with
  | some .string, some (.slice e), .c (.string s) => match P.underlying e with
    | some (.int .u8) => k (.a nx) ((nx, .ro (.ints .u8 (s.data.toList.map fun b => (b.toNat : Int)))) :: h) (nx + 1)
    | _ => False
  | _, _, _ => False

def emptyCol (P : Program) (t : Nat) : Option Col :=
  match P.underlying t with
  | some (.int kk) => some (.ints kk [])
  | some .bool => some (.bools [])
  | some .string => some (.strs [])
  | _ => none
def makeMapL (P : Program) (T : Nat) (r : List SV) (h : List (Nat × R)) (nx : Nat) (k : HK) : Prop :=
  match P.underlying T, r with
  | some (.map kt vt), [] => match emptyCol P kt, emptyCol P vt with
    | some ks, some vs => k (.m nx) ((nx, .map ks vs) :: h) (nx + 1)
    | _, _ => False
  | _, _ => False

/-- A column with an entry at its place, or behind all. -/
def Col.putV (vs : Col) (o : Option Nat) (v : Value) : Option Col :=
  match vs, v with
  | .ints k m, .int k' z => if k = k' then some (.ints k (mputV m o z)) else none
  | .bools m, .bool z => some (.bools (mputV m o z))
  | .strs m, .string z => some (.strs (mputV m o z))
  | _, _ => none
def Col.putK (ks : Col) (o : Option Nat) (v : Value) : Option Col :=
  match ks, v with
  | .ints k m, .int k' z => if k = k' then some (.ints k (mputK m o z)) else none
  | .bools m, .bool z => some (.bools (mputK m o z))
  | .strs m, .string z => some (.strs (mputK m o z))
  | _, _ => none
def Col.del (c : Col) (o : Option Nat) : Col :=
  match c with
  | .ints k m => .ints k (mdel m o)
  | .bools m => .bools (mdel m o)
  | .strs m => .strs (mdel m o)

def mapUpdateL (P : Program) (T : Nat) (x y z : SV) (h : List (Nat × R)) (nx : Nat) (k : List (Nat × R) → Nat → Prop) : Prop :=
  match P.underlying T, x, scal y, scal z with
  | some (.map kt _), .m n, some key, some val => match hfind h n with
    | some (.map ks vs) => match ks.idx key with
      | some o => match ks.putK o key, vs.putV o val with
        | some ks', some vs' => cond (keyKind P kt ks) (k ((n, .map ks' vs') :: h) nx) False
        | _, _ => False
      | none => False
    | _ => False
  | _, _, _, _ => False

def deleteL (P : Program) (T : Nat) (x y : SV) (h : List (Nat × R)) (nx : Nat) (k : HK) : Prop :=
  match P.underlying T, x, scal y with
  | some (.map kt _), .m n, some key => match hfind h n with
    | some (.map ks vs) => match ks.idx key with
      | some o => cond (keyKind P kt ks) (k (.tup []) ((n, .map (ks.del o) (vs.del o)) :: h) nx) False
      | none => False
    | _ => False
  | _, _, _ => False

def q3 (vs : List SV) (k : SV → SV → SV → Prop) : Prop := match vs with | [s, t, u] => k s t u | _ => False

/-- What is known of functions: contracts; and those that are walked in place. -/
structure CE where
  c : Nat → Option Ctr
  j : Nat → List SV → List (Nat × R) → Nat → HK → Prop
instance : CoeFun CE (fun _ => Nat → Option Ctr) := ⟨CE.c⟩

/-- The loud operations. 'C': what is known of the functions that are called. -/
def stepL (P : Program) (C : CE) (op : Op) (vs : List SV) (h : List (Nat × R)) (nx : Nat) (k : HK) : Prop :=
  match op with
  | .alloc T => allocL P T h nx k
  | .box T _ => q1 vs fun s => boxL T s h nx k
  | .store T _ _ => q2 vs fun t s => storeL P T t s h nx (k .unk)
  | .buildSlice T len parts => buildSliceL P T len (parts.toList.map (·.1)) vs h nx k
  | .makeSlice T _ _ => q2 vs fun l c => makeSliceL P T l c h nx k
  | .convert src dst _ => q1 vs fun s => bytesL P src dst s h nx k
  | .makeMap T _ => makeMapL P T vs h nx k
  | .mapUpdate T _ _ _ => q3 vs fun x y z => mapUpdateL P T x y z h nx (k .unk)
  | .call c => match c.callee, vs with
    | .builtin .delete, _ => match c.argTypes.toList with
      | T :: _ => q2 vs fun x y => deleteL P T x y h nx k
      | _ => False
    | .builtin .append, _ => match c.argTypes.toList with
      | [sT, xT] => q2 vs fun s x => appendL P sT xT s x h nx k
      | _ => False
    | .value _, .f f nf caps :: args => match C f with
      | some ct => callX P (paramsOf P f) ct (caps.take nf ++ (args ++ caps.drop nf)) h nx k
      | none => C.j f (caps.take nf ++ (args ++ caps.drop nf)) h nx k
    | _, _ => False
  | _ => False
end Go.Z
