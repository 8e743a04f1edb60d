/- Part 3 of what the closing text rests on. -/
import Derived.Test.YtdamnoleoakehaaGreatDoorH2
namespace Go.Z
open Go.RowKit

def sw (t : Bool) (A B : Prop) : Prop := Bool.rec B A t
theorem sw_iff {t : Bool} {A B : Prop} : sw t A B ↔ (t = true → A) ∧ (t = false → B) := by cases t <;> simp [sw]
abbrev HK := SV → List (Nat × R) → Nat → Prop

def q1 (vs : List SV) (k : SV → Prop) : Prop := match vs with | [s] => k s | _ => False
def q2 (vs : List SV) (k : SV → SV → Prop) : Prop := match vs with | [s, t] => k s t | _ => False

def pownOf (h : List (Nat × R)) (n : Nat) : Option (Nat × Nat × Nat × List Nat × Nat × (Nat → Nat → D)) :=
  match hfind h n with
  | some (.pown T S m bs len f) => some (T, S, m, bs, len, f)
  | _ => none
def pfind (h : List (Nat × R)) (S : Nat) : List (Nat × R) → Option (Nat × Nat × Nat × List Nat × Nat × (Nat → Nat → D))
  | [] => none
  | (q, _) :: t => match hfind h q with
    | some (.pown T S' m bs n f) => cond (Nat.beq S' S) (some (q, T, m, bs, n, f)) (pfind h S t)
    | _ => pfind h S t
def loadP (P : Program) (T S i b o : Nat) (h : List (Nat × R)) (nx : Nat) (k : HK) : Prop :=
  match pfind h S h with
  | some (_, _, m, bs, _, f) => bs[i]? = some b ∧ ldArr P T (.recs m 0 f) m i o h nx k
  | none => False
def loadSlot (P : Program) (T n es i o : Nat) (h : List (Nat × R)) (nx : Nat) (k : HK) : Prop :=
  match pownOf h n, kindT P T with
  | some (_, S, _, bs, _, _), some (false, _) => cond (Nat.beq es 1 && Nat.beq o 0) (∀ b, bs[i]? = some b → k (.px S i b 0) h nx) False
  | _, _ => False

def fieldAddrQ (off : Option Nat) (s : SV) (k : SV → Prop) : Prop :=
  match off, s with
  | some f, .p n o => k (.p n (o + f))
  | some f, .e n es i o => k (.e n es i (o + f))
  | some f, .px S i b o => k (.px S i b (o + f))
  | _, _ => False

def loadQ (P : Program) (T : Nat) (s : SV) (h : List (Nat × R)) (nx : Nat) (k : HK) : Prop :=
  match s with
  | .p n o => match hfind h n with
    | some (.blk _ l) => match ldBlk P T l o with
      | some r => k r h nx
      | none => False
    | some (.rblk _ l) => match ldBlk P T l o with
      | some r => k r h nx
      | none => False
    | _ => False
  | .q n => match hfind h n with
    | some (.own _ (.ints kk xs)) => match kindT P T with
      | some (true, s) => s = xs.length ∧ k (.arr kk xs) h nx
      | _ => False
    | _ => False
  | .e n es i o => match arrOf h n with
    | some d => ldArr P T d es i o h nx k
    | none => loadSlot P T n es i o h nx k
  | .px S i b o => loadP P T S i b o h nx k
  | _ => False

def nilCheckQ (s : SV) (k : SV → Prop) : Prop :=
  match s with
  | .p n o => k (.p n o)
  | .e n es i o => k (.e n es i o)
  | .f fn nf l => k (.f fn nf l)
  | .q n => k (.q n)
  | .px S i b o => k (.px S i b o)
  | _ => False

def binQ (P : Program) (op : BinOp) (T : Nat) (x y : SV) (k : SV → Prop) : Prop :=
  match scal x, scal y with
  | some u, some v => match binV P op T u v with
    | some (c, r) => c ∧ k (.c r)
    | none => False
  | _, _ => match x, y, op, P.underlying T with
    | .p _ _, .c (.pointer none), .eql, some (.pointer _) => k (.b false)
    | .p _ _, .c (.pointer none), .neq, some (.pointer _) => k (.b true)
    | .q _, .c (.pointer none), .eql, some (.pointer _) => k (.b false)
    | .q _, .c (.pointer none), .neq, some (.pointer _) => k (.b true)
    | .px _ _ _ _, .c (.pointer none), .eql, some (.pointer _) => k (.b false)
    | .px _ _ _ _, .c (.pointer none), .neq, some (.pointer _) => k (.b true)
    | _, _, _, _ => False
def intT (P : Program) (t : Nat) : Bool := match P.underlying t with
  | some (.int _) => true
  | _ => false
def twoT (P : Program) (T : Nat) : Bool := match P.underlying T with
  | some (.struct fs) => match fs.toList with
    | [f, g] => (Nat.beq f.offset 0 && Nat.beq g.offset 1) && (f.name != "_" && g.name != "_") && (intT P f.type && intT P g.type) && (!P.eqGuardType P.depth T && !P.stoodInHeld T)
    | _ => false
  | _ => false
def fldsI (P : Program) : List Field → Nat → Bool
  | [], _ => true
  | f :: l, i => Nat.beq f.offset i && (f.name != "_" && (intT P f.type && fldsI P l (i + 1)))
def manyT (P : Program) (T : Nat) : Option Nat := match P.underlying T with
  | some (.struct fs) => cond (fldsI P fs.toList 0 && (!P.eqGuardType P.depth T && !P.stoodInHeld T)) (some fs.toList.length) none
  | _ => none
def intsS : List SV → Option (List (IntKind × Int))
  | [] => some []
  | .c (.int k a) :: l => match intsS l with
    | some m => some ((k, a) :: m)
    | none => none
  | _ => none
def eqI : List (IntKind × Int) → List (IntKind × Int) → Option Bool
  | [], [] => some true
  | (k, a) :: l, (k', b) :: m => if k = k' then match eqI l m with
    | some r => some (decide (a = b) && r)
    | none => none
    else none
  | _, _ => none
def manyQ (P : Program) (T : Nat) (xs ys : List SV) : Option Bool :=
  match intsS xs, intsS ys, manyT P T with
  | some l, some m, some n => cond (Nat.beq n l.length) (eqI l m) none
  | _, _, _ => none
def nilA (h : List (Nat × R)) (n : Nat) (want : Bool) (k : SV → Prop) : Prop :=
  match arrOf h n with
  | some d => ∀ t : Bool, (t = want → d.len = 0) → k (.c (.bool t))
  | none => False
def nilQ (P : Program) (op : BinOp) (T : Nat) (x y : SV) (h : List (Nat × R)) (k : SV → Prop) : Option Prop :=
  match x, y, op, P.underlying T with
  | .c (.pointer none), .c (.pointer none), .eql, some (.pointer _) => some (k (.b true))
  | .c (.pointer none), .c (.pointer none), .neq, some (.pointer _) => some (k (.b false))
  | .nil, .nil, .eql, some (.slice _) => some (k (.b true))
  | .nil, .nil, .neq, some (.slice _) => some (k (.b false))
  | .a n, .nil, .eql, some (.slice _) => some (nilA h n true k)
  | .a n, .nil, .neq, some (.slice _) => some (nilA h n false k)
  | .agg [.c (.int k1 a), .c (.int k2 b)], .agg [.c (.int k3 c), .c (.int k4 d)], .eql, some (.struct _) =>
    if k1 = k3 then if k2 = k4 then if twoT P T = true then some (k (.c (.bool (decide (a = c) && decide (b = d))))) else none else none else none
  | .agg [.c (.int k1 a), .c (.int k2 b)], .agg [.c (.int k3 c), .c (.int k4 d)], .neq, some (.struct _) =>
    if k1 = k3 then if k2 = k4 then if twoT P T = true then some (k (.c (.bool (!(decide (a = c) && decide (b = d)))))) else none else none else none
  | .agg xs, .agg ys, .eql, some (.struct _) => match manyQ P T xs ys with
    | some r => some (k (.c (.bool r)))
    | none => none
  | .agg xs, .agg ys, .neq, some (.struct _) => match manyQ P T xs ys with
    | some r => some (k (.c (.bool (!r))))
    | none => none
  | _, _, _, _ => none

def unQ (op : UnOp) (x : SV) (k : SV → Prop) : Prop :=
  match op, x with
  | .not, .b t => k (.b (!t))
  | .not, .c (.bool t) => k (.c (.bool (!t)))
  | .neg, .c (.int kk n) => k (.c (.int kk (kk.wrap (0 - n))))
  | .xor, .c (.int kk n) => k (.c (.int kk (bits .xor kk (if kk.signed then -1 else kk.max) n)))
  | _, _ => False

def convQ (P : Program) (src dst : Nat) (x : SV) (h : List (Nat × R)) (k : SV → Prop) : Prop :=
  match P.underlying src, P.underlying dst, x with
  | some _, some (.int kk), .c (.int _ n) => k (.c (.int kk (kk.wrap n)))
  | some .string, some .string, .c (.string s) => k (.c (.string s))
  | some (.slice e), some .string, .nil => match P.underlying e with
    | some (.int .u8) => k (.c (.string (bstr [])))
    | _ => False
  | some (.slice e), some .string, .a n => match P.underlying e, arrOf h n with
    | some (.int .u8), some (.ints .u8 xs) => k (.c (.string (bstr xs)))
    | _, _ => False
  | _, _, _ => False

def extractQ (i : Nat) (s : SV) (k : SV → Prop) : Prop :=
  match s with
  | .tup l => match l[i]? with
    | some r => k r
    | none => False
  | _ => False

def fieldQ (P : Program) (T f : Nat) (s : SV) (k : SV → Prop) : Prop :=
  match P.underlying T, s with
  | some (.struct fs), .agg l => match fs[f]? with
    | some fl => match ldBlk P fl.type l fl.offset with
      | some r => k r
      | none => False
    | none => False
  | _, _ => False

def indexAddrQ (P : Program) (T : Nat) (x i : SV) (h : List (Nat × R)) (k : SV → Prop) : Prop :=
  match P.underlying T, x, i with
  | some (.slice e), .a n, .c (.int _ z) => match arrOf h n, kindT P e with
    | some d, some (_, es) => cond (Nat.beq es d.es) ((0 ≤ z ∧ z < (d.len : Int)) ∧ k (.e n es z.toNat 0)) False
    | none, some (_, es) => match pownOf h n with
      | some (_, _, _, _, len, _) => cond (Nat.beq es 1) ((0 ≤ z ∧ z < (len : Int)) ∧ k (.e n 1 z.toNat 0)) False
      | none => False
    | _, _ => False
  | some (.slice e), .hv n m, .c (.int _ z) => match kindT P e, pownOf h n with
    | some (_, es), some _ => cond (Nat.beq es 1) ((0 ≤ z ∧ z < (m : Int)) ∧ k (.e n 1 z.toNat 0)) False
    | _, _ => False
  | some (.slice e), .sl n m, .c (.int _ z) => match kindT P e with
    | some (_, es) => (0 ≤ z ∧ z < (m : Int)) ∧ k (.p n (z.toNat * es))
    | none => False
  | some (.array len e), .p n o, .c (.int _ z) => match kindT P e with
    | some (_, es) => (0 ≤ z ∧ z < (len : Int)) ∧ k (.p n (o + z.toNat * es))
    | _ => False
  | some (.array len e), .q n, .c (.int _ z) => match kindT P e, hfind h n with
    | some (_, es), some (.own _ d) => cond (Nat.beq es 1) ((0 ≤ z ∧ z < (len : Int) ∧ len = d.len) ∧ k (.e n 1 z.toNat 0)) False
    | _, _ => False
  | _, _, _ => False

def glName : List (Nat × R) → Nat → Option Nat
  | [], _ => none
  | (m, .gl b _ _ _) :: t, n => cond (Nat.beq b n) (some m) (glName t n)
  | _ :: t, n => glName t n
def glFind (h : List (Nat × R)) (n : Nat) : Option (Nat × IntKind × List Int) :=
  match glName h n with
  | some m => match hfind h m with
    | some (.gl b T k xs) => cond (Nat.beq b n) (some (T, k, xs)) none
    | _ => none
  | none => none
def indexG (P : Program) (T n : Nat) (i : SV) (h : List (Nat × R)) (nx : Nat) (k : HK) : Prop :=
  match P.underlying T, i, glFind h n with
  | some (.array len e), .c (.int _ z), some (_, kk, xs) => match kindT P e with
    | some (_, es) => cond (Nat.beq es 1) ((0 ≤ z ∧ z < (len : Int) ∧ len = xs.length) ∧ k (.e nx 1 z.toNat 0) ((nx, .ro (.ints kk xs)) :: h) (nx + 1)) False
    | none => False
  | _, _, _ => False

def indexQ (P : Program) (T : Nat) (x i : SV) (k : SV → Prop) : Prop :=
  match P.underlying T, x, i with
  | some .string, .c (.string s), .c (.int _ z) => (0 ≤ z ∧ z < (s.size : Int)) ∧ k (.c (.int .u8 ((s.data.toList.getD z.toNat 0).toNat : Int)))
  | _, _, _ => False

def mapOf (h : List (Nat × R)) (n : Nat) : Option (Col × Col) :=
  match hfind h n with
  | some (.map ks vs) => some (ks, vs)
  | some (.rmap ks vs) => some (ks, vs)
  | _ => none

def lookupQ (P : Program) (T : Nat) (ok : Bool) (x y : SV) (h : List (Nat × R)) (k : SV → Prop) : Prop :=
  match P.underlying T, x, scal y with
  | some (.map kt vt), .m n, some key => match mapOf h n with
    | some (ks, vs) => match ks.idx key with
      | some o => cond (keyKind P kt ks && zeroOk P vt vs) (k (cond ok (.tup [.c (vs.getAt o), .c (.bool o.isSome)]) (.c (vs.getAt o)))) False
      | none => False
    | none => False
  | _, _, _ => False

def zeroA (P : Program) (T : Nat) : Option (List Value) :=
  match P.info? T with
  | some i => match i.zero with
    | some (.agg cs) => some cs.toList
    | _ => none
  | none => none
def okS (ok : Bool) (s : SV) (b : Bool) : SV := cond ok (.tup [s, .b b]) s
def lookupR (P : Program) (T : Nat) (ok : Bool) (ks : Col) (m : Nat) (f : Nat → Nat → D) (y : SV) (h : List (Nat × R)) (nx : Nat) (k : HK) : Prop :=
  match P.underlying T, scal y with
  | some (.map kt vt), some key => match ks.idx key, zeroA P vt with
    | some o, some zs => cond (keyKind P kt ks) ((o = none → k (okS ok (.agg (zs.map liftK1)) false) h nx) ∧ ∀ j, o = some j → instL ((List.range m).map (f j)) h nx fun ss h' nx' => k (okS ok (.agg ss) true) h' nx') False
    | _, _ => False
  | _, _ => False
def mapROf (h : List (Nat × R)) (x : SV) : Option (Nat × Col × Nat × (Nat → Nat → D)) :=
  match x with
  | .m n => match hfind h n with
    | some (.mapR ks m f) => some (n, ks, m, f)
    | _ => none
  | _ => none
def mapSOf (h : List (Nat × R)) (x : SV) : Option (Nat × Col × List SV × List Nat × Nat) :=
  match x with
  | .m n => match hfind h n with
    | some (.mapS ks l bn c) => some (n, ks, l, bn, c)
    | _ => none
  | _ => none
def zeroV (P : Program) (T : Nat) : Option Value :=
  match P.info? T with
  | some i => i.zero
  | none => none
def lookS (ok : Bool) (l : List SV) (z : Value) (k : SV → Prop) (o : Option Nat) : Prop :=
  match o with
  | none => k (okS ok (.c z) false)
  | some j => match l[j]? with
    | some s => k (okS ok s true)
    | none => False
def lookupS (P : Program) (T : Nat) (ok : Bool) (ks : Col) (l : List SV) (y : SV) (k : SV → Prop) : Prop :=
  match P.underlying T, scal y with
  | some (.map kt vt), some key => match ks.idx key, zeroV P vt with
    | some o, some z => cond (keyKind P kt ks) (lookS ok l z k o) False
    | _, _ => False
  | _, _ => False
def lookupX (P : Program) (T : Nat) (ok : Bool) (x y : SV) (h : List (Nat × R)) (nx : Nat) (k : HK) : Prop :=
  match mapSOf h x with
  | some (_, ks, l, _) => lookupS P T ok ks l y fun r => k r h nx
  | none => match mapROf h x with
    | some (_, ks, m, f) => lookupR P T ok ks m f y h nx k
    | none => lookupQ P T ok x y h fun r => k r h nx

def lenQ (P : Program) (T : Option Nat) (x : SV) (h : List (Nat × R)) (k : SV → Prop) : Prop :=
  match T with
  | some t => match P.underlying t, x with
    | some .string, .c (.string s) => k (.c (.int .i64 (s.size : Int)))
    | some (.slice _), .nil => k (.c (.int .i64 0))
    | some (.slice _), .sl _ m => k (.c (.int .i64 (m : Int)))
    | some (.map _ _), .c (.map none) => k (.c (.int .i64 0))
    | some (.map _ _), .m n => match mapOf h n with
      | some (ks, _) => k (.c (.int .i64 (ks.len : Int)))
      | none => match mapROf h (.m n) with
        | some (_, ks, _, _) => k (.c (.int .i64 (ks.len : Int)))
        | none => match mapSOf h (.m n) with
          | some (_, ks, _) => k (.c (.int .i64 (ks.len : Int)))
          | none => False
    | some (.slice _), .hv _ m => k (.c (.int .i64 (m : Int)))
    | some (.slice _), .a n => match arrOf h n with
      | some d => k (.c (.int .i64 (d.len : Int)))
      | none => match pownOf h n with
        | some (_, _, _, _, len, _) => k (.c (.int .i64 (len : Int)))
        | none => False
    | _, _ => False
  | none => False

def capQ (P : Program) (T : Option Nat) (x : SV) (k : SV → Prop) : Prop :=
  match T with
  | some t => match P.underlying t, x with
    | some (.slice _), .nil => k (.c (.int .i64 0))
    | _, _ => False
  | none => False

def ownT (h : List (Nat × R)) (n : Nat) (m : Int) (A A2 : Nat → Prop) (B : Prop) : Prop :=
  match hfind h n with
  | some (.own T (.ints _ _)) => sw (decide (m = 0)) (A T) B
  | some (.own T (.recs _ len _)) => sw (decide (m = 0)) (A T ∨ B) (((0 < m ∧ m ≤ (len : Int)) ∧ A2 T) ∨ B)
  | some (.own T _) => sw (decide (m = 0)) (A T ∨ B) B
  | _ => B

def viewT (h : List (Nat × R)) (n : Nat) (l : Int) (A : Prop) (C : Nat → Prop) (B : Prop) : Prop :=
  match hfind h n with
  | some (.own _ (.ints _ xs)) => ((0 ≤ l ∧ l ≤ (xs.length : Int)) ∧ A) ∨ B
  | some (.own T (.recs _ len _)) => sw (decide (l = 1)) (0 < len ∧ C T) B
  | _ => B
def sliceP (n es : Nat) (lo hi : Option SV) (h : List (Nat × R)) (nx : Nat) (k : HK) : Prop :=
  match pownOf h n with
  | some (T, S, m, bs, len, f) => cond (Nat.beq es 1)
    (match lo, hi with
    | none, none => k (.a n) h nx
    | some (.c (.int _ l)), none => (0 ≤ l ∧ l ≤ (len : Int)) ∧ k (.a nx) ((nx, .pown T S m (bs.drop l.toNat) (len - l.toNat) (fun i => f (l.toNat + i))) :: (n, .dead) :: h) (nx + 1)
    | none, some (.c (.int _ z)) => (0 ≤ z ∧ z ≤ (len : Int)) ∧ k (.hv n z.toNat) h nx
    | _, _ => False) False
  | none => False

def freezeH (h : List (Nat × R)) (n : Nat) : List (Nat × R) :=
  match hfind h n with
  | some (.own _ d) => (n, .ro d) :: h
  | _ => h

def sliceQ (P : Program) (T : Nat) (x : SV) (lo hi : Option SV) (h : List (Nat × R)) (nx : Nat) (k : HK) : Prop :=
  match P.underlying T, x with
  | some (.slice e), .a n => match arrOf h n, kindT P e with
    | some d, some (_, es) => cond (Nat.beq es d.es)
      (match lo, hi with
      | none, none => k (.a n) h nx
      | some (.c (.int _ l)), none => viewT h n l (k (.vw n l.toNat) h nx) (fun T => k (.a nx) ((nx, .own T (d.dropD 1)) :: (n, .dead) :: h) (nx + 1)) ((0 ≤ l ∧ l ≤ (d.len : Int)) ∧ k (.a nx) ((nx, .ro (d.dropD l.toNat)) :: freezeH h n) (nx + 1))
      | none, some (.c (.int _ m)) => ownT h n m (fun T => k (.a nx) ((nx, .own T (d.takeD 0)) :: (n, .dead) :: h) (nx + 1)) (fun T => k (.a nx) ((nx, .own T (d.takeD m.toNat)) :: (n, .dead) :: h) (nx + 1)) ((0 ≤ m ∧ m ≤ (d.len : Int)) ∧ k (.a nx) ((nx, .ro (d.takeD m.toNat)) :: freezeH h n) (nx + 1))
      | some (.c (.int _ l)), some (.c (.int _ m)) => (0 ≤ l ∧ l ≤ m ∧ m ≤ (d.len : Int)) ∧ k (.a nx) ((nx, .ro (d.sub l.toNat (m.toNat - l.toNat))) :: freezeH h n) (nx + 1)
      | _, _ => False) False
    | none, some (_, es) => sliceP n es lo hi h nx k
    | _, _ => False
  | some (.slice e), .nil => match kindT P e, lo, hi with
    | some _, none, some (.c (.int _ m)) => m = 0 ∧ k .nil h nx
    | _, _, _ => False
  | some .string, .c (.string s) => match lo, hi with
    | none, none => k (.c (.string (s.extract 0 s.size))) h nx
    | some (.c (.int _ l)), none => (0 ≤ l ∧ l ≤ (s.size : Int)) ∧ k (.c (.string (s.extract l.toNat s.size))) h nx
    | none, some (.c (.int _ m)) => (0 ≤ m ∧ m ≤ (s.size : Int)) ∧ k (.c (.string (s.extract 0 m.toNat))) h nx
    | some (.c (.int _ l)), some (.c (.int _ m)) => (0 ≤ l ∧ l ≤ m ∧ m ≤ (s.size : Int)) ∧ k (.c (.string (s.extract l.toNat m.toNat))) h nx
    | _, _ => False
  | _, _ => False

def slice0Q (P : Program) (T : Nat) (x : SV) (hi mx : SV) (h : List (Nat × R)) (nx : Nat) (k : HK) : Prop :=
  match P.underlying T, hi, mx with
  | some (.slice e), .c (.int _ 0), .c (.int _ 0) => match x with
    | .nil => match kindT P e with
      | some _ => k .nil h nx
      | none => False
    | .a n => match arrOf h n, kindT P e with
      | some d, some _ => k (.a nx) ((nx, .own e (d.takeD 0)) :: h) (nx + 1)
      | _, _ => False
    | _ => False
  | _, _, _ => False

def sliceOpQ (P : Program) (T : Nat) (lo hi mx : Bool) (vs : List SV) (h : List (Nat × R)) (nx : Nat) (k : HK) : Prop :=
  match lo, hi, mx, vs with
  | false, false, false, [x] => sliceQ P T x none none h nx k
  | true, false, false, [x, l] => sliceQ P T x (some l) none h nx k
  | false, true, false, [x, m] => sliceQ P T x none (some m) h nx k
  | true, true, false, [x, l, m] => sliceQ P T x (some l) (some m) h nx k
  | false, true, true, [x, m, c] => slice0Q P T x m c h nx k
  | _, _, _, _ => False

def fillS (place : Nat → Option (Nat × Nat)) (cells : List SV) : List (Nat × SV) → Option (List SV)
  | [] => some cells
  | (i, s) :: rest =>
    match place i, cellsS s with
    | some (off, size), some cs => cond (Nat.beq cs.length size && Nat.ble (off + size) cells.length)
        (fillS place (cells.take off ++ (cs ++ cells.drop (off + size))) rest) none
    | _, _ => none

def placesT (P : Program) (T : Nat) : Option (Nat → Option (Nat × Nat)) :=
  match P.underlying T with
  | some (.struct fs) => some fun i => match fs[i]? with
    | some f => match P.info? f.type with
      | some t => some (f.offset, t.size)
      | none => none
    | none => none
  | some (.array _ e) => match P.info? e with
    | some t => some fun i => some (i * t.size, t.size)
    | none => none
  | _ => none

def zeroS (P : Program) (T : Nat) : Option (List SV) :=
  match P.info? T with
  | some i => match i.zero with
    | some z => some (z.cells.toList.map liftK1)
    | none => none
  | none => none

def allInfo (P : Program) (T : Nat) : Bool :=
  match P.underlying T with
  | some (.struct fs) => fs.toList.all fun f => (P.info? f.type).isSome
  | _ => true

def intsOf (k : IntKind) : List SV → Option (List Int)
  | [] => some []
  | .c (.int k' z) :: l => match intsOf k l with
    | some zs => if k = k' then some (z :: zs) else none
    | none => none
  | _ => none

def arrS (P : Program) (T : Nat) (s : SV) : SV :=
  match P.underlying T with
  | some (.array _ e) => match P.underlying e, s with
    | some (.int kk), .agg cs => match intsOf kk cs with
      | some zs => .arr kk zs
      | none => s
    | _, _ => s
  | _ => s
def buildQ0 (P : Program) (T : Nat) (ixs : List Nat) (vs : List SV) (k : SV → Prop) : Prop :=
  match zeroS P T, placesT P T, allInfo P T with
  | some z, some pl, true => match fillS pl z (ixs.zip vs) with
    | some cs => k (.agg cs)
    | none => False
  | _, _, _ => False

def buildQ (P : Program) (T : Nat) (ixs : List Nat) (vs : List SV) (k : SV → Prop) : Prop := buildQ0 P T ixs vs fun s => k (arrS P T s)

def ifaceQ (P : Program) (T : Nat) (s : SV) (k : SV → Prop) : Prop :=
  match P.underlying T with
  | some (.interface _) => False
  | some _ => k (.i T s)
  | none => False
def assertQ (P : Program) (T : Nat) (ok : Bool) (s : SV) (k : SV → Prop) : Prop :=
  match P.underlying T, s, ok with
  | some (.interface _), _, _ => False
  | some _, .i t s', false => cond (Nat.beq t T) (k s') False
  | _, _, _ => False

def stepQ (P : Program) (op : Op) (vs : List SV) (h : List (Nat × R)) (nx : Nat) (k : HK) : Prop :=
  match op with
  | .move _ => q1 vs fun s => k s h nx
  | .assign _ => q1 vs fun s => k s h nx
  | .fieldAddr S _ f => q1 vs fun s => fieldAddrQ (fldT P S f) s fun r => k r h nx
  | .load T _ => q1 vs fun s => loadQ P T s h nx k
  | .nilCheck _ => q1 vs fun s => nilCheckQ s fun r => k r h nx
  | .binOp op T _ _ _ => q2 vs fun s t => match nilQ P op T s t h (fun r => k r h nx) with
    | some p => p
    | none => binQ P op T s t fun r => k r h nx
  | .unOp op _ _ => q1 vs fun s => unQ op s fun r => k r h nx
  | .convert src dst _ => q1 vs fun s => convQ P src dst s h fun r => k r h nx
  | .extract _ i => q1 vs fun s => extractQ i s fun r => k r h nx
  | .field T _ f => q1 vs fun s => fieldQ P T f s fun r => k r h nx
  | .indexAddr T _ _ => q2 vs fun s t => match s with
    | .g n => indexG P T n t h nx k
    | s => indexAddrQ P T s t h fun r => k r h nx
  | .index T _ _ => q2 vs fun s t => indexQ P T s t fun r => k r h nx
  | .slice T _ lo hi mx => sliceOpQ P T lo.isSome hi.isSome mx.isSome vs h nx k
  | .makeFunc fn first _ => match fn with
    | .func f => k (.f f first.toList.length vs) h nx
    | _ => False
  | .lookup T _ _ ok => q2 vs fun s t => lookupX P T ok s t h nx k
  | .build T parts => buildQ P T (parts.toList.map (·.1)) vs fun r => k r h nx
  | .makeInterface T _ => q1 vs fun s => ifaceQ P T s fun r => k r h nx
  | .typeAssert _ _ T ok => q1 vs fun s => assertQ P T ok s fun r => k r h nx
  | .call c => match c.callee with
    | .builtin .len => q1 vs fun s => lenQ P c.argTypes[0]? s h fun r => k r h nx
    | .builtin .cap => q1 vs fun s => capQ P c.argTypes[0]? s fun r => k r h nx
    | _ => False
  | _ => False
end Go.Z
