/- Calls: what a function takes and gives, as data; what a call does to the caller's symbolic state. -/
import Derived.Test.YtgnfpcjndhnglaaX8
namespace Go.X
open Go.RowKit

/-- An argument, as data. -/
inductive AD where
  | v (x : Value)
  | d (x : D)
  | agg (l : List D)
  | ptr (T : Nat) (l : List D)

/-- A result, as data; 'own': an array in new memory, the caller's own. -/
inductive RD where
  | v (x : Value)
  | d (x : D)
  | agg (l : List D)
  | own (T : Nat) (x : D)

structure Ctr where
  pre : List AD → Prop
  res : List AD → List RD
  upd : List AD → List (List D)
  ro : Bool
  quiet : Bool

def AD.holds (X : Nat → Prop) (w : World) : AD → Value → Prop
  | .v x, c => c = x
  | .d x, c => x.holds X w c
  | .agg l, c => ∃ cs : List Value, c = .agg cs.toArray ∧ DL.holds X w l cs
  | .ptr _ _, _ => False

def isCells (w : World) (X : Nat → Prop) (b T : Nat) (l : List D) : Prop := ∃ us : List Value, w.heap[b]? = some (.cells us.toArray T (0, 0)) ∧ DL.holds X w l us

/-- Arguments and their values; the blocks of those that are pointers, in order. -/
def ADL (X : Nat → Prop) (w : World) : List AD → List Value → List Nat → Prop
  | [], [], [] => True
  | a :: as, c :: cs, bs =>
    match a, bs with
    | .ptr T l, b :: bs => (c = .pointer (some ⟨b, 0, none⟩) ∧ isCells w X b T l) ∧ ADL X w as cs bs
    | .ptr _ _, [] => False
    | a, bs => a.holds X w c ∧ ADL X w as cs bs
  | _, _, _ => False

def RD.holds (X : Nat → Prop) (w : World) (s0 : Nat) (Lo : Loc) : RD → Value → Prop
  | .v x, c => c = x
  | .d x, c => x.holds X w c
  | .agg l, c => ∃ cs : List Value, c = .agg cs.toArray ∧ DL.holds X w l cs
  | .own T x, c => c = Lo.val ∧ Lo.wf ∧ x.at X w Lo ∧ (Lo.cap ≠ 0 → s0 ≤ Lo.b ∧ ∃ cs : Array Value, w.heap[Lo.b]? = some (.cells cs T (0, 0)) ∧ Lo.o + Lo.cap * x.es ≤ cs.size)

def RDL.holds (X : Nat → Prop) (w : World) (s0 : Nat) (Lo : Loc) : List RD → List Value → Prop
  | [], [] => True
  | r :: rs, c :: cs => r.holds X w s0 Lo c ∧ RDL.holds X w s0 Lo rs cs
  | _, _ => False

def retVal : List Value → Value
  | [v] => v
  | vs => .tuple vs.toArray

/-- The one result that is owned. -/
def ownOf : List RD → Option (Nat × D)
  | [] => none
  | .own T x :: _ => some (T, x)
  | _ :: rs => ownOf rs
def ownCount : List RD → Nat
  | [] => 0
  | .own _ _ :: rs => ownCount rs + 1
  | _ :: rs => ownCount rs

def ptrTs : List AD → List Nat
  | [] => []
  | .ptr T _ :: as => T :: ptrTs as
  | _ :: as => ptrTs as

def PTL (X : Nat → Prop) (w : World) : List Nat → List Nat → List (List D) → Prop
  | [], [], [] => True
  | T :: Ts, b :: bs, l :: ls => isCells w X b T l ∧ PTL X w Ts bs ls
  | _, _, _ => False

/-- In which blocks what a call hands back may lie. -/
def After (w : World) (A : Nat → Prop) (Bs : List Nat) (own : Option (Nat × D)) (Lo : Loc) (b : Nat) : Prop :=
  (w.heap.size ≤ b ∨ A b) ∧ b ∉ Bs ∧ (own.isSome = true → Lo.cap ≠ 0 → b ≠ Lo.b)

/-- A FUNCTION KEEPS ITS CONTRACT. -/
def FnOk (P : Program) (f : Nat) (c : Ctr) : Prop :=
  ∀ (w : World) (A : Nat → Prop) (Bs : List Nat) (as : List AD) (vs : List Value), ADL (fun b => A b ∧ b ∉ Bs) w as vs Bs → Bs.Nodup → c.pre as →
    Calls P f vs.toArray w fun e w' => ∃ (rs : List Value) (Lo : Loc), e = .returned (retVal rs) ∧ Fr (· ∈ Bs) w w' ∧
      RDL.holds (After w A Bs (ownOf (c.res as)) Lo) w' w.heap.size Lo (c.res as) rs ∧ PTL (After w A Bs (ownOf (c.res as)) Lo) w' (ptrTs as) Bs (c.upd as)

/-! The caller's side -/
def arrR (ro : Bool) (h : List (Nat × R)) (n : Nat) : Option D :=
  match hfind h n with
  | some (.ro d) => some d
  | some (.own _ d) => cond ro none (some d)
  | _ => none

def dOf (ro : Bool) (h : List (Nat × R)) : SV → Option D
  | .b t => some (.v (.bool t))
  | .c x => cond x.oneCell' (some (.v x)) none
  | .nil => some (.v (.slice none 0 0))
  | .a n => arrR ro h n
  | _ => none

def dsOf (ro : Bool) (h : List (Nat × R)) : List SV → Option (List D)
  | [] => some []
  | s :: l => match dOf ro h s, dsOf ro h l with
    | some d, some ds => some (d :: ds)
    | _, _ => none

/-- (name, type, number of cells) of a lent variable -/
abbrev Lent := Nat × Nat × Nat

def adsOf (ro : Bool) (h : List (Nat × R)) : List SV → Option (List AD × List Lent)
  | [] => some ([], [])
  | s :: l => match adsOf ro h l with
    | none => none
    | some (as, ls) =>
      match s with
      | .b t => some (.v (.bool t) :: as, ls)
      | .c x => some (.v x :: as, ls)
      | .nil => some (.v (.slice none 0 0) :: as, ls)
      | .a n => match arrR ro h n with
        | some d => some (.d d :: as, ls)
        | none => none
      | .agg cs => match dsOf ro h cs with
        | some ds => some (.agg ds :: as, ls)
        | none => none
      | .p n 0 => match hfind h n with
        | some (.blk T cs) => match dsOf ro h cs with
          | some ds => some (.ptr T ds :: as, (n, T, cs.length) :: ls)
          | none => none
        | _ => none
      | _ => none

def unkH : List Lent → List (Nat × R) → List (Nat × R)
  | [], h => h
  | (n, T, len) :: ls, h => (n, .blk T (List.replicate len .unk)) :: unkH ls h

def freezeL (h : List (Nat × R)) : List SV → List (Nat × R)
  | [] => h
  | .a n :: l => freezeL (freezeH h n) l
  | _ :: l => freezeL h l
def freezeArgs (h : List (Nat × R)) : List SV → List (Nat × R)
  | [] => h
  | .a n :: l => freezeArgs (freezeH h n) l
  | .agg cs :: l => freezeArgs (freezeL h cs) l
  | .p n _ :: l => match hfind h n with
    | some (.blk _ cs) => freezeArgs (freezeL h cs) l
    | _ => freezeArgs h l
  | _ :: l => freezeArgs h l

def ptrsBack : List Lent → List (List D) → List (Nat × R) → Nat → (List (Nat × R) → Nat → Prop) → Prop
  | [], [], h, nx, k => k h nx
  | (n, T, _) :: ls, l :: ds, h, nx, k => instL l h nx fun ss h' nx' => ptrsBack ls ds ((n, .blk T ss) :: h') nx' k
  | _, _, _, _, _ => False

def resBack (own : Nat) : List RD → List (Nat × R) → Nat → (List SV → List (Nat × R) → Nat → Prop) → Prop
  | [], h, nx, k => k [] h nx
  | r :: rs, h, nx, k =>
    match r with
    | .v x => resBack own rs h nx fun ss => k (.c x :: ss)
    | .d x => instD x h nx fun s h' nx' => resBack own rs h' nx' fun ss => k (s :: ss)
    | .agg l => instL l h nx fun cs h' nx' => resBack own rs h' nx' fun ss => k (.agg cs :: ss)
    | .own _ _ => resBack own rs h nx fun ss => k (.a own :: ss)

def retS : List SV → SV
  | [s] => s
  | l => .tup l

def D.plain : D → Bool
  | .v _ => true
  | _ => false
/-- Nothing that is handed back leads to memory that the caller may own. -/
def RD.plain : RD → Bool
  | .v _ => true
  | .d x => x.plain
  | .agg l => l.all D.plain
  | .own _ (.ints _ _) => true
  | _ => false

def namesOf (ls : List Lent) : List Nat := ls.map (·.1)
def nodupB : List Nat → Bool
  | [] => true
  | n :: l => (l.all fun m => !Nat.beq n m) && nodupB l

def lensB : List (List D) → List Lent → Bool
  | [], [] => true
  | l :: ds, x :: ls => Nat.beq l.length x.2.2 && lensB ds ls
  | _, _ => false

def callX (c : Ctr) (args : List SV) (h : List (Nat × R)) (nx : Nat) (k : HK) : Prop :=
  match adsOf c.ro (cond c.ro (freezeArgs h args) h) args with
  | none => False
  | some (as, ls) =>
    c.pre as ∧ cond (lensB (c.upd as) ls && nodupB (namesOf ls) && Nat.ble (ownCount (c.res as)) 1 && (c.ro || ((c.res as).all RD.plain && (c.upd as).all (·.all D.plain))))
      (match ownOf (c.res as) with
      | none => ptrsBack ls (c.upd as) (unkH ls (cond c.ro (freezeArgs h args) h)) nx fun h1 nx1 => resBack 0 (c.res as) h1 nx1 fun ss h2 nx2 => k (retS ss) h2 nx2
      | some (T, x) => ptrsBack ls (c.upd as) ((nx, .own T x) :: unkH ls (cond c.ro (freezeArgs h args) h)) (nx + 1) fun h1 nx1 => resBack nx (c.res as) h1 nx1 fun ss h2 nx2 => k (retS ss) h2 nx2) False

/-- A call that only reads, and hands back scalars. -/
def scalarsOf : List RD → Option (List Value)
  | [] => some []
  | .v x :: rs => match scalarsOf rs with
    | some xs => some (x :: xs)
    | none => none
  | _ => none

def callQ (c : Ctr) (args : List SV) (h : List (Nat × R)) (k : SV → Prop) : Prop :=
  match adsOf false h args with
  | some (as, []) => match scalarsOf (c.res as), c.upd as with
    | some xs, [] => c.pre as ∧ k (retS (xs.map .c))
    | _, _ => False
  | _ => False
end Go.X
