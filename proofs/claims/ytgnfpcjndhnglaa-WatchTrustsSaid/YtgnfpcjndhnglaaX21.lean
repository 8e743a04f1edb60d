/- Code, symbolically: sequences, tests, blocks, loops with their annotations. -/
import Derived.Test.YtgnfpcjndhnglaaX20c
namespace Go.X
open Go.RowKit

/-! What holds at a loop's head -/
inductive CI where
  | v (x : Value)
  | own (T : Nat) (d : D)
  | ro (d : D)
  | unk
  | same
inductive G where
  | c (x : CI)
  | blk (l : List CI)
abbrev Item := Nat × G

structure LoopAnn where
  γ : Type
  pre : γ → Prop
  μ : γ → Nat
  items : γ → List Item

inductive Ex where
  | normal
  | exit (id : Nat)
  | ret

def dstsOps : List Oper → List Nat
  | [] => []
  | o :: l => match o.dst with
    | some d => d :: dstsOps l
    | none => dstsOps l

def dsts : Code → List Nat
  | .region _ ops _ => dstsOps ops.toList
  | .seq a b => dsts a ++ dsts b
  | .cond _ a b => dsts a ++ dsts b
  | .block _ c => dsts c
  | .loop c => dsts c
  | .scope c => dsts c
  | _ => []

def firstRegion : Code → Option Nat
  | .region id _ _ => some id
  | .seq a b => match firstRegion a with
    | some i => some i
    | none => firstRegion b
  | .cond _ a b => match firstRegion a with
    | some i => some i
    | none => firstRegion b
  | .block _ c => firstRegion c
  | .loop c => firstRegion c
  | .scope c => firstRegion c
  | _ => none

def memB (n : Nat) : List Nat → Bool
  | [] => false
  | m :: l => Nat.beq m n || memB n l

/-- The slots that are none of W, each once. -/
def filterEnv : List Nat → List (Nat × SV) → List (Nat × SV)
  | _, [] => []
  | W, (t, s) :: l => cond (memB t W) (filterEnv W l) ((t, s) :: filterEnv (t :: W) l)
/-- The names that are none of W, each once. -/
def filterH : List Nat → List (Nat × R) → List (Nat × R)
  | _, [] => []
  | W, (t, s) :: l => cond (memB t W) (filterH W l) ((t, s) :: filterH (t :: W) l)

/-- The names' first number; what it stands for. -/
def ciS (x : CI) (nx : Nat) : SV × List (Nat × R) × Nat :=
  match x with
  | .v x => (.c x, [], nx)
  | .own T d => (.a nx, [(nx, .own T d)], nx + 1)
  | .ro d => (.a nx, [(nx, .ro d)], nx + 1)
  | .unk => (.unk, [], nx)
  | .same => (.unk, [], nx)

def ciL : List CI → Nat → List SV × List (Nat × R) × Nat
  | [], nx => ([], [], nx)
  | x :: l, nx =>
    match ciS x nx with
    | (s, hs, nx1) => match ciL l nx1 with
      | (ss, hs', nx2) => (s :: ss, hs ++ hs', nx2)

/-- The lent variable behind a slot. -/
def blkAt (env : List (Nat × SV)) (h : List (Nat × R)) (t : Nat) : Option (Nat × Nat × List SV) :=
  match efind env t with
  | some (.p m 0) => match hfind h m with
    | some (.blk T cs) => some (m, T, cs)
    | _ => none
  | _ => none

/-- The loop's head: slots; resources; the next name. -/
def headI (env : List (Nat × SV)) (h : List (Nat × R)) : List Item → Nat → Option (List (Nat × SV) × List (Nat × R) × Nat)
  | [], nx => some ([], [], nx)
  | (t, g) :: is, nx =>
    match g with
    | .c x => match ciS x nx with
      | (s, hs, nx1) => match headI env h is nx1 with
        | some (es, hs', nx2) => some ((t, s) :: es, hs ++ hs', nx2)
        | none => none
    | .blk l => match blkAt env h t, ciL l nx with
      | some (m, T, cs), (ss, hs, nx1) => match headI env h is nx1 with
        | some (es, hs', nx2) => cond (Nat.beq l.length cs.length) (some (es, (m, .blk T ss) :: (hs ++ hs'), nx2)) none
        | none => none
      | none, _ => none

/-- Arrays that the loop's own slots and variables hold as it begins. -/
def arrsS : List SV → List Nat
  | [] => []
  | .a n :: l => n :: arrsS l
  | _ :: l => arrsS l
def dropsI (env : List (Nat × SV)) (h : List (Nat × R)) : List Item → List Nat
  | [] => []
  | (t, g) :: is =>
    match g with
    | .c _ => match efind env t with
      | some (.a n) => n :: dropsI env h is
      | _ => dropsI env h is
    | .blk _ => match blkAt env h t with
      | some (_, _, cs) => arrsS cs ++ dropsI env h is
      | none => dropsI env h is
def blksI (env : List (Nat × SV)) (h : List (Nat × R)) : List Item → List Nat
  | [] => []
  | (t, g) :: is =>
    match g with
    | .c _ => blksI env h is
    | .blk _ => match blkAt env h t with
      | some (m, _, _) => m :: blksI env h is
      | none => blksI env h is

def D.nilP : D → Prop
  | .v _ => False
  | .ints _ xs => xs = []
  | .recs _ n _ => n = 0

def matchV : Value → Value → Prop
  | .int k a, .int k' b => if k = k' then a = b else False
  | .bool a, .bool b => a = b
  | .string a, .string b => a = b
  | u, x => u = x

def D.eqv : D → D → Prop
  | .ints k xs, .ints k' ys => if k = k' then xs = ys else False
  | .recs es n f, .recs es' n' g => cond (Nat.beq es es') (n = n' ∧ ∀ i, i < n → ∀ j, j < es → f i j = g i j) False
  | _, _ => False

/-- Of each name of the head: its name now (none: a nil slice); whether it is owned now. -/
abbrev Ren := List (Option Nat × Bool)

def matchC (x : CI) (s : SV) (h : List (Nat × R)) (k : Ren → Prop) : Prop :=
  match x with
  | .v x => match s with
    | .b t => matchV (.bool t) x ∧ k []
    | .c y => matchV y x ∧ k []
    | _ => False
  | .own T d => match s with
    | .a m => match hfind h m with
      | some (.own T' d') => cond (Nat.beq T T') (d'.eqv d ∧ k [(some m, true)]) False
      | _ => False
    | .nil => d.nilP ∧ k [(none, false)]
    | _ => False
  | .ro d => match s with
    | .a m => match hfind h m with
      | some (.own _ d') => d'.eqv d ∧ k [(some m, true)]
      | some (.ro d') => d'.eqv d ∧ k [(some m, false)]
      | _ => False
    | .nil => d.nilP ∧ k [(none, false)]
    | _ => False
  | .unk => k []
  | .same => False

def matchL : List CI → List SV → List (Nat × R) → (Ren → Prop) → Prop
  | [], [], _, k => k []
  | x :: l, s :: ss, h, k => matchC x s h fun ρ => matchL l ss h fun ρ' => k (ρ ++ ρ')
  | _, _, _, _ => False

/-- env1, h1: as the loop began (for the variables' names); env, h: now. -/
def matchI (env1 : List (Nat × SV)) (h1 : List (Nat × R)) (env : List (Nat × SV)) (h : List (Nat × R)) : List Item → (Ren → Prop) → Prop
  | [], k => k []
  | (t, g) :: is, k =>
    match g with
    | .c x => match efind env t with
      | some s => matchC x s h fun ρ => matchI env1 h1 env h is fun ρ' => k (ρ ++ ρ')
      | none => False
    | .blk l => match blkAt env1 h1 t with
      | some (m, T, _) => match hfind h m with
        | some (.blk T' cs) => cond (Nat.beq T T') (matchL l cs h fun ρ => matchI env1 h1 env h is fun ρ' => k (ρ ++ ρ')) False
        | _ => False
      | none => False

def ownMs : Ren → List Nat
  | [] => []
  | (some m, true) :: ρ => m :: ownMs ρ
  | _ :: ρ => ownMs ρ

/-- Every owned array that is carried is new, or was dropped. -/
def okMs (base : Nat) (drops : List Nat) : List Nat → Bool
  | [] => true
  | m :: l => (Nat.ble base m || memB m drops) && okMs base drops l

def slotsI : List Item → List Nat
  | [] => []
  | (t, .c _) :: is => t :: slotsI is
  | _ :: is => slotsI is

/-- The state (env, h) matches the loop's head. (env1, h1, base: as the loop began.) -/
def intoHead (env1 : List (Nat × SV)) (h1 : List (Nat × R)) (base : Nat) (is : List Item) (env : List (Nat × SV)) (h : List (Nat × R)) : Prop :=
  matchI env1 h1 env h is fun ρ => (nodupB (ownMs ρ) && okMs base (dropsI env1 h1 is) (ownMs ρ)) = true

def keptE (env : List (Nat × SV)) : List (Nat × SV) → Prop
  | [] => True
  | (t, s) :: l => efind env t = some s ∧ keptE env l
def keptH (h : List (Nat × R)) : List (Nat × R) → Prop
  | [] => True
  | (t, s) :: l => hfind h t = some s ∧ keptH h l

/-- Only reading, as far as the text tells. -/
def quietsK (C : Nat → Option Ctr) : List Oper → Bool
  | [] => true
  | o :: l => isQuiet C o.op [] && quietsK C l

/-- 'same': what stood there as the loop began. -/
def fixC (x : CI) (s : SV) : CI :=
  match x with
  | .same => match s with
    | .c v => .v v
    | .b t => .v (.bool t)
    | _ => .same
  | x => x
def fixL : List CI → List SV → List CI
  | x :: l, s :: ss => fixC x s :: fixL l ss
  | l, _ => l
def fixI (env : List (Nat × SV)) (h : List (Nat × R)) : List Item → List Item
  | [] => []
  | (t, .c x) :: is => match efind env t with
    | some s => (t, .c (fixC x s)) :: fixI env h is
    | none => (t, .c x) :: fixI env h is
  | (t, .blk l) :: is => match blkAt env h t with
    | some (_, _, cs) => (t, .blk (fixL l cs)) :: fixI env h is
    | none => (t, .blk l) :: fixI env h is

def exec (P : Program) (C : Nat → Option Ctr) (N : Nat) (ann : Nat → Option LoopAnn) : Code → List (Nat × SV) → List (Nat × R) → Nat →
    (Ex → List (Nat × SV) → List (Nat × R) → Nat → Prop) → Prop
  | .skip, env, h, nx, k => k .normal env h nx
  | .label _, env, h, nx, k => k .normal env h nx
  | .ret, env, h, nx, k => k .ret env h nx
  | .exit id, env, h, nx, k => k (.exit id) env h nx
  | .region _ ops draw, env, h, nx, k =>
    cond draw
      (cond (quietsK C ops.toList)
        (cond (Region.lexB .any ops) (execOps P C N true ops ops.toList env h nx fun env' h' nx' => k .normal env' h' nx') False)
        (cond (Region.noSelect ops) (stepAny P C N ops ops.size (Array.replicate ops.size false) [] env h nx fun env' h' nx' => k .normal env' h' nx') False))
      (execOps P C N false ops ops.toList env h nx fun env' h' nx' => k .normal env' h' nx')
  | .seq a b, env, h, nx, k => exec P C N ann a env h nx fun e env' h' nx' => match e with
    | .normal => exec P C N ann b env' h' nx' k
    | e => k e env' h' nx'
  | .cond c x y, env, h, nx, k =>
    match get env c with
    | some (.b true) => exec P C N ann x env h nx k
    | some (.b false) => exec P C N ann y env h nx k
    | some (.c (.bool t)) => (t = true → exec P C N ann x env h nx k) ∧ (t = false → exec P C N ann y env h nx k)
    | _ => False
  | .block id c, env, h, nx, k => exec P C N ann c env h nx fun e env' h' nx' => match e with
    | .exit i => cond (Nat.beq i id) (k .normal env' h' nx') (k (.exit i) env' h' nx')
    | e => k e env' h' nx'
  | .loop c, env, h, nx, k =>
    match firstRegion c with
    | none => False
    | some r => match ann r with
      | none => False
      | some A => ∃ g0 : A.γ, A.pre g0 ∧ intoHead env h nx (fixI env h (A.items g0)) env h ∧ ∀ g : A.γ, A.pre g →
          match headI env h (fixI env h (A.items g)) nx with
          | none => False
          | some (es, hs, nx2) =>
            exec P C N ann c (es ++ filterEnv (slotsI (fixI env h (A.items g)) ++ dsts c) env) (hs ++ filterH (dropsI env h (fixI env h (A.items g)) ++ blksI env h (fixI env h (A.items g))) h) nx2 fun e env' h' nx' => match e with
              | .normal => ∃ g' : A.γ, A.pre g' ∧ A.μ g' < A.μ g ∧ intoHead env h nx (fixI env h (A.items g')) env' h' ∧
                  keptE env' (filterEnv (slotsI (fixI env h (A.items g')) ++ dsts c) env) ∧ keptH h' (filterH (dropsI env h (fixI env h (A.items g')) ++ blksI env h (fixI env h (A.items g'))) h)
              | e => k e env' h' nx'
  | _, _, _, _, _ => False
end Go.X
