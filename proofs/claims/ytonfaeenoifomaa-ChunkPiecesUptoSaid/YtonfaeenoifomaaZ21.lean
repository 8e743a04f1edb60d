/- Code, symbolically: sequences, tests, blocks, loops with their annotations. -/
import Derived.Test.YtonfaeenoifomaaZ20c
namespace Go.Z
open Go.RowKit

/-! What holds at a loop's head -/
/-- A cell of a variable: what it is; or: as the loop began. -/
inductive OI where
  | o (x : O)
  | same
inductive G where
  | c (x : O)
  | blk (l : List OI)
abbrev Item := Nat × G

structure LoopAnn where
  γ : Type
  pre : γ → Prop
  μ : γ → Nat
  items : γ → List Item

/-- One annotation; or one for each of what the proof chooses as the loop begins. -/
inductive LoopF where
  | one (A : LoopAnn)
  | fam (π : Type) (A : π → LoopAnn)
instance : Coe LoopAnn LoopF := ⟨.one⟩

/-- loop: of each loop, by its first region. split: regions whose guards part the ways. unroll: how often a loop is carried out. -/
structure Ann where
  loop : Nat → Option LoopF
  split : Nat → Bool
  unroll : Nat → Nat

inductive Ex where
  | normal
  | exit (id : Nat)
  | ret

def dstsOps : List Oper → List Nat
  | [] => []
  | o :: l => match o.dst with
    | some d => d :: dstsOps l
    | none => dstsOps l

def dsts : Code → List Nat
  | .region _ ops _ => dstsOps ops.toList
  | .seq a b => dsts a ++ dsts b
  | .cond _ a b => dsts a ++ dsts b
  | .block _ c => dsts c
  | .loop c => dsts c
  | .scope c => dsts c
  | _ => []

def firstRegion : Code → Option Nat
  | .region id _ _ => some id
  | .seq a b => match firstRegion a with
    | some i => some i
    | none => firstRegion b
  | .cond _ a b => match firstRegion a with
    | some i => some i
    | none => firstRegion b
  | .block _ c => firstRegion c
  | .loop c => firstRegion c
  | .scope c => firstRegion c
  | _ => none

/-- The slots that are none of W, each once. -/
def filterEnv : List Nat → List (Nat × SV) → List (Nat × SV)
  | _, [] => []
  | W, (t, s) :: l => cond (memB t W) (filterEnv W l) ((t, s) :: filterEnv (t :: W) l)
/-- The names that are none of W, each once. -/
def filterH : List Nat → List (Nat × R) → List (Nat × R)
  | _, [] => []
  | W, (t, s) :: l => cond (memB t W) (filterH W l) ((t, s) :: filterH (t :: W) l)

/-- The variable behind a slot. -/
def blkAt (env : List (Nat × SV)) (h : List (Nat × R)) (t : Nat) : Option (Nat × Nat × List SV) :=
  match efind env t with
  | some (.p m 0) => match hfind h m with
    | some (.blk T cs) => some (m, T, cs)
    | _ => none
  | _ => none

def instOIs : List OI → List SV → List (Nat × R) → Nat → (List SV → List (Nat × R) → Nat → Prop) → Prop
  | [], [], h, nx, k => k [] h nx
  | x :: l, s0 :: ss0, h, nx, k =>
    match x with
    | .o x => instO x h nx fun s h' nx' => instOIs l ss0 h' nx' fun ss h'' nx'' => k (s :: ss) h'' nx''
    | .same => instOIs l ss0 h nx fun ss h'' nx'' => k (s0 :: ss) h'' nx''
  | _, _, _, _, _ => False

/-- The loop's head: slots; resources. env1, h1: as the loop began. -/
def instIt (env1 : List (Nat × SV)) (h1 : List (Nat × R)) : List Item → List (Nat × R) → Nat → (List (Nat × SV) → List (Nat × R) → Nat → Prop) → Prop
  | [], h, nx, k => k [] h nx
  | (t, g) :: is, h, nx, k =>
    match g with
    | .c x => instO x h nx fun s h' nx' => instIt env1 h1 is h' nx' fun es h'' nx'' => k ((t, s) :: es) h'' nx''
    | .blk l => match blkAt env1 h1 t with
      | some (m, T, cs) => instOIs l cs h nx fun ss h' nx' => instIt env1 h1 is ((m, .blk T ss) :: h') nx' k
      | none => False

def matchOIs (h : List (Nat × R)) : List OI → List SV → List SV → NK → Prop
  | [], [], [], k => k [] []
  | x :: l, s0 :: ss0, s :: ss, k =>
    match x with
    | .o x => matchO h x s fun on rn => matchOIs h l ss0 ss fun on' rn' => k (on ++ on') (rn ++ rn')
    | .same => s = s0 ∧ matchOIs h l ss0 ss k
  | _, _, _, _ => False

def matchIt (env1 : List (Nat × SV)) (h1 : List (Nat × R)) (env : List (Nat × SV)) (h : List (Nat × R)) : List Item → NK → Prop
  | [], k => k [] []
  | (t, g) :: is, k =>
    match g with
    | .c x => match efind env t with
      | some s => matchO h x s fun on rn => matchIt env1 h1 env h is fun on' rn' => k (on ++ on') (rn ++ rn')
      | none => False
    | .blk l => match blkAt env1 h1 t with
      | some (m, T, cs0) => match hfind h m with
        | some (.blk T' cs) => cond (Nat.beq T T') (matchOIs h l cs0 cs fun on rn => matchIt env1 h1 env h is fun on' rn' => k ((m :: on) ++ on') (rn ++ rn')) False
        | _ => False
      | none => False

/-- Every name that is carried is new, or was given up. -/
def okMs (base : Nat) (drops : List Nat) : List Nat → Bool
  | [] => true
  | m :: l => (Nat.ble base m || memB m drops) && okMs base drops l

def slotsI : List Item → List Nat
  | [] => []
  | (t, .c _) :: is => t :: slotsI is
  | _ :: is => slotsI is

def keptE (env : List (Nat × SV)) : List (Nat × SV) → Prop
  | [] => True
  | (t, s) :: l => efind env t = some s ∧ keptE env l
def keptH (h : List (Nat × R)) : List (Nat × R) → Prop
  | [] => True
  | (t, s) :: l => hfind h t = some s ∧ keptH h l

/-- Only reading, as far as the text tells. -/
def quietsK (P : Program) (C : CE) : List Oper → Bool
  | [] => true
  | o :: l => isQuiet P C o.op [] && quietsK P C l

abbrev EK := Ex → List (Nat × SV) → List (Nat × R) → Nat → Prop

/-- A loop's body, carried out so often at most. -/
def rounds (body : List (Nat × SV) → List (Nat × R) → Nat → EK → Prop) : Nat → List (Nat × SV) → List (Nat × R) → Nat → EK → Prop
  | 0, _, _, _, _ => False
  | n + 1, env, h, nx, k => body env h nx fun e env' h' nx' => match e with
    | .normal => rounds body n env' h' nx' k
    | e => k e env' h' nx'

/-! What is done with a state behind each region: it is reckoned out, so that nothing is reckoned twice. -/
def seqN (n : Nat) (k : Nat → Prop) : Prop := match n with
  | 0 => k 0
  | m + 1 => k (m + 1)
def seqR (r : R) (k : R → Prop) : Prop := match r with
  | .dead => k .dead
  | .ro d => k (.ro d)
  | .own T d => k (.own T d)
  | .blk T l => k (.blk T l)
  | .rblk T l => k (.rblk T l)
  | .map a b => k (.map a b)
  | .rmap a b => k (.rmap a b)
def seqH : List (Nat × R) → (List (Nat × R) → Prop) → Prop
  | [], k => k []
  | (n, r) :: t, k => seqN n fun n' => seqR r fun r' => seqH t fun t' => k ((n', r') :: t')
def seqS (s : SV) (k : SV → Prop) : Prop := match s with
  | .unk => k .unk
  | .b t => k (.b t)
  | .c v => k (.c v)
  | .p n o => k (.p n o)
  | .e n es i o => k (.e n es i o)
  | .a n => k (.a n)
  | .nil => k .nil
  | .agg l => k (.agg l)
  | .tup l => k (.tup l)
  | .f fn nf l => k (.f fn nf l)
  | .arr kk xs => k (.arr kk xs)
  | .q n => k (.q n)
  | .m n => k (.m n)
  | .w ts v => k (.w ts v)
def seqE : List (Nat × SV) → (List (Nat × SV) → Prop) → Prop
  | [], k => k []
  | (n, s) :: t, k => seqS s fun s' => seqE t fun t' => k ((n, s') :: t')
theorem seqN_iff {n : Nat} {k : Nat → Prop} : seqN n k ↔ k n := by cases n <;> exact Iff.rfl
theorem seqR_iff {r : R} {k : R → Prop} : seqR r k ↔ k r := by cases r <;> exact Iff.rfl
theorem seqS_iff {s : SV} {k : SV → Prop} : seqS s k ↔ k s := by cases s <;> exact Iff.rfl
theorem seqH_iff : ∀ {h : List (Nat × R)} {k : List (Nat × R) → Prop}, seqH h k ↔ k h
  | [], _ => Iff.rfl
  | (n, r) :: t, k => by simp only [seqH, seqN_iff, seqR_iff, seqH_iff (h := t)]
theorem seqE_iff : ∀ {h : List (Nat × SV)} {k : List (Nat × SV) → Prop}, seqE h k ↔ k h
  | [], _ => Iff.rfl
  | (n, r) :: t, k => by simp only [seqE, seqS_iff, seqE_iff (h := t)]
def doneK (k : EK) (env : List (Nat × SV)) (h : List (Nat × R)) (nx : Nat) : Prop := seqE env fun env' => seqH h fun h' => seqN nx fun nx' => k .normal env' h' nx'
theorem doneK_iff {k : EK} {env : List (Nat × SV)} {h : List (Nat × R)} {nx : Nat} : doneK k env h nx ↔ k .normal env h nx := by
  simp only [doneK, seqE_iff, seqH_iff, seqN_iff]

/-- A loop by its annotation. -/
def loopX (_P : Program) (body : List (Nat × SV) → List (Nat × R) → Nat → EK → Prop) (A : LoopAnn) (D : List Nat) (env : List (Nat × SV)) (h : List (Nat × R)) (nx : Nat) (k : EK) : Prop :=
  ∃ g0 : A.γ, A.pre g0 ∧ matchIt env h env h (A.items g0) fun on rn => (nodupB on && disjB rn on) = true ∧ ∀ g : A.γ, A.pre g →
    instIt env h (A.items g) (deads (on ++ rn) h) nx fun es h2 nx2 =>
      body (es ++ filterEnv (slotsI (A.items g) ++ D) env) h2 nx2 fun e env' h' nx' => match e with
        | .normal => ∃ g' : A.γ, A.pre g' ∧ A.μ g' < A.μ g ∧ (matchIt env h env' h' (A.items g') fun on' rn' => (nodupB on' && disjB rn' on' && okMs nx (on ++ rn) (on' ++ rn')) = true) ∧
            keptE env' (filterEnv (slotsI (A.items g') ++ D) env) ∧ keptH h' (filterH (on ++ rn) h)
        | e => k e env' h' nx'

def exec (P : Program) (C : CE) (N : Nat) (ann : Ann) : Code → List (Nat × SV) → List (Nat × R) → Nat → EK → Prop
  | .skip, env, h, nx, k => k .normal env h nx
  | .label _, env, h, nx, k => k .normal env h nx
  | .ret, env, h, nx, k => k .ret env h nx
  | .exit id, env, h, nx, k => k (.exit id) env h nx
  | .region id ops draw, env, h, nx, k =>
    cond draw
      (cond (quietsK P C ops.toList)
        (cond (Region.lexB .any ops) (execOps P C N (ann.split id) true ops ops.toList env h nx (doneK k)) False)
        (cond (Region.noSelect ops) (stepAny P C N ops ops.size (Array.replicate ops.size false) [] env h nx (doneK k)) False))
      (execOps P C N (ann.split id) false ops ops.toList env h nx (doneK k))
  | .seq a b, env, h, nx, k => exec P C N ann a env h nx fun e env' h' nx' => match e with
    | .normal => exec P C N ann b env' h' nx' k
    | e => k e env' h' nx'
  | .cond c x y, env, h, nx, k =>
    match get env c with
    | some (.b true) => exec P C N ann x env h nx k
    | some (.b false) => exec P C N ann y env h nx k
    | some (.c (.bool t)) => sw t (exec P C N ann x env h nx k) (exec P C N ann y env h nx k)
    | _ => False
  | .block id c, env, h, nx, k => exec P C N ann c env h nx fun e env' h' nx' => match e with
    | .exit i => cond (Nat.beq i id) (k .normal env' h' nx') (k (.exit i) env' h' nx')
    | e => k e env' h' nx'
  | .loop c, env, h, nx, k =>
    match firstRegion c with
    | none => False
    | some r => match ann.loop r with
      | none => rounds (exec P C N ann c) (ann.unroll r) env h nx k
      | some (.one A) => loopX P (exec P C N ann c) A (dsts c) env h nx k
      | some (.fam _ F) => ∃ p, loopX P (exec P C N ann c) (F p) (dsts c) env h nx k
  | _, _, _, _, _ => False
end Go.Z
