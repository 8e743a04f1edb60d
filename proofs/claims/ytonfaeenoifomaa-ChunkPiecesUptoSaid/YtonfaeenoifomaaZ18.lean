/- One operation of a region, with its guard: symbolically. -/
import Derived.Test.YtonfaeenoifomaaZ17
namespace Go.Z
open Go.RowKit

def allT (ts : List Bool) : Prop := ∀ t, t ∈ ts → t = true

/-- One of two ways, by a truth value. -/
def sw (t : Bool) (A B : Prop) : Prop := Bool.rec B A t
theorem sw_iff {t : Bool} {A B : Prop} : sw t A B ↔ (t = true → A) ∧ (t = false → B) := by cases t <;> simp [sw]
theorem sw_true {A B : Prop} : sw true A B ↔ A := Iff.rfl
theorem sw_false {A B : Prop} : sw false A B ↔ B := Iff.rfl
def swc (want t : Bool) (A B : Prop) : Prop := cond want (sw t A B) (sw t B A)
theorem swc_spec {want t : Bool} {A B : Prop} (h : swc want t A B) : (t = want → A) ∧ (t = (!want) → B) := by
  cases want <;> cases t <;> simpa [swc, sw] using h
def allB : List Bool → Bool
  | [] => true
  | [t] => t
  | t :: l => t && allB l
theorem allB_iff : ∀ {l : List Bool}, allB l = true ↔ allT l
  | [] => by simp [allB, allT]
  | [t] => by simp [allB, allT]
  | t :: u :: l => by
    have := @allB_iff (u :: l)
    simp only [allB, Bool.and_eq_true, this]
    simp [allT]
theorem swT_spec {ctx : List Bool} {A B : Prop} (h : sw (allB ctx) A B) : (allT ctx → A) ∧ (¬ allT ctx → B) := by
  rw [sw_iff] at h
  refine ⟨fun hc => h.1 (allB_iff.2 hc), fun hc => h.2 ?_⟩
  cases hb : allB ctx with
  | false => rfl
  | true => exact absurd (allB_iff.1 hb) hc

mutual
/-- No name from nx on. -/
def below (nx : Nat) : SV → Bool
  | .b _ | .c _ | .nil | .arr _ _ => true
  | .p n _ | .e n _ _ _ | .a n | .q n | .m n => Nat.blt n nx
  | .agg l => belowL nx l
  | .tup l => belowL nx l
  | .f _ _ l => belowL nx l
  | _ => false
def belowL (nx : Nat) : List SV → Bool
  | [] => true
  | s :: l => below nx s && belowL nx l
end

def resolve1 (ctx : List Bool) (s : SV) (k : SV → Prop) : Prop :=
  match s with
  | .w ts s' => ts = ctx.drop (ctx.length - ts.length) ∧ k s'
  | s => k s

def resolveL (env : List (Nat × SV)) (ctx : List Bool) : List Operand → (List SV → Prop) → Prop
  | [], k => k []
  | x :: xs, k => match get env x with
    | some s => resolve1 ctx s fun s' => resolveL env ctx xs fun ss => k (s' :: ss)
    | none => False

/-- The same, without the conditions: only to foretell a result. -/
def peel (s : SV) : SV :=
  match s with
  | .w _ s' => s'
  | s => s
def peelL (env : List (Nat × SV)) : List Operand → Option (List SV)
  | [] => some []
  | x :: xs => match get env x, peelL env xs with
    | some s, some ss => some (peel s :: ss)
    | _, _ => none

inductive GM where
  | run
  | skip
  | under (ctx : List Bool)
  | split (d : Nat) (t want : Bool)

def guardM (ops : Array Oper) (env : List (Nat × SV)) : Option (Nat × Bool) → Option GM
  | none => some .run
  | some (j, want) =>
    match ops.toList[j]? with
    | some oj => match oj.dst with
      | some d => match efind env d with
        | some (.b t) => some (cond (t == want) .run .skip)
        | some (.c (.bool t)) => some (.split d t want)
        | some (.c (.tuple _)) => some .skip
        | some (.w ts (.b t)) => some (cond (t == want) (.under ts) .skip)
        | some (.w ts (.c (.bool t))) => some (.under (cond want t (!t) :: ts))
        | _ => none
      | none => none
    | none => none

/-- The value that is picked by an undecided test. -/
def joinS (t : Bool) (x y : SV) : Option SV :=
  match x, y with
  | .b true, .b u => some (.c (.bool (t || u)))
  | .b true, .c (.bool u) => some (.c (.bool (t || u)))
  | .b u, .b false => some (.c (.bool (t && u)))
  | .c (.bool u), .b false => some (.c (.bool (t && u)))
  | .c (.bool u), .c (.bool v) => some (.c (.bool (cond t u v)))
  | .c (.int k a), .c (.int k' b) => if k = k' then some (.c (.int k (cond t a b))) else none
  | .c (.string a), .c (.string b) => some (.c (.string (cond t a b)))
  | _, _ => none

/-- 'pick': the two values each may be there only where the test says so. -/
def pickQ (ctx : List Bool) (c x y : SV) (k : SV → Prop) : Prop :=
  resolve1 ctx c fun c' =>
    match c' with
    | .b true => resolve1 ctx x k
    | .b false => resolve1 ctx y k
    | .c (.bool t) => resolve1 (t :: ctx) x fun x' => resolve1 ((!t) :: ctx) y fun y' => match joinS t x' y' with
      | some r => k r
      | none => False
    | _ => False

def pickR (c x y : SV) : Option SV :=
  match peel c with
  | .b true => some (peel x)
  | .b false => some (peel y)
  | .c (.bool t) => joinS t (peel x) (peel y)
  | _ => none

/-- What a quiet operation will yield, foretold. -/
def foretell (P : Program) (C : CE) (op : Op) (vs : List SV) (h : List (Nat × R)) : Option SV :=
  match op, vs with
  | .move _, [s] => some s
  | .assign _, [s] => some s
  | .fieldAddr S _ f, [s] => match fldT P S f, s with
    | some off, .p n o => some (.p n (o + off))
    | some off, .e n es i o => some (.e n es i (o + off))
    | _, _ => none
  | .load T _, [.p n o] => match hfind h n with
    | some (.blk _ l) => ldBlk P T l o
    | some (.rblk _ l) => ldBlk P T l o
    | _ => none
  | .load T _, [.e n _ i o] => match arrOf h n, kindT P T with
    | some (.ints kk xs), some (false, _) => some (.c (.int kk (xs.getD i 0)))
    | some (.recs _ _ f), some (false, _) => match f i o with
      | .v x => some (.c x)
      | _ => none
    | _, _ => none
  | .nilCheck _, [s] => some s
  | .binOp op T _ _ _, [x, y] => match scal x, scal y with
    | some u, some v => match binV P op T u v with
      | some (_, r) => some (.c r)
      | none => none
    | _, _ => none
  | .unOp op _ _, [x] => match op, x with
    | .not, .b t => some (.b (!t))
    | .not, .c (.bool t) => some (.c (.bool (!t)))
    | .neg, .c (.int kk n) => some (.c (.int kk (kk.wrap (0 - n))))
    | .xor, .c (.int kk n) => some (.c (.int kk (bits .xor kk (if kk.signed then -1 else kk.max) n)))
    | _, _ => none
  | .convert _ dst _, [x] => match P.underlying dst, x with
    | some (.int kk), .c (.int _ n) => some (.c (.int kk (kk.wrap n)))
    | some .string, .c (.string s) => some (.c (.string s))
    | some .string, .nil => some (.c (.string (bstr [])))
    | some .string, .a n => match arrOf h n with
      | some (.ints _ xs) => some (.c (.string (bstr xs)))
      | _ => none
    | _, _ => none
  | .extract _ i, [.tup l] => l[i]?
  | .field T _ f, [.agg l] => match P.underlying T with
    | some (.struct fs) => match fs[f]? with
      | some fl => ldBlk P fl.type l fl.offset
      | none => none
    | _ => none
  | .indexAddr T _ _, [.a n, .c (.int _ z)] => match P.underlying T with
    | some (.slice e) => match kindT P e with
      | some (_, es) => some (.e n es z.toNat 0)
      | _ => none
    | _ => none
  | .indexAddr T _ _, [.p n o, .c (.int _ z)] => match P.underlying T with
    | some (.array _ e) => match kindT P e with
      | some (_, es) => some (.p n (o + z.toNat * es))
      | _ => none
    | _ => none
  | .lookup _ _ _ ok, [.m n, y] => match mapOf h n, scal y with
    | some (ks, vs), some key => match ks.idx key with
      | some o => some (cond ok (.tup [.c (vs.getAt o), .c (.bool o.isSome)]) (.c (vs.getAt o)))
      | none => none
    | _, _ => none
  | .makeFunc fn first _, vs => match fn with
    | .func f => some (.f f first.toList.length vs)
    | _ => none
  | .index _ _ _, [.c (.string s), .c (.int _ z)] => some (.c (.int .u8 ((s.data.toList.getD z.toNat 0).toNat : Int)))
  | .call c, vs => match c.callee, vs with
    | .builtin .len, [x] => match x with
      | .c (.string s) => some (.c (.int .i64 (s.size : Int)))
      | .nil => some (.c (.int .i64 0))
      | .a n => match arrOf h n with
        | some d => some (.c (.int .i64 (d.len : Int)))
        | none => none
      | .m n => match mapOf h n with
        | some (ks, _) => some (.c (.int .i64 (ks.len : Int)))
        | none => none
      | _ => none
    | .value _, .f f nf caps :: args => match C f with
      | some ct => match argsOf P false h ct.own (paramsOf P f) (caps.take nf ++ (args ++ caps.drop nf)) with
        | some (as, [], _) => match scalarsOf (ct.res as) with
          | some xs => some (retS (xs.map .c))
          | none => none
        | _ => none
      | none => none
    | _, _ => none
  | _, _ => none

/-- Does it only read? -/
def isQuiet (P : Program) (C : CE) (op : Op) (env : List (Nat × SV)) : Bool :=
  match op with
  | .move _ | .assign _ | .pick .. | .fieldAddr .. | .load .. | .nilCheck _ | .binOp .. | .unOp .. | .extract .. | .field .. | .indexAddr .. | .index .. | .slice .. | .makeFunc .. | .build .. | .lookup .. => true
  | .convert _ dst _ => match P.underlying dst with
    | some (.slice _) => false
    | _ => true
  | .call c => match c.callee with
    | .builtin .len => true
    | .value x => match get env x with
      | some (.f f _ _) => match C f with
        | some ct => ct.quiet
        | none => false
      | _ => false
    | _ => false
  | _ => false

/-- A quiet operation under a context. -/
def stepOQ (P : Program) (C : CE) (ctx : List Bool) (op : Op) (env : List (Nat × SV)) (h : List (Nat × R)) (nx : Nat) (k : HK) : Prop :=
  match op with
  | .pick c x y => match get env c, get env x, get env y with
    | some c', some x', some y' => pickQ ctx c' x' y' fun r => k r h nx
    | _, _, _ => False
  | .call cl => match cl.callee with
    | .value _ => resolveL env ctx op.operands.toList fun vs => match vs with
      | .f f nf caps :: args => match C f with
        | some ct => callQ P (paramsOf P f) ct (caps.take nf ++ (args ++ caps.drop nf)) h fun r => k r h nx
        | none => False
      | _ => False
    | _ => resolveL env ctx op.operands.toList fun vs => stepQ P op vs h nx k
  | _ => resolveL env ctx op.operands.toList fun vs => stepQ P op vs h nx k

def foretellO (P : Program) (C : CE) (op : Op) (env : List (Nat × SV)) (h : List (Nat × R)) : Option SV :=
  match op with
  | .pick c x y => match get env c, get env x, get env y with
    | some c', some x', some y' => pickR c' x' y'
    | _, _, _ => none
  | _ => match peelL env op.operands.toList with
    | some vs => foretell P C op vs h
    | none => none

def putS (N : Nat) (dst : Option Nat) (s : SV) (env : List (Nat × SV)) (k : List (Nat × SV) → Prop) : Prop :=
  match dst with
  | some d => cond (Nat.blt d N) (k ((d, s) :: env)) False
  | none => k env

/-- A guard that is not known: where the result can be foretold, the operation is carried out under it; else the ways part. -/
def guardX (P : Program) (C : CE) (sp : Bool) (ops : Array Oper) (env : List (Nat × SV)) (h : List (Nat × R)) (nx : Nat) (o : Oper) : Option GM :=
  match guardM ops env o.guard with
  | some (.split d t want) => match cond (!sp && isQuiet P C o.op env) (foretellO P C o.op env h) none with
    | some r => cond (below nx r) (some (.under [cond want t (!t)])) (some (.split d t want))
    | none => some (.split d t want)
  | m => m

/-- The operations of a region, one behind the other. 'quiet': only such as read. -/
def execOps (P : Program) (C : CE) (N : Nat) (sp quiet : Bool) (ops : Array Oper) : List Oper → List (Nat × SV) → List (Nat × R) → Nat →
    (List (Nat × SV) → List (Nat × R) → Nat → Prop) → Prop
  | [], env, h, nx, k => k env h nx
  | o :: rest, env, h, nx, k =>
    match guardX P C sp ops env h nx o with
    | none => False
    | some .skip => putS N o.dst (.c undef) env fun env' => execOps P C N sp quiet ops rest env' h nx k
    | some .run =>
      cond (isQuiet P C o.op env)
        (stepOQ P C [] o.op env h nx fun r h' nx' => putS N o.dst r env fun env' => execOps P C N sp quiet ops rest env' h' nx' k)
        (cond quiet False
          (resolveL env [] o.op.operands.toList fun vs => stepL P C o.op vs h nx fun r h' nx' => putS N o.dst r env fun env' => execOps P C N sp quiet ops rest env' h' nx' k))
    | some (.split d t want) =>
      swc want t (cond (isQuiet P C o.op ((d, .b want) :: env))
        (stepOQ P C [] o.op ((d, .b want) :: env) h nx fun r h' nx' => putS N o.dst r ((d, .b want) :: env) fun env' => execOps P C N sp quiet ops rest env' h' nx' k)
        (cond quiet False
          (resolveL ((d, .b want) :: env) [] o.op.operands.toList fun vs => stepL P C o.op vs h nx fun r h' nx' => putS N o.dst r ((d, .b want) :: env) fun env' => execOps P C N sp quiet ops rest env' h' nx' k)))
      (putS N o.dst (.c undef) ((d, .b (!want)) :: env) fun env' => execOps P C N sp quiet ops rest env' h nx k)
    | some (.under ctx) =>
      match cond (isQuiet P C o.op env) (foretellO P C o.op env h) none with
      | some r => cond (below nx r) (sw (allB ctx) (stepOQ P C ctx o.op env h nx fun r' _ _ => r' = r) True ∧ putS N o.dst (.w ctx r) env fun env' => execOps P C N sp quiet ops rest env' h nx k) False
      | none =>
        sw (allB ctx) (cond (isQuiet P C o.op env)
          (stepOQ P C ctx o.op env h nx fun r h' nx' => putS N o.dst (.w ctx r) env fun env' => execOps P C N sp quiet ops rest env' h' nx' k)
          (cond quiet False
            (resolveL env ctx o.op.operands.toList fun vs => stepL P C o.op vs h nx fun r h' nx' => putS N o.dst (.w ctx r) env fun env' => execOps P C N sp quiet ops rest env' h' nx' k)))
        (putS N o.dst (.c undef) env fun env' => execOps P C N sp quiet ops rest env' h nx k)
end Go.Z
