/- The ways of requests, as plain functions of messages, nodes and names. -/
import Derived.Test.YtgnfpcjndhnglaaY27
namespace Go.YM
open Go.Y

structure AvpR where
  code : Int
  vendor : Int
  must : Bool
  prot : Bool
  data : List Int
structure MsgR where
  b0 : Bool
  b1 : Bool
  b2 : Bool
  b3 : Bool
  n0 : Int
  n1 : Int
  n2 : Int
  n3 : Int
  avps : List AvpR
structure RtR where
  realm : ByteArray
  via : List Int
structure NdR where
  host : ByteArray
  realm : ByteArray
  serves : Bool
  peers : List Int
  routes : List RtR
structure ScR where
  n : NdR
  names : List ByteArray
  up : List Int
  fr : Int
  ks : List ByteArray
  vs : List Bool

def noStr : ByteArray := ⟨#[]⟩
def noAvp : AvpR := ⟨0, 0, false, false, []⟩
def noRt : RtR := ⟨noStr, []⟩

def avpCell (l : List AvpR) (i j : Nat) : D :=
  match j with
  | 0 => .v (.int .u32 (l.getD i noAvp).code)
  | 1 => .v (.int .u32 (l.getD i noAvp).vendor)
  | 2 => .v (.bool (l.getD i noAvp).must)
  | 3 => .v (.bool (l.getD i noAvp).prot)
  | _ => .ints .u8 (l.getD i noAvp).data
def rtCell (l : List RtR) (i j : Nat) : D :=
  match j with
  | 0 => .v (.string (l.getD i noRt).realm)
  | _ => .ints .i64 (l.getD i noRt).via
def strCell (l : List ByteArray) (i _j : Nat) : D := .v (.string (l.getD i noStr))

def vi : D → Int
  | .v (.int _ n) => n
  | _ => 0
def vb : D → Bool
  | .v (.bool b) => b
  | _ => false
def vs : D → ByteArray
  | .v (.string b) => b
  | _ => noStr
def vl : D → List Int
  | .ints _ l => l
  | _ => []
def avpAt (g : Nat → D) : AvpR := ⟨vi (g 0), vi (g 1), vb (g 2), vb (g 3), vl (g 4)⟩
def rtAt (g : Nat → D) : RtR := ⟨vs (g 0), vl (g 1)⟩
def avpsOf : D → List AvpR
  | .recs _ n f => (List.range n).map fun i => avpAt (f i)
  | _ => []
def rtsOf : D → List RtR
  | .recs _ n f => (List.range n).map fun i => rtAt (f i)
  | _ => []
def strsOf : D → List ByteArray
  | .recs _ n f => (List.range n).map fun i => vs (f i 0)
  | _ => []

theorem range_getD {α : Type} (l : List α) (d : α) : (List.range l.length).map (fun i => l.getD i d) = l := by
  apply List.ext_getElem
  · simp
  · intro i h1 h2; simp [List.getD, List.getElem?_eq_getElem h2]
theorem avpsOf_avps (l : List AvpR) : avpsOf (.recs 5 l.length (avpCell l)) = l := range_getD l noAvp
theorem rtsOf_rts (l : List RtR) : rtsOf (.recs 2 l.length (rtCell l)) = l := range_getD l noRt
theorem strsOf_strs (l : List ByteArray) : strsOf (.recs 1 l.length (strCell l)) = l := range_getD l noStr

/-- Where the first is that fits; -1: none. -/
def idxP {α : Type} (p : α → Bool) (l : List α) : Int :=
  match l.findIdx? p with
  | some i => i
  | none => -1
def idxF (l : List Int) (x : Int) : Int := idxP (fun y => decide (x = y)) l
def inF (l : List Int) (x : Int) : Bool := decide (0 ≤ idxF l x)
def isAvp (code : Int) (a : AvpR) : Bool := decide (a.code = code) && decide (a.vendor = 0)
/-- The first one's data; is there one? -/
def findF (l : List AvpR) (code : Int) : List Int × Bool :=
  match l.find? (isAvp code) with
  | some a => (a.data, true)
  | none => ([], false)
def passF (l : List AvpR) (s : ByteArray) : Bool := l.any fun a => isAvp 282 a && decide (bstr a.data = s)
def nameF (names : List ByteArray) (n : Int) : ByteArray := if n < 0 ∨ (names.length : Int) ≤ n then noStr else names.getD n.toNat noStr
def hasF (ks : List ByteArray) (vs : List Bool) (s : ByteArray) : Bool := (oget vs (midx ks s)).getD false
def openF (s : ScR) (p : Int) : Bool :=
  decide (0 ≤ p) && decide (p < s.names.length) && !decide (p = s.fr) && inF s.n.peers p && inF s.up p && !hasF s.ks s.vs (nameF s.names p)
def mayF (n : NdR) (names : List ByteArray) (up : List Int) (l : List AvpR) (fr p : Int) : Bool :=
  decide (0 ≤ p) && decide (p < names.length) && !decide (p = fr) && inF n.peers p && inF up p && !passF l (nameF names p)

def small (n : Nat) : Prop := n ≤ 1048576
def okScr (s : ScR) : Prop := small s.n.peers.length ∧ small s.names.length ∧ small s.up.length
def okAvps (l : List AvpR) : Prop := small l.length ∧ ∀ a, a ∈ l → small a.data.length

theorem idx_hit {α : Type} {p : α → Bool} {l : List α} {d : α} {i : Nat} (h : ∀ j, j < i → p (l.getD j d) = false) (hi : i < l.length) (hp : p (l.getD i d) = true) : idxP p l = i := by
  have : l.findIdx? p = some i := by
    rw [List.findIdx?_eq_some_iff_getElem]
    refine ⟨hi, by simpa [List.getD, List.getElem?_eq_getElem hi] using hp, fun j hj => ?_⟩
    have := h j hj
    simpa [List.getD, List.getElem?_eq_getElem (show j < l.length by omega)] using this
  simp [idxP, this]
theorem idx_miss {α : Type} {p : α → Bool} {l : List α} {d : α} (h : ∀ j, j < l.length → p (l.getD j d) = false) : idxP p l = -1 := by
  have : l.findIdx? p = none := by
    rw [List.findIdx?_eq_none_iff]
    intro x hx
    obtain ⟨j, hj, rfl⟩ := List.mem_iff_getElem.1 hx
    have := h j hj
    simpa [List.getD, List.getElem?_eq_getElem hj] using this
  simp [idxP, this]
theorem idx_range {α : Type} {p : α → Bool} {l : List α} : -1 ≤ idxP p l ∧ idxP p l < l.length := by
  unfold idxP
  split
  · rename_i i h
    rw [List.findIdx?_eq_some_iff_getElem] at h
    obtain ⟨h, _⟩ := h
    omega
  · omega
theorem idx_spec {α : Type} {p : α → Bool} {l : List α} (d : α) (h : 0 ≤ idxP p l) : p (l.getD (idxP p l).toNat d) = true ∧ ∀ j, j < (idxP p l).toNat → p (l.getD j d) = false := by
  unfold idxP at h ⊢
  split at h <;> rename_i e
  · rename_i i
    rw [List.findIdx?_eq_some_iff_getElem] at e
    obtain ⟨h1, h2, h3⟩ := e
    simp only [Int.toNat_natCast]
    refine ⟨by simpa [List.getD, List.getElem?_eq_getElem h1] using h2, fun j hj => ?_⟩
    have := h3 j hj
    simpa [List.getD, List.getElem?_eq_getElem (show j < l.length by omega)] using this
  · omega
theorem idx_none {α : Type} {p : α → Bool} {l : List α} (h : ¬ 0 ≤ idxP p l) : ∀ x, x ∈ l → p x = false := by
  unfold idxP at h
  split at h
  · omega
  · rename_i e
    rw [List.findIdx?_eq_none_iff] at e
    exact fun x hx => by simpa using e x hx
def scOf : D → ScR
  | .ptr _ _ g => ⟨⟨vs (g 0), vs (g 1), vb (g 2), vl (g 3), rtsOf (g 4)⟩, strsOf (g 5), vl (g 6), vi (g 7), (match g 8 with | .map (.strs ks) _ => ks | _ => []), (match g 8 with | .map _ (.bools ks) => ks | _ => [])⟩
  | _ => ⟨⟨noStr, noStr, false, [], []⟩, [], [], 0, [], []⟩
theorem scOf_sc (s : ScR) : scOf (.ptr 64 9 fun i => [.v (.string s.n.host), .v (.string s.n.realm), .v (.bool s.n.serves), .ints .i64 s.n.peers, .recs 2 s.n.routes.length (rtCell s.n.routes), .recs 1 s.names.length (strCell s.names), .ints .i64 s.up, .v (.int .i64 s.fr), .map (.strs s.ks) (.bools s.vs)].getD i (.v undef)) = s := by
  simp only [scOf, List.getD_cons_succ, List.getD_cons_zero, strsOf_strs, rtsOf_rts, vi, vb, vl, vs]
def pickP (s : ScR) (h : List Int) (p : Int) : Bool := openF s p && decide (nameF s.names p = bstr h)
/-- What stands in a variable that is pointed to. -/
def scIn : D → ScR
  | .ptr _ _ g => scOf (g 0)
  | _ => ⟨⟨noStr, noStr, false, [], []⟩, [], [], 0, [], []⟩
def vlIn : D → List Int
  | .ptr _ _ g => vl (g 0)
  | _ => []
def viIn : D → Int
  | .ptr _ _ g => vi (g 0)
  | _ => 0
theorem scIn_sc (s : ScR) : scIn (.ptr 61 1 fun i => [(D.ptr 64 9 fun i => [.v (.string s.n.host), .v (.string s.n.realm), .v (.bool s.n.serves), .ints .i64 s.n.peers, .recs 2 s.n.routes.length (rtCell s.n.routes), .recs 1 s.names.length (strCell s.names), .ints .i64 s.up, .v (.int .i64 s.fr), .map (.strs s.ks) (.bools s.vs)].getD i (.v undef))].getD i (.v undef)) = s := scOf_sc s
theorem vlIn_l (T : Nat) (k : IntKind) (h : List Int) : vlIn (.ptr T 1 fun i => [D.ints k h].getD i (.v undef)) = h := rfl
theorem viIn_i (T : Nat) (k : IntKind) (h : Int) : viIn (.ptr T 1 fun i => [D.v (.int k h)].getD i (.v undef)) = h := rfl
/-- The scene's test of a peer that has a name; of a way. -/
def fnP (d : D) : Int → Bool :=
  match d with
  | .fn 25 _ _ g => pickP (scIn (g 0)) (vlIn (g 1))
  | .fn _ _ _ g => openF (scOf (g 0))
  | _ => fun _ => false
theorem fnP_pick (s : ScR) (h : List Int) : fnP (.fn 25 0 2 fun i => [D.ptr 61 1 fun i => [(D.ptr 64 9 fun i => [.v (.string s.n.host), .v (.string s.n.realm), .v (.bool s.n.serves), .ints .i64 s.n.peers, .recs 2 s.n.routes.length (rtCell s.n.routes), .recs 1 s.names.length (strCell s.names), .ints .i64 s.up, .v (.int .i64 s.fr), .map (.strs s.ks) (.bools s.vs)].getD i (.v undef))].getD i (.v undef), D.ptr 36 1 fun i => [D.ints .u8 h].getD i (.v undef)].getD i (.v undef)) = pickP s h := by
  show pickP (scIn _) _ = _
  rw [show ∀ d : D, d = (.ptr 61 1 fun i => [(D.ptr 64 9 fun i => [.v (.string s.n.host), .v (.string s.n.realm), .v (.bool s.n.serves), .ints .i64 s.n.peers, .recs 2 s.n.routes.length (rtCell s.n.routes), .recs 1 s.names.length (strCell s.names), .ints .i64 s.up, .v (.int .i64 s.fr), .map (.strs s.ks) (.bools s.vs)].getD i (.v undef))].getD i (.v undef)) → scIn d = s from fun d e => by rw [e]; exact scIn_sc s]
  · rfl
  · rfl
theorem fnP_open (s : ScR) : fnP (.fn 26 1 1 fun i => [(D.ptr 64 9 fun i => [.v (.string s.n.host), .v (.string s.n.realm), .v (.bool s.n.serves), .ints .i64 s.n.peers, .recs 2 s.n.routes.length (rtCell s.n.routes), .recs 1 s.names.length (strCell s.names), .ints .i64 s.up, .v (.int .i64 s.fr), .map (.strs s.ks) (.bools s.vs)].getD i (.v undef))].getD i (.v undef)) = openF s := by
  show openF (scOf (.ptr 64 9 fun i => [.v (.string s.n.host), .v (.string s.n.realm), .v (.bool s.n.serves), .ints .i64 s.n.peers, .recs 2 s.n.routes.length (rtCell s.n.routes), .recs 1 s.names.length (strCell s.names), .ints .i64 s.up, .v (.int .i64 s.fr), .map (.strs s.ks) (.bools s.vs)].getD i (.v undef))) = _
  rw [scOf_sc]
end Go.YM
namespace Go.YR
open Go.Y Go.YM

def iO (k : IntKind) (n : Int) : O := .d (.v (.int k n))
def bO (b : Bool) : O := .d (.v (.bool b))
def sO (s : ByteArray) : O := .d (.v (.string s))
def isO (l : List Int) : O := .d (.ints .i64 l)
def avpsD (l : List AvpR) : D := .recs 5 l.length (avpCell l)
def rtsD (l : List RtR) : D := .recs 2 l.length (rtCell l)
def strsD (l : List ByteArray) : D := .recs 1 l.length (strCell l)
def avpO (a : AvpR) : O := .agg [iO .u32 a.code, iO .u32 a.vendor, bO a.must, bO a.prot, .d (.ints .u8 a.data)]
def rtO (r : RtR) : O := .agg [sO r.realm, isO r.via]
def msgO (m : MsgR) : O := .agg [bO m.b0, bO m.b1, bO m.b2, bO m.b3, iO .u32 m.n0, iO .u32 m.n1, iO .u32 m.n2, iO .u32 m.n3, .d (avpsD m.avps)]
def ndO (n : NdR) : O := .agg [sO n.host, sO n.realm, bO n.serves, isO n.peers, .d (rtsD n.routes)]
def scD (s : ScR) : D := ptrD 64 [.v (.string s.n.host), .v (.string s.n.realm), .v (.bool s.n.serves), .ints .i64 s.n.peers, rtsD s.n.routes, strsD s.names, .ints .i64 s.up, .v (.int .i64 s.fr), .map (.strs s.ks) (.bools s.vs)]

def dO : O → D
  | .d x => x
  | _ => .v (.bool false)
def ndOf : O → NdR
  | .agg [h, r, s, p, t] => ⟨vs (dO h), vs (dO r), vb (dO s), vl (dO p), rtsOf (dO t)⟩
  | _ => ⟨noStr, noStr, false, [], []⟩
def avpOf : O → AvpR
  | .agg [h, r, s, p, t] => ⟨vi (dO h), vi (dO r), vb (dO s), vb (dO p), vl (dO t)⟩
  | _ => noAvp
def mAvps : O → List AvpR
  | .agg [_, _, _, _, _, _, _, _, t] => avpsOf (dO t)
  | _ => []
def at_ (a : List O) (i : Nat) : O := a.getD i .any

def qC (n : Nat) (pre : List O → Prop) (res : List O → List O) : Ctr where
  own := []
  pre := pre
  res := res
  upd := fun _ => List.replicate n .any
  ro := false
  quiet := true

def indexC : Ctr := qC 2 (fun a => ∃ l x, a = [isO l, iO .i64 x] ∧ small l.length) fun a => [iO .i64 (idxF (vl (dO (at_ a 0))) (vi (dO (at_ a 1))))]
def inC : Ctr := qC 2 (fun a => ∃ l x, a = [isO l, iO .i64 x] ∧ small l.length) fun a => [bO (inF (vl (dO (at_ a 0))) (vi (dO (at_ a 1))))]
def isAvpC : Ctr := qC 2 (fun a => ∃ x c, a = [avpO x, .d (ptrD 27 [.v (.int .u32 c)])]) fun a => [bO (isAvp (match dO (at_ a 1) with | .ptr _ _ g => vi (g 0) | _ => 0) (avpOf (at_ a 0)))]
def isRtC : Ctr := qC 2 (fun a => ∃ x s, a = [rtO x, .d (ptrD 36 [.ints .u8 s])]) fun a =>
  [bO (decide ((match at_ a 0 with | .agg [x, _] => vs (dO x) | _ => noStr) = bstr (match dO (at_ a 1) with | .ptr _ _ g => vl (g 0) | _ => [])))]
def idxAvpC : Ctr := qC 2 (fun a => ∃ l c, a = [.d (avpsD l), .d (fnD 37 0 [ptrD 27 [.v (.int .u32 c)]])] ∧ small l.length) fun a =>
  [iO .i64 (idxP (isAvp (match dO (at_ a 1) with | .fn _ _ _ g => (match g 0 with | .ptr _ _ g => vi (g 0) | _ => 0) | _ => 0)) (avpsOf (dO (at_ a 0))))]
def idxRtC : Ctr := qC 2 (fun a => ∃ l s, a = [.d (rtsD l), .d (fnD 29 0 [ptrD 36 [.ints .u8 s]])] ∧ small l.length) fun a =>
  [iO .i64 (idxP (fun r => decide (r.realm = bstr (match dO (at_ a 1) with | .fn _ _ _ g => (match g 0 with | .ptr _ _ g => vl (g 0) | _ => []) | _ => []))) (rtsOf (dO (at_ a 0))))]
def nameC : Ctr := qC 2 (fun a => ∃ s n, a = [.d (scD s), iO .i64 n] ∧ small s.names.length) fun a => [sO (nameF (scOf (dO (at_ a 0))).names (vi (dO (at_ a 1))))]
def openC : Ctr := qC 2 (fun a => ∃ s n, a = [.d (scD s), iO .i64 n] ∧ okScr s) fun a => [bO (openF (scOf (dO (at_ a 0))) (vi (dO (at_ a 1))))]
def pick1C : Ctr := qC 3 (fun a => ∃ p s h, a = [iO .i64 p, .d (ptrD 61 [scD s]), .d (ptrD 36 [.ints .u8 h])] ∧ okScr s) fun a =>
  [bO (pickP (scIn (dO (at_ a 1))) (vlIn (dO (at_ a 2))) (vi (dO (at_ a 0))))]
def cloneC : Ctr where
  own := []
  pre := fun a => ∃ l, a = [.d (.ints .u8 l)] ∧ small l.length
  res := fun a => [.own 5 (.ints .u8 (vl (dO (at_ a 0))))]
  upd := fun _ => [.any]
  ro := false
  quiet := false
def findC : Ctr where
  own := []
  pre := fun a => ∃ m c, a = [msgO m, iO .u32 c] ∧ okAvps m.avps
  res := fun a => [.own 5 (.ints .u8 (findF (mAvps (at_ a 0)) (vi (dO (at_ a 1)))).1), bO (findF (mAvps (at_ a 0)) (vi (dO (at_ a 1)))).2]
  upd := fun _ => [.any, .any]
  ro := false
  quiet := false
def passC : Ctr := qC 2 (fun a => ∃ m s, a = [msgO m, sO s] ∧ okAvps m.avps) fun a => [bO (passF (mAvps (at_ a 0)) (vs (dO (at_ a 1))))]
def okMay (n : NdR) (names : List ByteArray) (up : List Int) (m : MsgR) : Prop := small n.peers.length ∧ small names.length ∧ small up.length ∧ okAvps m.avps
def mayC : Ctr := qC 6 (fun a => ∃ n names up m fr p, a = [ndO n, .d (strsD names), isO up, msgO m, iO .i64 fr, iO .i64 p] ∧ okMay n names up m) fun a =>
  [bO (mayF (ndOf (at_ a 0)) (strsOf (dO (at_ a 1))) (vl (dO (at_ a 2))) (mAvps (at_ a 3)) (vi (dO (at_ a 4))) (vi (dO (at_ a 5))))]

/-- A loop that looks for the first that fits. -/
def idxAnn {α : Type} (slot : Nat) (p : α → Bool) (l : List α) (d : α) : LoopAnn where
  γ := Nat
  pre := fun i => i ≤ l.length ∧ ∀ j, j < i → p (l.getD j d) = false
  μ := fun i => l.length - i
  items := fun i => [(slot, .c (iO .i64 (i : Int)))]
def b0 : List (Nat × Ctr) := []
def b1 : List (Nat × Ctr) := [(41, indexC), (37, isAvpC), (29, isRtC)]
def b2 : List (Nat × Ctr) := [(39, inC), (27, nameC), (36, idxAvpC), (38, cloneC), (16, inC), (30, passC)]
def b3 : List (Nat × Ctr) := [(26, openC), (27, nameC)]
def pickFn (s : ScR) (h : List Int) : D := fnD 25 0 [ptrD 61 [scD s], ptrD 36 [.ints .u8 h]]
def openFn (s : ScR) : D := fnD 26 1 [scD s]
def idxIntC : Ctr := qC 2 (fun a => (∃ l s h, a = [isO l, .d (pickFn s h)] ∧ okScr s ∧ small l.length) ∨ ∃ l s, a = [isO l, .d (openFn s)] ∧ okScr s ∧ small l.length) fun a =>
  [iO .i64 (idxP (fnP (dO (at_ a 1))) (vl (dO (at_ a 0))))]
def b4 : List (Nat × Ctr) := [(25, pick1C), (26, openC)]
end Go.YR
