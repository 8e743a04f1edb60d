/- Part 6 of what the closing text rests on. -/
import Derived.Test.YtlbfenfepmmihaaI5
namespace Go.Z
open Go.RowKit

def zeroInts (P : Program) (T : Nat) : Option (IntKind × Nat) :=
  match P.underlying T with
  | some (.array n e) => match P.underlying e, zeroS P T with
    | some (.int kk), some l => cond (Nat.beq l.length n && l.all (isZ kk)) (some (kk, n)) none
    | _, _ => none
  | _ => none
where
  isZ (kk : IntKind) : SV → Bool
    | .c (.int k' 0) => decide (k' = kk)
    | _ => false

def allocL (P : Program) (T : Nat) (h : List (Nat × R)) (nx : Nat) (k : HK) : Prop :=
  match zeroInts P T with
  | some (kk, n) => k (.q nx) ((nx, .own T (.ints kk (List.replicate n 0))) :: h) (nx + 1)
  | none => match zeroS P T with
    | some l => k (.p nx 0) ((nx, .blk T l) :: h) (nx + 1)
    | none => False

def boxL (T : Nat) (s : SV) (h : List (Nat × R)) (nx : Nat) (k : HK) : Prop :=
  match s with
  | .arr kk xs => k (.q nx) ((nx, .own T (.ints kk xs)) :: h) (nx + 1)
  | s => match cellsS s with
    | some l => k (.p nx 0) ((nx, .blk T l) :: h) (nx + 1)
    | none => False

def splice (l : List SV) (o : Nat) (cs : List SV) : List SV := l.take o ++ (cs ++ l.drop (o + cs.length))

def intOf1 : SV → Option (IntKind × Int)
  | .c (.int k z) => some (k, z)
  | _ => none

def setRec (f : Nat → Nat → D) (i o : Nat) (ds : List D) : Nat → Nat → D := fun i' j' =>
  cond (Nat.beq i' i && Nat.ble o j' && Nat.blt j' (o + ds.length)) (ds.getD (j' - o) (f i' j')) (f i' j')

def storeL (P : Program) (T : Nat) (t s : SV) (h : List (Nat × R)) (nx : Nat) (k : List (Nat × R) → Nat → Prop) : Prop :=
  match t with
  | .p n o => match hfind h n, kindT P T, cellsS s with
    | some (.blk T' l), some (_, sz), some cs => cond (Nat.beq cs.length sz && Nat.ble (o + sz) l.length && cs.all oneS) (k ((n, .blk T' (splice l o cs)) :: h) nx) False
    | _, _, _ => False
  | .e n es i o => match hfind h n, kindT P T with
    | some (.own T' (.ints kk xs)), some (_, sz) => match cellsS s with
      | some [c] => match intOf1 c with
        | some (k', z) => cond (Nat.beq sz 1 && Nat.beq es 1 && Nat.beq o 0) (kk = k' ∧ k ((n, .own T' (.ints kk (xs.set i z))) :: h) nx) False
        | none => False
      | _ => False
    | some (.own T' (.recs es' m f)), some (_, sz) => match cellsS s with
      | some cs => match dsOf P T (freezeL h cs) cs with
        | some ds => cond (Nat.beq cs.length sz && Nat.beq es es' && Nat.ble (o + sz) es && nodead n (freezeL h cs) T') (k ((n, .own T' (.recs es' m (setRec f i o ds))) :: freezeL h cs) nx) False
        | none => False
      | none => False
    | _, _ => False
  | .q n => match hfind h n, kindT P T, s with
    | some (.own T' (.ints kk xs)), some (_, sz), .arr kk' ys => (kk = kk' ∧ sz = ys.length ∧ xs.length = ys.length) ∧ k ((n, .own T' (.ints kk' ys)) :: h) nx
    | _, _, _ => False
  | _ => False
where
  nodead (n : Nat) (h : List (Nat × R)) (T' : Nat) : Bool :=
    match hfind h n with
    | some (.own T _) => Nat.beq T T'
    | _ => false

def srcD (P : Program) (e xT : Nat) (x : SV) (h : List (Nat × R)) : Option (Prop × D) :=
  match P.underlying xT, x with
  | some (.slice _), .a m => match arrOf h m with
    | some d => some (True, d)
    | none => none
  | some .string, .c (.string s) => match P.underlying e with
    | some (.int .u8) => some (True, .ints .u8 (s.data.toList.map fun b => (b.toNat : Int)))
    | _ => none
  | some (.int _), .c (.int _ z) => match P.underlying e with
    | some (.int k) => match P.info? e with
      | some i => match i.zero with
        | some (.int k' 0) => some (0 ≤ z ∧ z ≤ 9223372036854775807 ∧ z.toNat * i.bytes ≤ 281474976710656 ∧ k' = k, .ints k (List.replicate z.toNat 0))
        | _ => none
      | none => none
    | _ => none
  | _, _ => none

def appendL (P : Program) (sT xT : Nat) (s x : SV) (h : List (Nat × R)) (nx : Nat) (k : HK) : Prop :=
  match P.underlying sT with
  | some (.slice e) => match P.info? e with
    | some i => match i.zero with
      | some z => cond (Nat.beq z.cells.size i.size && Nat.blt 0 i.size && Nat.blt 0 i.bytes)
        (match s, x with
        | .nil, .nil => cond (isSl P xT) (k .nil h nx) False
        | .a n, .nil => match arrOf h n with
          | some _ => cond (isSl P xT) (k (.a n) h nx) False
          | none => False
        | .nil, _ => match srcD P e xT x h with
          | some (c, d) => cond (Nat.beq d.es i.size) (c ∧ d.len * i.bytes ≤ 140737488355328 ∧ k (.a nx) ((nx, .own e d) :: h) (nx + 1)) False
          | none => False
        | .a n, _ => match hfind h n with
          | some (.own T d) => match srcD P e xT x h with
            | some (c, d') => match D.app d d' with
              | some r => cond (Nat.beq T e && Nat.beq d.es i.size && notSame n x) (c ∧ (d.len + d'.len) * i.bytes ≤ 140737488355328 ∧ k (.a nx) ((nx, .own e r) :: (n, .dead) :: h) (nx + 1)) False
              | none => False
            | none => False
          | _ => False
        | _, _ => False) False
      | none => False
    | none => False
  | _ => False
where
  isSl (P : Program) (T : Nat) : Bool :=
    match P.underlying T with
    | some (.slice _) => true
    | _ => false
  notSame (n : Nat) (x : SV) : Bool :=
    match x with
    | .a m => !Nat.beq n m
    | _ => true

def gridD (es : Nat) (ds : List D) : Nat → Nat → D := fun i j => ds.getD (i * es + j) (.v undef)

def placesSl (es : Nat) (i : Nat) : Option (Nat × Nat) := some (i * es, es)

def buildSliceL (P : Program) (T len : Nat) (ixs : List Nat) (vs : List SV) (h : List (Nat × R)) (nx : Nat) (k : HK) : Prop :=
  match P.underlying T with
  | some (.slice e) => match P.info? e with
    | some i => match i.zero with
      | some z => cond (Nat.ble (len * i.size) 1000 && Nat.blt 0 i.size && Nat.beq z.cells.size i.size)
        (match fillS (placesSl i.size) (((List.range (len * i.size)).map fun j => liftK1 (z.cells.toList.getD (j % i.size) undef))) (ixs.zip vs) with
        | some cs => match P.underlying e with
          | some (.int kk) => match intsOf kk cs with
            | some zs => cond (Nat.beq i.size 1) (k (.a nx) ((nx, .own e (.ints kk zs)) :: h) (nx + 1)) False
            | none => False
          | some (.pointer _) => cond (Nat.beq i.size 1) (k (.sl nx len) ((nx, .blk e cs) :: h) (nx + 1)) False
          | _ => match dsOf P e (freezeL h cs) cs with
            | some ds => k (.a nx) ((nx, .own e (.recs i.size len (gridD i.size ds))) :: freezeL h cs) (nx + 1)
            | none => False
        | none => False) False
      | none => False
    | none => False
  | _ => False

def makeSliceL (P : Program) (T : Nat) (l c : SV) (h : List (Nat × R)) (nx : Nat) (k : HK) : Prop :=
  match P.underlying T, l, c with
  | some (.slice e), .c (.int _ n), .c (.int _ m) => match P.underlying e, P.info? e with
    | some (.int kk), some i => match i.zero with
      | some (.int k' 0) => cond (Nat.beq i.size 1) ((0 ≤ n ∧ n ≤ m ∧ m ≤ 9223372036854775807 ∧ m.toNat * i.bytes ≤ 281474976710656 ∧ kk = k') ∧ k (.a nx) ((nx, .own e (.ints kk (List.replicate n.toNat 0))) :: h) (nx + 1)) False
      | _ => False
    | _, _ => False
  | _, _, _ => False

def bytesL (P : Program) (src dst : Nat) (x : SV) (h : List (Nat × R)) (nx : Nat) (k : HK) : Prop :=
  match P.underlying src, P.underlying dst, x with
  | some .string, some (.slice e), .c (.string s) => match P.underlying e with
    | some (.int .u8) => k (.a nx) ((nx, .ro (.ints .u8 (s.data.toList.map fun b => (b.toNat : Int)))) :: h) (nx + 1)
    | _ => False
  | _, _, _ => False

def emptyCol (P : Program) (t : Nat) : Option Col :=
  match P.underlying t with
  | some (.int kk) => some (.ints kk [])
  | some .bool => some (.bools [])
  | some .string => some (.strs [])
  | _ => none
def makeMapL (P : Program) (T : Nat) (r : List SV) (h : List (Nat × R)) (nx : Nat) (k : HK) : Prop :=
  match P.underlying T, r with
  | some (.map kt vt), [] => match emptyCol P kt, emptyCol P vt with
    | some ks, some vs => k (.m nx) ((nx, .map ks vs) :: h) (nx + 1)
    | _, _ => False
  | _, _ => False

def Col.putV (vs : Col) (o : Option Nat) (v : Value) : Option Col :=
  match vs, v with
  | .ints k m, .int k' z => if k = k' then some (.ints k (mputV m o z)) else none
  | .bools m, .bool z => some (.bools (mputV m o z))
  | .strs m, .string z => some (.strs (mputV m o z))
  | _, _ => none
def Col.putK (ks : Col) (o : Option Nat) (v : Value) : Option Col :=
  match ks, v with
  | .ints k m, .int k' z => if k = k' then some (.ints k (mputK m o z)) else none
  | .bools m, .bool z => some (.bools (mputK m o z))
  | .strs m, .string z => some (.strs (mputK m o z))
  | _, _ => none
def Col.del (c : Col) (o : Option Nat) : Col :=
  match c with
  | .ints k m => .ints k (mdel m o)
  | .bools m => .bools (mdel m o)
  | .strs m => .strs (mdel m o)

def mapUpdateL (P : Program) (T : Nat) (x y z : SV) (h : List (Nat × R)) (nx : Nat) (k : List (Nat × R) → Nat → Prop) : Prop :=
  match P.underlying T, x, scal y, scal z with
  | some (.map kt _), .m n, some key, some val => match hfind h n with
    | some (.map ks vs) => match ks.idx key with
      | some o => match ks.putK o key, vs.putV o val with
        | some ks', some vs' => cond (keyKind P kt ks) (k ((n, .map ks' vs') :: h) nx) False
        | _, _ => False
      | none => False
    | _ => False
  | _, _, _, _ => False

def deleteL (P : Program) (T : Nat) (x y : SV) (h : List (Nat × R)) (nx : Nat) (k : HK) : Prop :=
  match P.underlying T, x, scal y with
  | some (.map kt _), .m n, some key => match hfind h n with
    | some (.map ks vs) => match ks.idx key with
      | some o => cond (keyKind P kt ks) (k (.tup []) ((n, .map (ks.del o) (vs.del o)) :: h) nx) False
      | none => False
    | _ => False
  | _, _, _ => False

def copyL (P : Program) (dT : Nat) (s t : SV) (h : List (Nat × R)) (nx : Nat) (k : HK) : Prop :=
  match P.underlying dT, s, t with
  | some (.slice e), .vw n l, .a m => match hfind h n, arrOf h m, P.info? e with
    | some (.own T (.ints kk xs)), some (.ints kk' ys), some i => cond (Nat.beq i.size 1) ((kk = kk' ∧ l + ys.length ≤ xs.length ∧ 0 < ys.length) ∧ k (.c (.int .i64 (ys.length : Int))) ((n, .own T (.ints kk (xs.take l ++ (ys ++ xs.drop (l + ys.length))))) :: h) nx) False
    | _, _, _ => False
  | _, _, _ => False

def q3 (vs : List SV) (k : SV → SV → SV → Prop) : Prop := match vs with | [s, t, u] => k s t u | _ => False

structure CE where
  c : Nat → Option Ctr
  j : Nat → List SV → List (Nat × R) → Nat → HK → Prop
instance : CoeFun CE (fun _ => Nat → Option Ctr) := ⟨CE.c⟩

def stepL (P : Program) (C : CE) (op : Op) (vs : List SV) (h : List (Nat × R)) (nx : Nat) (k : HK) : Prop :=
  match op with
  | .alloc T => allocL P T h nx k
  | .box T _ => q1 vs fun s => boxL T s h nx k
  | .store T _ _ => q2 vs fun t s => storeL P T t s h nx (k .unk)
  | .buildSlice T len parts => buildSliceL P T len (parts.toList.map (·.1)) vs h nx k
  | .makeSlice T _ _ => q2 vs fun l c => makeSliceL P T l c h nx k
  | .convert src dst _ => q1 vs fun s => bytesL P src dst s h nx k
  | .makeMap T _ => makeMapL P T vs h nx k
  | .mapUpdate T _ _ _ => q3 vs fun x y z => mapUpdateL P T x y z h nx (k .unk)
  | .call c => match c.callee, vs with
    | .builtin .delete, _ => match c.argTypes.toList with
      | T :: _ => q2 vs fun x y => deleteL P T x y h nx k
      | _ => False
    | .builtin .copy, _ => match c.argTypes.toList with
      | dT :: _ => q2 vs fun s t => copyL P dT s t h nx k
      | _ => False
    | .builtin .append, _ => match c.argTypes.toList with
      | [sT, xT] => q2 vs fun s x => appendL P sT xT s x h nx k
      | _ => False
    | .value _, .f f nf caps :: args => match C f with
      | some ct => callX P (paramsOf P f) ct (caps.take nf ++ (args ++ caps.drop nf)) h nx k
      | none => C.j f (caps.take nf ++ (args ++ caps.drop nf)) h nx k
    | _, _ => False
  | _ => False
end Go.Z

namespace Go.Z
open Go.RowKit

section
variable {P : Program} {K : Ctx} {θ : Th} {h : List (Nat × R)} {nx : Nat} {w : World}

theorem mputV_spec {ν : Type} (m : List ν) (o : Option Nat) (v : ν) : (∀ i, o ≠ some i → i < m.length → (mputV m o v)[i]? = m[i]?) ∧ (∀ j, o = some j → j < m.length → (mputV m o v)[j]? = some v ∧ (mputV m o v).length = m.length) ∧
    (o = none → (mputV m o v)[m.length]? = some v ∧ (mputV m o v).length = m.length + 1) := by
  cases o with
  | none =>
    refine ⟨fun i _ hi => ?_, fun j hj => (by cases hj), fun _ => ?_⟩
    · simp [mputV, List.getElem?_append_left hi]
    · simp [mputV]
  | some j =>
    refine ⟨fun i hne _ => ?_, fun j' hj hlt => ?_, fun h => by cases h⟩
    · simp only [mputV]
      exact List.getElem?_set_ne (fun e => hne (by rw [e]))
    · cases hj
      simp [mputV, hlt]
theorem mputK_spec {κ : Type} (m : List κ) (o : Option Nat) (x : κ) : (∀ i, i < m.length → (mputK m o x)[i]? = m[i]?) ∧ (∀ j, o = some j → mputK m o x = m) ∧ (o = none → (mputK m o x)[m.length]? = some x ∧ (mputK m o x).length = m.length + 1) := by
  cases o with
  | none =>
    refine ⟨fun i hi => ?_, fun j hj => (by cases hj), fun _ => ?_⟩
    · simp [mputK, List.getElem?_append_left hi]
    · simp [mputK]
  | some j => exact ⟨fun i _ => rfl, fun j' _ => rfl, fun h => by cases h⟩

theorem Col.putV_spec {vs vs' : Col} {o : Option Nat} {v : Value} (hp : vs.putV o v = some vs') : (∀ i, o ≠ some i → i < vs.len → vs'.get? i = vs.get? i) ∧ (∀ j, o = some j → j < vs.len → vs'.get? j = some v ∧ vs'.len = vs.len) ∧
    (o = none → vs'.get? vs.len = some v ∧ vs'.len = vs.len + 1) := by
  have main : ∀ {ν : Type} (enc : ν → Value) (m : List ν) (z : ν), (∀ i, o ≠ some i → i < m.length → ((mputV m o z)[i]?).map enc = (m[i]?).map enc) ∧ (∀ j, o = some j → j < m.length → ((mputV m o z)[j]?).map enc = some (enc z) ∧ (mputV m o z).length = m.length) ∧
      (o = none → ((mputV m o z)[m.length]?).map enc = some (enc z) ∧ (mputV m o z).length = m.length + 1) := by
    intro ν enc m z
    obtain ⟨h1, h2, h3⟩ := mputV_spec m o z
    exact ⟨fun i hi hl => by rw [h1 i hi hl], fun j hj hl => ⟨by rw [(h2 j hj hl).1]; rfl, (h2 j hj hl).2⟩, fun hn => ⟨by rw [(h3 hn).1]; rfl, (h3 hn).2⟩⟩
  unfold Col.putV at hp
  split at hp
  · split at hp <;> cases hp
    rename_i e; subst e
    exact main (Value.int _) _ _
  · cases hp; exact main Value.bool _ _
  · cases hp; exact main Value.string _ _
  · cases hp

theorem Col.putK_spec {vs vs' : Col} {o : Option Nat} {v : Value} (hp : vs.putK o v = some vs') : (∀ i, i < vs.len → vs'.get? i = vs.get? i) ∧ (∀ j, o = some j → vs' = vs) ∧ (o = none → vs'.get? vs.len = some v ∧ vs'.len = vs.len + 1) := by
  have main : ∀ {ν : Type} (enc : ν → Value) (m : List ν) (z : ν), (∀ i, i < m.length → ((mputK m o z)[i]?).map enc = (m[i]?).map enc) ∧ (o = none → ((mputK m o z)[m.length]?).map enc = some (enc z) ∧ (mputK m o z).length = m.length + 1) := by
    intro ν enc m z
    obtain ⟨h1, h2, h3⟩ := mputK_spec m o z
    exact ⟨fun i hl => by rw [h1 i hl], fun hn => ⟨by rw [(h3 hn).1]; rfl, (h3 hn).2⟩⟩
  have same : ∀ {ν : Type} (m : List ν) (z : ν) j, o = some j → mputK m o z = m := fun m z j hj => by rw [hj]; rfl
  unfold Col.putK at hp
  split at hp
  · split at hp <;> cases hp
    rename_i e; subst e
    exact ⟨(main (Value.int _) _ _).1, fun j hj => by rw [same _ _ j hj], (main (Value.int _) _ _).2⟩
  · cases hp; exact ⟨(main Value.bool _ _).1, fun j hj => by rw [same _ _ j hj], (main Value.bool _ _).2⟩
  · cases hp; exact ⟨(main Value.string _ _).1, fun j hj => by rw [same _ _ j hj], (main Value.string _ _).2⟩
  · cases hp

theorem Col.get?_lt {c : Col} {i : Nat} {v : Value} (h : c.get? i = some v) : i < c.len := by
  cases c <;> simp only [Col.get?, Option.map_eq_some_iff] at h <;> obtain ⟨z, hz, _⟩ := h <;> exact (List.getElem?_eq_some_iff.1 hz).1

theorem MapIs.set {es : Array MapEntry} {clock j : Nat} {ks vs vs' : Col} {key val : Value} (hm : MapIs es clock ks vs) (hk : ks.get? j = some key) (hv : vs.putV (some j) val = some vs') :
    MapIs (es.modify j fun e => { e with key, val }) clock ks vs' := by
  have hj := Col.get?_lt hk
  obtain ⟨v1, v2, _⟩ := Col.putV_spec hv
  have hjv : j < vs.len := by rw [hm.vals]; exact hj
  have born : ∀ (i : Nat) (e : MapEntry), (es.modify j fun e => { e with key, val })[i]? = some e → ∃ e0, es[i]? = some e0 ∧ e.born = e0.born ∧ (i = j → e.key = key ∧ e.val = val) ∧ (i ≠ j → e = e0) := by
    intro i e he
    rw [Array.getElem?_modify] at he
    split at he
    · rename_i hji
      subst hji
      cases h0 : es[j]? with
      | none => rw [h0] at he; cases he
      | some e0 => rw [h0] at he; simp at he; subst he; exact ⟨e0, rfl, rfl, fun _ => ⟨rfl, rfl⟩, fun hne => absurd rfl hne⟩
    · rename_i hji
      exact ⟨e, he, rfl, fun e => absurd e.symm hji, fun _ => rfl⟩
  refine ⟨by simp [hm.size], by rw [(v2 j rfl hjv).2, hm.vals], fun i e he => ?_, fun i e he => ?_, fun i i' e e' hlt he he' => ?_⟩
  · obtain ⟨e0, h0, _, h1, h2⟩ := born i e he
    by_cases hij : i = j
    · subst hij
      rw [(h1 rfl).1, (h1 rfl).2]
      exact ⟨hk, (v2 i rfl hjv).1⟩
    · rw [h2 hij]
      obtain ⟨a1, a2⟩ := hm.at_ i e0 h0
      exact ⟨a1, by rw [v1 i (fun h => hij (Option.some.inj h).symm) (Col.get?_lt a2)]; exact a2⟩
  · obtain ⟨e0, h0, h1, _⟩ := born i e he
    rw [h1]; exact hm.born i e0 h0
  · obtain ⟨e0, h0, h1, _⟩ := born i e he
    obtain ⟨e0', h0', h1', _⟩ := born i' e' he'
    rw [h1, h1']; exact hm.order i i' e0 e0' hlt h0 h0'

theorem MapIs.push {es : Array MapEntry} {clock : Nat} {ks ks' vs vs' : Col} {key val : Value} (hm : MapIs es clock ks vs) (hk : ks.putK none key = some ks') (hv : vs.putV none val = some vs') :
    MapIs (es.push { key, val, born := clock }) (clock + 1) ks' vs' := by
  obtain ⟨v1, _, v3⟩ := Col.putV_spec hv
  obtain ⟨k1, _, k3⟩ := Col.putK_spec hk
  have get : ∀ (i : Nat) (e : MapEntry), (es.push { key, val, born := clock })[i]? = some e → (i < es.size ∧ es[i]? = some e) ∨ (i = es.size ∧ e = { key, val, born := clock }) := by
    intro i e he
    rw [Array.getElem?_push] at he
    split at he
    · rename_i hi; subst hi; cases he; exact .inr ⟨rfl, rfl⟩
    · exact .inl ⟨(Array.getElem?_eq_some_iff.1 he).1, he⟩
  refine ⟨by rw [(k3 rfl).2]; simp [hm.size], by rw [(v3 rfl).2, (k3 rfl).2, hm.vals], fun i e he => ?_, fun i e he => ?_, fun i i' e e' hlt he he' => ?_⟩
  · rcases get i e he with ⟨hi, h1⟩ | ⟨hi, rfl⟩
    · obtain ⟨a1, a2⟩ := hm.at_ i e h1
      exact ⟨by rw [k1 i (Col.get?_lt a1)]; exact a1, by rw [v1 i (fun h => by cases h) (Col.get?_lt a2)]; exact a2⟩
    · subst hi
      have e1 : es.size = ks.len := hm.size
      have e2 : es.size = vs.len := by rw [e1, hm.vals]
      exact ⟨by rw [e1]; exact (k3 rfl).1, by rw [e2]; exact (v3 rfl).1⟩
  · rcases get i e he with ⟨hi, h1⟩ | ⟨hi, rfl⟩
    · have := hm.born i e h1; omega
    · simp
  · rcases get i e he with ⟨hi, h1⟩ | ⟨hi, rfl⟩ <;> rcases get i' e' he' with ⟨hi', h1'⟩ | ⟨hi', rfl⟩
    · exact hm.order i i' e e' hlt h1 h1'
    · exact hm.born i e h1
    · omega
    · omega

theorem mdel_len {ν : Type} {m : List ν} {j : Nat} (h : j < m.length) : (mdel m (some j)).length = m.length - 1 := by simp [mdel, List.length_eraseIdx, h]
theorem Col.del_spec {c : Col} {j : Nat} (h : j < c.len) : (c.del (some j)).len = c.len - 1 ∧ ∀ i, (c.del (some j)).get? i = if i < j then c.get? i else c.get? (i + 1) := by
  cases c <;> simp only [Col.len] at h <;> refine ⟨mdel_len h, fun i => ?_⟩ <;> simp only [Col.del, Col.get?, mdel, List.getElem?_eraseIdx] <;> split <;> rfl

theorem MapIs.del {es : Array MapEntry} {clock j : Nat} {ks vs : Col} (hm : MapIs es clock ks vs) (hj : j < es.size) : MapIs (es.eraseIdxIfInBounds j) clock (ks.del (some j)) (vs.del (some j)) := by
  have hk : j < ks.len := by rw [← hm.size]; exact hj
  have hv : j < vs.len := by rw [hm.vals]; exact hk
  obtain ⟨k1, k2⟩ := Col.del_spec hk
  obtain ⟨v1, v2⟩ := Col.del_spec hv
  have get : ∀ i : Nat, (es.eraseIdxIfInBounds j)[i]? = if i < j then es[i]? else es[i + 1]? := by
    intro i
    simp only [Array.eraseIdxIfInBounds, hj, dite_true]
    rw [← Array.getElem?_toList, Array.toList_eraseIdx, List.getElem?_eraseIdx]
    split <;> simp
  refine ⟨?_, by rw [v1, k1, hm.vals], fun i e he => ?_, fun i e he => ?_, fun i i' e e' hlt he he' => ?_⟩
  · rw [k1, ← hm.size]
    simp [Array.eraseIdxIfInBounds, hj]
  · rw [get] at he
    rw [k2, v2]
    split at he
    · rename_i hi; rw [if_pos hi, if_pos hi]; exact hm.at_ i e he
    · rename_i hi; rw [if_neg hi, if_neg hi]; exact hm.at_ (i + 1) e he
  · rw [get] at he
    split at he
    · exact hm.born i e he
    · exact hm.born _ e he
  · rw [get] at he he'
    split at he <;> split at he'
    · exact hm.order _ _ e e' hlt he he'
    · exact hm.order _ _ e e' (by omega) he he'
    · omega
    · exact hm.order _ _ e e' (by omega) he he'

theorem run_setObj {b : Nat} {es : Array MapEntry} {clock : Nat} {o : Obj} {w : World} (h : w.heap[b]? = some (.map es clock)) : (setObj b o).run P w = .ok () { w with heap := w.heap.setIfInBounds b o } := by
  show (Sem.setObj b o (Sem.pure ())).run P w = _
  simp only [Sem.run, h]

theorem run_keyStays {kt : Nat} {ks : Col} {key : Value} {o : Option Nat} (hk : keyKind P kt ks = true) (ho : ks.idx key = some o) (w : World) : (Instr.keyThatStays key key).run P w = .ok key w := by
  have hsame : Instr.sameBits 10000 key key = true := by
    unfold Col.idx at ho
    split at ho <;> try (cases ho; done)
    · simp [Instr.sameBits]
    · simp [Instr.sameBits]
    · simp [Instr.sameBits, beq_bytes]
  simp only [Instr.keyThatStays, hsame, if_true]
  rfl

theorem mapUpdateL_sound (hs : SatH K θ h nx w) {T : Nat} {x y z : SV} {u v t : Value} (hu : V θ x u) (hv : V θ y v) (ht : V θ z t) {k : List (Nat × R) → Nat → Prop} (hq : mapUpdateL P T x y z h nx k) :
    ∃ h' w', k h' nx ∧ SatH K θ h' nx w' ∧ (Instr.mapUpdate T u v t).run P w = .ok () w' := by
  unfold mapUpdateL at hq
  split at hq <;> try exact hq.elim
  rename_i kt vt n key val hT hk1 hk2
  obtain rfl := V_scal hk1 hv
  obtain rfl := V_scal hk2 ht
  split at hq <;> try exact hq.elim
  rename_i ks vs hf
  split at hq <;> try exact hq.elim
  rename_i o ho
  split at hq <;> try exact hq.elim
  rename_i ks' vs' hks hvs
  obtain ⟨hkk, hk⟩ := cond_false hq
  simp only [V] at hu
  obtain ⟨L, hL, rfl⟩ := hu
  obtain ⟨L', hL', ha, es, clock, hb, hm⟩ := hs.res n _ hf
  obtain rfl := Option.some.inj (hL.symm.trans hL')
  have hlt := (Array.getElem?_eq_some_iff.1 hb).1
  have turn : ∀ (es' : Array MapEntry) (clock' : Nat), MapIs es' clock' ks' vs' → SatH K θ ((n, .map ks' vs') :: h) nx { w with heap := w.heap.setIfInBounds L.b (.map es' clock') } := by
    intro es' clock' hm'
    refine hs.turn hf hL trivial rfl rfl rfl (by simp) (fun b hne => by simp [Ne.symm hne]) trivial (fun X' _ => ⟨ha, es', clock', ?_, hm'⟩)
    simp [hlt]
  cases o with
  | none =>
    refine ⟨_, _, hk, turn _ _ (hm.push hks hvs), ?_⟩
    simp only [Instr.mapUpdate, Sem.run_bind, run_underlying hT, Result.andThen, run_getObj_map hb, run_checkKey hkk, run_findKey hkk ho hm, eget, run_setObj hb]
  | some j =>
    obtain ⟨e, he, hek, hkj⟩ := find_place hkk ho hm
    have hks' : ks' = ks := (Col.putK_spec hks).2.1 j rfl
    subst hks'
    refine ⟨_, _, hk, turn _ _ (hm.set hkj hvs), ?_⟩
    simp only [Instr.mapUpdate, Sem.run_bind, run_underlying hT, Result.andThen, run_getObj_map hb, run_checkKey hkk, run_findKey hkk ho hm, eget, he, Option.map_some, Option.getD_some, hek, run_keyStays hkk ho, run_setObj hb]

theorem deleteL_sound (hs : SatH K θ h nx w) {T : Nat} {ts : Array Nat} {ty : Nat} {x y : SV} {u v : Value} (hts : ts[0]? = some T) (hu : V θ x u) (hv : V θ y v) {k : HK} (hq : deleteL P T x y h nx k) :
    ∃ r h' w' v', k r h' nx ∧ SatH K θ h' nx w' ∧ V θ r v' ∧ (Builtin.delete_ ts ty #[u, v]).run P w = .ok v' w' := by
  unfold deleteL at hq
  split at hq <;> try exact hq.elim
  rename_i kt vt n key hT hk1
  obtain rfl := V_scal hk1 hv
  split at hq <;> try exact hq.elim
  rename_i ks vs hf
  split at hq <;> try exact hq.elim
  rename_i o ho
  obtain ⟨hkk, hk⟩ := cond_false hq
  simp only [V] at hu
  obtain ⟨L, hL, rfl⟩ := hu
  obtain ⟨L', hL', ha, es, clock, hb, hm⟩ := hs.res n _ hf
  obtain rfl := Option.some.inj (hL.symm.trans hL')
  have hlt := (Array.getElem?_eq_some_iff.1 hb).1
  have turn : ∀ (es' : Array MapEntry), MapIs es' clock (ks.del o) (vs.del o) → SatH K θ ((n, .map (ks.del o) (vs.del o)) :: h) nx { w with heap := w.heap.setIfInBounds L.b (.map es' clock) } := by
    intro es' hm'
    refine hs.turn hf hL trivial rfl rfl rfl (by simp) (fun b hne => by simp [Ne.symm hne]) trivial (fun X' _ => ⟨ha, es', clock, ?_, hm'⟩)
    simp [hlt]
  cases o with
  | none =>
    have e1 : ks.del none = ks := by cases ks <;> rfl
    have e2 : vs.del none = vs := by cases vs <;> rfl
    refine ⟨_, _, _, .tuple #[], hk, turn es (by rw [e1, e2]; exact hm), by simp only [V]; exact ⟨[], rfl, by simp [VL]⟩, ?_⟩
    simp [Builtin.delete_, hts, run_underlying hT, run_getObj_map hb, run_checkKey hkk, run_findKey hkk ho hm, eget, run_setObj hb]
  | some j =>
    obtain ⟨e, he, hek, hkj⟩ := find_place hkk ho hm
    refine ⟨_, _, _, .tuple #[], hk, turn _ (hm.del (Array.getElem?_eq_some_iff.1 he).1), by simp only [V]; exact ⟨[], rfl, by simp [VL]⟩, ?_⟩
    simp [Builtin.delete_, hts, run_underlying hT, run_getObj_map hb, run_checkKey hkk, run_findKey hkk ho hm, eget, he, run_setObj hb]
end
end Go.Z

namespace Go.Z
open Go.RowKit

section
variable {P : Program} {K : Ctx} {θ : Th} {h : List (Nat × R)} {nx : Nat} {w : World}

def LOK (K : Ctx) (θ : Th) (nx : Nat) (k : HK) (res : Result Value) : Prop :=
  ∃ r h' nx' θ' v' w', k r h' nx' ∧ SatH K θ' h' nx' w' ∧ θ.ext θ' ∧ V θ' r v' ∧ res = .ok v' w' ∧ nx ≤ nx'

theorem below_alloc (w : World) (o : Obj) : Below w.heap.size w (w.alloc o) := (Below.refl _ _).alloc (Nat.le_refl _) o

def newLoc (w : World) : Loc := { a := some ⟨w.heap.size, 0, none⟩, len := 0, cap := 0 }

theorem add_blk (hs : SatH K θ h nx w) {T : Nat} {l : List SV} {cs : List Value} (hl : VL θ l cs) :
    SatH K (θ.add nx (newLoc w)) ((nx, .blk T l) :: h) (nx + 1) (w.alloc (.cells cs.toArray T)) := by
  refine hs.add_new (below_alloc _ _) (fun _ => Nat.le_refl _) (fun θ' X' hθ _ _ => ?_)
  refine ⟨cs, rfl, ?_, VL_mono hθ _ _ hl⟩
  show (w.heap.push _)[w.heap.size]? = _
  simp

theorem V_new (θ : Th) (nx : Nat) (w : World) : V (θ.add nx (newLoc w)) (.p nx 0) (.pointer (some ⟨w.heap.size, 0, none⟩)) := by
  simp only [V]
  exact ⟨_, Th.add_self _ _ _, rfl⟩

theorem add_arr (hs : SatH K θ h nx w) {T : Nat} {kk : IntKind} {xs : List Int} :
    SatH K (θ.add nx (arrLoc w.heap.size xs.length)) ((nx, .own T (.ints kk xs)) :: h) (nx + 1) (w.alloc (.cells (xs.map (Value.int kk)).toArray T)) ∧
    V (θ.add nx (arrLoc w.heap.size xs.length)) (.q nx) (.pointer (some ⟨w.heap.size, 0, none⟩)) := by
  refine ⟨hs.add_new (below_alloc _ _) (fun _ => Nat.le_refl _) (fun θ' X' hθ _ _ => arr_own ?_), ?_⟩
  · show (w.heap.push _)[w.heap.size]? = _
    simp
  · simp only [V]
    exact ⟨_, Th.add_self _ _ _, rfl, rfl⟩

theorem zeroInts_sound {T n : Nat} {kk : IntKind} (hz : zeroInts P T = some (kk, n)) : ∃ i z, P.info? T = some i ∧ i.zero = some z ∧ z.cells = ((List.replicate n 0).map (Value.int kk)).toArray := by
  unfold zeroInts at hz
  split at hz <;> try (cases hz; done)
  rename_i m e hT
  split at hz <;> try (cases hz; done)
  rename_i k' l hke hzl
  cases hc : (Nat.beq l.length m && l.all (zeroInts.isZ k')) with
  | false => rw [hc] at hz; cases hz
  | true =>
    rw [hc] at hz; cases hz
    simp only [Bool.and_eq_true] at hc
    have hlen := nbeq hc.1
    unfold zeroS at hzl
    split at hzl <;> try (cases hzl; done)
    rename_i i hi
    split at hzl <;> cases hzl
    rename_i z hzv
    refine ⟨i, z, hi, hzv, ?_⟩
    apply Array.ext'
    have h2 := hc.2
    have key : ∀ cs : List Value, (cs.map liftK1).all (zeroInts.isZ kk) = true → cs = (List.replicate cs.length 0).map (Value.int kk) := by
      intro cs
      induction cs with
      | nil => intro _; rfl
      | cons c cs ih =>
        intro ha
        simp only [List.map_cons, List.all_cons, Bool.and_eq_true] at ha
        have h1 : c = .int kk 0 := by
          have h3 := ha.1
          unfold zeroInts.isZ at h3
          split at h3 <;> try (cases h3; done)
          rename_i k2 heq
          have hk := of_decide_eq_true h3
          subst hk
          unfold liftK1 at heq
          split at heq <;> simp at heq
          exact heq
        rw [h1, List.length_cons, List.replicate_succ, List.map_cons, ← ih ha.2]
    have := key z.cells.toList h2
    rw [List.length_map] at hlen
    rw [hlen] at this
    exact this

theorem allocL_sound (hs : SatH K θ h nx w) {T : Nat} {k : HK} (hq : allocL P T h nx k) : LOK K θ nx k ((Instr.alloc T true (.tuple #[])).run P w) := by
  unfold allocL at hq
  split at hq
  · rename_i kk n hzi
    obtain ⟨i, z, hi, hzv, hcs⟩ := zeroInts_sound hzi
    obtain ⟨a1, a2⟩ := add_arr (T := T) (kk := kk) (xs := List.replicate n 0) hs
    refine ⟨_, _, _, _, _, _, hq, a1, Th.add_ext (hs.fresh nx (Nat.le_refl _)) _, a2, ?_, by omega⟩
    simp [Instr.alloc, run_zero hi hzv, newVar, newRow, hcs]
  split at hq <;> try exact hq.elim
  rename_i l hz
  unfold zeroS at hz
  split at hz <;> try (cases hz; done)
  rename_i i hi
  split at hz <;> cases hz
  rename_i z hzv
  refine ⟨_, _, _, _, _, _, hq, add_blk (T := T) hs (VL_liftK1 θ z.cells.toList), Th.add_ext (hs.fresh nx (Nat.le_refl _)) _, V_new θ nx w, ?_, by omega⟩
  simp [Instr.alloc, run_zero hi hzv, newVar, newRow]

theorem boxL_sound (hs : SatH K θ h nx w) {T : Nat} {s : SV} {v : Value} (hv : V θ s v) {k : HK} (hq : boxL T s h nx k) : LOK K θ nx k ((Instr.box T v).run P w) := by
  unfold boxL at hq
  split at hq
  · rename_i kk xs
    simp only [V] at hv; subst hv
    obtain ⟨a1, a2⟩ := add_arr (T := T) (kk := kk) (xs := xs) hs
    refine ⟨_, _, _, _, _, _, hq, a1, Th.add_ext (hs.fresh nx (Nat.le_refl _)) _, a2, ?_, by omega⟩
    simp [Instr.box, newVar, newRow, Value.cells]
  split at hq <;> try exact hq.elim
  rename_i l hl
  refine ⟨_, _, _, _, _, _, hq, add_blk (T := T) hs (V_cellsS hl hv), Th.add_ext (hs.fresh nx (Nat.le_refl _)) _, V_new θ nx w, ?_, by omega⟩
  simp [Instr.box, newVar, newRow]

theorem cellsS_one {s : SV} {l : List SV} {v : Value} (h : cellsS s = some l) (hv : V θ s v) (hall : l.all oneS = true) : ∀ u ∈ v.cells.toList, u.oneCell' = true := by
  have hvl := V_cellsS h hv
  intro u hu
  obtain ⟨p, hp, hpu⟩ := List.getElem_of_mem hu
  have hlen := VL_length hvl
  have hp' : p < l.length := by omega
  obtain ⟨v', h1, h2⟩ := VL_get hvl (List.getElem?_eq_getElem hp')
  rw [List.getElem?_eq_getElem hp] at h1
  cases h1
  rw [hpu] at h2
  exact oneCell_of (List.all_eq_true.1 hall _ (List.getElem_mem hp')) h2

theorem run_storeVar {T sz : Nat} {g : Bool} (hk : kindT P T = some (g, sz)) {b o T' : Nat} {cur : Array Value} {v : Value} (hb : w.heap[b]? = some (.cells cur T' (0, 0)))
    (hsz : v.cells.size = sz) (hfit : o + sz ≤ cur.size) (h1 : ∀ u ∈ v.cells.toList, u.oneCell' = true) :
    (Instr.storeAt T (.pointer (some ⟨b, o, none⟩)) v).run P w = .ok () (w.setRow b (cur.toList.take o ++ v.cells.toList ++ cur.toList.drop (o + sz)).toArray) := by
  have := run_storeCells_at P b o T' v.cells.toList 0 cur w hb (by simp; omega) h1
  simp only [Nat.add_zero, Array.length_toList, hsz] at this
  simp [Instr.storeAt, Instr.sureAddr, storeVar, (run_kind hk w).2, hsz, this]

theorem VL_splice {l cs : List SV} {us vs : List Value} (o : Nat) (hl : VL θ l us) (hc : VL θ cs vs) : VL θ (splice l o cs) (us.take o ++ (vs ++ us.drop (o + vs.length))) := by
  unfold splice
  rw [← VL_length hc]
  exact VL_append (VL_take o hl) (VL_append hc (VL_drop _ hl))

theorem D.set_cells {X : Nat → Prop} {k : IntKind} {xs : List Int} {cs : List Value} {i : Nat} {z : Int} (h : (D.ints k xs).cellsAre X w cs) (hi : i < xs.length) :
    (D.ints k (xs.set i z)).cellsAre X w (cs.take i ++ ([Value.int k z] ++ cs.drop (i + 1))) := by
  simp only [D.cellsAre] at *
  subst h
  rw [List.set_eq_take_append_cons_drop, if_pos hi]
  simp

theorem setRec_cells {X : Nat → Prop} {es m : Nat} {f : Nat → Nat → D} {cs us : List Value} {i o : Nat} {ds : List D} (h : (D.recs es m f).cellsAre X w cs) (hi : i < m) (ho : o + ds.length ≤ es)
    (hd : DL.holds X w ds us) : (D.recs es m (setRec f i o ds)).cellsAre X w (cs.take (i * es + o) ++ (us ++ cs.drop (i * es + o + us.length))) := by
  obtain ⟨h1, h2⟩ := h
  have hl := DL.length hd
  have hle : i * es + o + us.length ≤ cs.length := by
    rw [h1, ← hl]
    have : (i + 1) * es ≤ m * es := Nat.mul_le_mul_right _ hi
    rw [Nat.add_mul] at this; omega
  refine ⟨by simp; omega, fun i' hi' j' hj' => ?_⟩
  obtain ⟨c, h3, h4⟩ := h2 i' hi' j' hj'
  have hlt := (List.getElem?_eq_some_iff.1 h3).1
  have htk : (cs.take (i * es + o)).length = i * es + o := by simp; omega
  by_cases hin : i' = i ∧ o ≤ j' ∧ j' < o + ds.length
  · obtain ⟨rfl, a1, a2⟩ := hin
    have e1 : setRec f i' o ds i' j' = ds.getD (j' - o) (f i' j') := by
      have b1 : Nat.ble o j' = true := Nat.ble_eq ▸ a1
      have b2 : Nat.blt j' (o + ds.length) = true := Nat.ble_eq ▸ a2
      simp [setRec, b1, b2]
    have hlt2 : j' - o < us.length := by omega
    have get : ∀ {l : List D} {vs : List Value} (p : Nat), DL.holds X w l vs → (hp : p < l.length) → ∃ c, vs[p]? = some c ∧ l[p].holds X w c := by
      intro l
      induction l with
      | nil => intro vs p _ hp; simp at hp
      | cons d l ih =>
        intro vs p hh hp
        cases vs with
        | nil => exact hh.elim
        | cons v vs =>
          cases p with
          | zero => exact ⟨v, rfl, hh.1⟩
          | succ p => simpa using ih p hh.2 (by simpa using hp)
    obtain ⟨c', g1, g2⟩ := get (j' - o) hd (by omega)
    refine ⟨c', ?_, ?_⟩
    · rw [List.getElem?_append_right (by omega), htk, show i' * es + j' - (i' * es + o) = j' - o by omega, List.getElem?_append_left (by omega)]
      exact g1
    · rw [e1, List.getD, List.getElem?_eq_getElem (by omega)]
      exact g2
  · have e1 : setRec f i o ds i' j' = f i' j' := by
      unfold setRec
      have : (Nat.beq i' i && Nat.ble o j' && Nat.blt j' (o + ds.length)) = false := by
        cases hb : (Nat.beq i' i && Nat.ble o j' && Nat.blt j' (o + ds.length)) with
        | false => rfl
        | true =>
          simp only [Bool.and_eq_true] at hb
          exact absurd ⟨nbeq hb.1.1, nble hb.1.2, nblt hb.2⟩ hin
      rw [this]; rfl
    rw [e1]
    refine ⟨c, ?_, h4⟩
    by_cases hlow : i' * es + j' < i * es + o
    · rw [List.getElem?_append_left (by omega), List.getElem?_take, if_pos hlow]; exact h3
    · have hhigh : i * es + o + us.length ≤ i' * es + j' := by
        rcases Nat.lt_trichotomy i' i with hc | hc | hc
        · exfalso
          have : (i' + 1) * es ≤ i * es := Nat.mul_le_mul_right _ hc
          rw [Nat.add_mul] at this; omega
        · subst hc; omega
        · have : (i + 1) * es ≤ i' * es := Nat.mul_le_mul_right _ hc
          rw [Nat.add_mul] at this; omega
      rw [List.getElem?_append_right (by omega), htk, List.getElem?_append_right (by omega), List.getElem?_drop]
      rw [show i * es + o + us.length + (i' * es + j' - (i * es + o) - us.length) = i' * es + j' by omega]
      exact h3

theorem turn_own (hs : SatH K θ h nx w) {n T : Nat} {d d' : D} {L : Loc} {cs vs : List Value} {p : Nat} {cur : Array Value} (hn : hfind h n = some (.own T d)) (hL : θ n = some L)
    (hcap : L.cap ≠ 0) (hlen : d'.len = d.len) (hes : d'.es = d.es) (hcs : cs.length = d.len * d.es) (hload : ∀ j v, cs[j]? = some v → w.cell? ⟨L.b, L.o + j, none⟩ = some v) (hb : w.heap[L.b]? = some (.cells cur T (0, 0)))
    (hp : p + vs.length ≤ cs.length) (hcur : L.o + L.cap * d.es ≤ cur.size)
    (hd' : ∀ X' : Nat → Prop, (∀ b, b < w.heap.size → Free K θ h b → X' b) → ∀ w' : World, (∀ b, b < w.heap.size → Free K θ h b → w'.heap[b]? = w.heap[b]?) → d'.cellsAre X' w' (cs.take p ++ (vs ++ cs.drop (p + vs.length)))) :
    SatH K θ ((n, .own T d') :: h) nx (w.setRow L.b (cur.toList.take (L.o + p) ++ vs ++ cur.toList.drop (L.o + p + vs.length)).toArray) := by
  obtain ⟨L', hL', hat, hw, hown⟩ := hs.res n _ hn
  obtain rfl := Option.some.inj (hL.symm.trans hL')
  obtain ⟨len1, len2⟩ := D.at_len hat
  have hme : OwnsAt θ h n L.b := ⟨_, L, hn, hL, hcap, rfl⟩
  have hcss : cs.length ≤ L.cap * d.es := by rw [hcs]; exact Nat.mul_le_mul_right _ (by omega)
  refine hs.turn hn hL hcap rfl rfl rfl (by simp) (fun b hne => setRow_other w L.b b _ hne) hcap (fun X' hX' => ⟨?_, hw, fun _ => ⟨_, setRow_heap w L.b cur _ T _ hb, ?_⟩⟩)
  · refine D.at_of_cells (by omega) len2 (fun j v hv => ?_) (hd' X' hX' _ (fun b hb' hf => setRow_other w L.b b _ (fun e => hf.1 n (e ▸ hme))))
    rw [cell_setRow_same w L.b _ cur _ T _ hb]
    have hj := (List.getElem?_eq_some_iff.1 hv).1
    simp only [List.length_append, List.length_take, List.length_drop] at hj
    have t1 : (cs.take p).length = p := by simp; omega
    have t2 : (cur.toList.take (L.o + p)).length = L.o + p := by simp; omega
    have hold : ∀ q u, cs[q]? = some u → cur.toList[L.o + q]? = some u := fun q u hq => by
      have := hload q u hq
      simpa [World.cell?, hb] using this
    simp only [List.getElem?_toArray]
    by_cases c1 : j < p
    · rw [List.getElem?_append_left (by omega), List.getElem?_take, if_pos c1] at hv
      rw [List.append_assoc, List.getElem?_append_left (by omega), List.getElem?_take, if_pos (by omega)]
      exact hold j v hv
    · rw [List.getElem?_append_right (by omega), t1] at hv
      rw [List.append_assoc, List.getElem?_append_right (by omega), t2, show L.o + j - (L.o + p) = j - p by omega]
      by_cases c2 : j - p < vs.length
      · rw [List.getElem?_append_left c2] at hv ⊢; exact hv
      · rw [List.getElem?_append_right (by omega), List.getElem?_drop] at hv ⊢
        rw [show L.o + p + vs.length + (j - p - vs.length) = L.o + (p + vs.length + (j - p - vs.length)) by omega]
        exact hold _ _ hv
  · simp only [List.size_toArray, List.length_append, List.length_take, List.length_drop, Array.length_toList]
    rw [hes]
    omega

theorem freezeL_ro : ∀ {l : List SV} {h : List (Nat × R)} {n T : Nat} {d d' : D}, hfind h n = some (.ro d') → hfind (freezeL h l) n ≠ some (.own T d)
  | [], h, n, T, d, d', h2 => by
    simp only [freezeL, h2]
    intro e; cases e
  | s :: l, h, n, T, d, d', h2 => by
    cases s <;> simp only [freezeL] <;> first
      | exact freezeL_ro h2
      | skip
    rename_i m
    have : ∃ d'', hfind (freezeH h m) n = some (.ro d'') := by
      unfold freezeH
      split
      · rename_i T2 d2 hf
        rw [hfind_cons]
        by_cases e : m = n
        · exact ⟨_, if_pos e⟩
        · rw [if_neg e]; exact ⟨_, h2⟩
      · exact ⟨_, h2⟩
    obtain ⟨d'', h3⟩ := this
    exact freezeL_ro h3

theorem freezeL_own : ∀ {l : List SV} {h : List (Nat × R)} {n T T' : Nat} {d d' : D}, hfind (freezeL h l) n = some (.own T d) → hfind h n = some (.own T' d') → d = d'
  | [], h, n, T, T', d, d', h1, h2 => by
    simp only [freezeL] at h1
    rw [h1] at h2; cases h2; rfl
  | s :: l, h, n, T, T', d, d', h1, h2 => by
    cases s <;> simp only [freezeL] at h1 <;> first
      | exact freezeL_own h1 h2
      | skip
    rename_i m
    by_cases e : n = m
    · subst e
      have : hfind (freezeH h n) n = some (.ro d') := by
        simp only [freezeH, h2, hfind_cons, if_pos]
      exact absurd h1 (freezeL_ro this)
    · refine freezeL_own h1 (T' := T') (d' := d') ?_
      unfold freezeH
      split
      · rw [hfind_cons, if_neg (Ne.symm e)]; exact h2
      · exact h2

theorem storeL_sound (hs : SatH K θ h nx w) {T : Nat} {t s : SV} {u v : Value} (hu : V θ t u) (hv : V θ s v) {k : List (Nat × R) → Nat → Prop} (hq : storeL P T t s h nx k) :
    ∃ h' w', k h' nx ∧ SatH K θ h' nx w' ∧ (Instr.storeAt T u v).run P w = .ok () w' := by
  unfold storeL at hq
  split at hq
  · rename_i n o
    split at hq <;> try exact hq.elim
    rename_i T' l g sz cs hf hk hcs
    obtain ⟨hc, hk1⟩ := cond_false hq
    simp only [Bool.and_eq_true] at hc
    obtain ⟨⟨c1, c2⟩, c3⟩ := hc
    have c1 := nbeq c1
    have c2 := nble c2
    obtain ⟨L, hL, us, e1, e2, e3⟩ := hs.res n _ hf
    simp only [V] at hu
    obtain ⟨L', hL', rfl⟩ := hu
    obtain rfl := Option.some.inj (hL.symm.trans hL')
    have ho : L.o = 0 := by unfold Loc.o; rw [e1]
    have hvl := V_cellsS hcs hv
    have l1 := VL_length hvl
    have l2 := VL_length e3
    have hsz : v.cells.size = sz := by have : v.cells.toList.length = v.cells.size := by simp
                                       omega
    have hrun := run_storeVar (P := P) (w := w) hk (b := L.b) (o := o) (cur := us.toArray) (v := v) e2 hsz (by simp; omega) (cellsS_one hcs hv c3)
    refine ⟨_, _, hk1, ?_, by rw [ho, Nat.zero_add]; exact hrun⟩
    refine hs.turn hf hL trivial rfl rfl rfl (by simp) (fun b hne => setRow_other w L.b b _ hne) trivial (fun X' _ => ⟨us.take o ++ (v.cells.toList ++ us.drop (o + v.cells.toList.length)), e1, ?_, VL_splice o e3 hvl⟩)
    rw [setRow_heap w L.b us.toArray _ T' _ e2]
    simp [hsz]
  · rename_i n es i o
    split at hq
    · rename_i T' kk xs g sz hf hk
      split at hq <;> try exact hq.elim
      rename_i c hcs
      split at hq <;> try exact hq.elim
      rename_i k' z hz
      obtain ⟨hc, hk1⟩ := cond_false hq
      obtain ⟨rfl, hk2⟩ := hk1
      simp only [Bool.and_eq_true] at hc
      obtain ⟨⟨c1, c2⟩, c3⟩ := hc
      obtain rfl := nbeq c1
      obtain rfl := nbeq c2
      obtain rfl := nbeq c3
      simp only [V] at hu
      obtain ⟨L, hL, hi, rfl⟩ := hu
      obtain ⟨L', hL', hat, hw, hown⟩ := hs.res n _ hf
      obtain rfl := Option.some.inj (hL.symm.trans hL')
      obtain ⟨len1, len2⟩ := D.at_len hat
      have hcap : L.cap ≠ 0 := by omega
      obtain ⟨cur, hb, hcur⟩ := hown hcap
      obtain ⟨cs, a1, a2, a3⟩ := D.at_cells hat
      have hcv : v.cells.toList = [.int kk z] := by
        have hvl := V_cellsS hcs hv
        unfold intOf1 at hz
        split at hz <;> cases hz
        obtain ⟨y, ys, e1, e2, e3⟩ := VL_cons_left hvl
        have := VL_nil_left e3
        subst this
        rw [e1]
        simp only [V] at e2
        rw [e2]
      have hlen : xs.length = L.len := by have := len1; simp [D.len] at this; omega
      have hes : (D.ints kk xs).es = 1 := rfl
      have hsz : v.cells.size = 1 := by rw [← Array.length_toList, hcv]; rfl
      have hrun := run_storeVar (P := P) (w := w) hk (b := L.b) (o := L.o + i) (cur := cur) (v := v) hb hsz (by rw [hes] at hcur; omega) (by intro u hu; rw [hcv] at hu; simp at hu; subst hu; rfl)
      refine ⟨_, _, hk2, turn_own (d' := .ints kk (xs.set i z)) (p := i) (vs := [.int kk z]) hs hf hL hcap (by simp [D.len]) rfl a1 a2 hb (by simp [a1, D.len, D.es]; omega) hcur ?_, ?_⟩
      · intro X' hX' w' hw'
        exact D.set_cells (D.cellsAre_mono (fun b hb' hfb => ⟨hX' b hb' hfb, hw' b hb' hfb⟩) a3) (by omega)
      · rw [show L.o + (i * 1 + 0) = L.o + i by omega, hrun, hcv]
        rfl
    · rename_i T' es' m f g sz hf hk
      split at hq <;> try exact hq.elim
      rename_i cs hcs
      split at hq <;> try exact hq.elim
      rename_i ds hds
      obtain ⟨hc, hk1⟩ := cond_false hq
      simp only [Bool.and_eq_true] at hc
      obtain ⟨⟨⟨c1, c2⟩, c3⟩, c4⟩ := hc
      have c1 := nbeq c1
      obtain rfl := nbeq c2
      have c3 := nble c3
      simp only [V] at hu
      obtain ⟨L, hL, hi, rfl⟩ := hu
      -- what is stored is read only from now on
      have hs1 : SatH K θ (freezeL h cs) nx w := freezeL_sound hs
      have hf1 : hfind (freezeL h cs) n = some (.own T' (.recs es m f)) := by
        unfold storeL.nodead at c4
        split at c4
        · rename_i T2 d2 hf2
          obtain rfl := nbeq c4
          rw [freezeL_own hf2 hf] at hf2
          exact hf2
        · cases c4
      obtain ⟨L', hL', hat, hw, hown⟩ := hs1.res n _ hf1
      obtain rfl := Option.some.inj (hL.symm.trans hL')
      obtain ⟨len1, len2⟩ := D.at_len hat
      have hcap : L.cap ≠ 0 := by omega
      obtain ⟨cur, hb, hcur⟩ := hown hcap
      obtain ⟨vs, a1, a2, a3⟩ := D.at_cells hat
      have hvl := V_cellsS hcs hv
      have hdl : DL.holds (Free K θ (freezeL h cs)) w ds v.cells.toList := dsOf_sound hs1 hvl hds
      have l0 := VL_length hvl
      have l1 := DL.length hdl
      have hsz : v.cells.size = sz := by have : v.cells.toList.length = v.cells.size := by simp
                                         omega
      have hes : (D.recs es m f).es = es := rfl
      have hlen : m = L.len := by have := len1; simp [D.len] at this; omega
      have hfit : i * es + o + v.cells.toList.length ≤ vs.length := by
        rw [a1, hes]
        have : (i + 1) * es ≤ (D.recs es m f).len * es := Nat.mul_le_mul_right _ (by simp [D.len]; omega)
        rw [Nat.add_mul] at this; omega
      have hvs : vs.length ≤ L.cap * es := by rw [a1, hes]; exact Nat.mul_le_mul_right _ (by omega)
      have hrun := run_storeVar (P := P) (w := w) hk (b := L.b) (o := L.o + (i * es + o)) (cur := cur) (v := v) hb hsz (by rw [hes] at hcur; omega) (fun u hu => by
        obtain ⟨p, hp, hpu⟩ := List.getElem_of_mem hu
        have get : ∀ {l : List D} {vs : List Value} (p : Nat) (hp : p < vs.length), DL.holds (Free K θ (freezeL h cs)) w l vs → vs[p].oneCell' = true := by
          intro l
          induction l with
          | nil => intro vs p hp hh; cases vs with
            | nil => simp at hp
            | cons _ _ => exact hh.elim
          | cons d l ih =>
            intro vs p hp hh
            cases vs with
            | nil => simp at hp
            | cons v vs =>
              cases p with
              | zero => exact D.holds_one hh.1
              | succ p => simpa using ih p (by simpa using hp) hh.2
        rw [← hpu]; exact get p hp hdl)
      refine ⟨_, _, hk1, turn_own (d' := .recs es m (setRec f i o ds)) (p := i * es + o) (vs := v.cells.toList) hs1 hf1 hL hcap rfl rfl a1 a2 hb hfit hcur ?_, ?_⟩
      · intro X' hX' w' hw'
        have hkp : Keeps (Free K θ (freezeL h cs)) X' w w' := fun b hb' hfb => ⟨hX' b hb' hfb, hw' b hb' hfb⟩
        exact setRec_cells (D.cellsAre_mono hkp a3) (by omega) (by omega) (DL.holds_mono hkp hdl)
      · rw [hrun]
        simp [hsz]
    · exact hq.elim
  · rename_i n
    split at hq <;> try exact hq.elim
    rename_i T' kk xs g sz kk' ys hf hk
    obtain ⟨⟨rfl, hsz, hlen⟩, hk1⟩ := hq
    simp only [V] at hu hv
    obtain ⟨L, hL, hLL, rfl⟩ := hu
    subst hv
    have ho : L.o = 0 := by rw [hLL]; rfl
    obtain ⟨L', hL', hat, hw, hown⟩ := hs.res n _ hf
    obtain rfl := Option.some.inj (hL.symm.trans hL')
    obtain ⟨len1, len2⟩ := D.at_len hat
    simp only [D.len] at len1
    by_cases hcap : L.cap = 0
    · have hy : ys = [] := List.eq_nil_of_length_eq_zero (by omega)
      have hx : xs = [] := List.eq_nil_of_length_eq_zero (by omega)
      subst hy hx
      refine ⟨_, w, hk1, ?_, ?_⟩
      · refine hs.gen (Th.ext_refl _) hs.fresh (fun b _ hf' => ⟨⟨fun m hm => ?_, hf'.2⟩, rfl⟩) (fun m r hr => ?_) (fun a b c h1 h2 => ?_) (fun a b h1 => ?_) hs.frame
        all_goals
          have own : ∀ m b, OwnsAt θ ((n, .own T' (.ints kk [])) :: h) m b → OwnsAt θ h m b := by
            rintro m b ⟨r1, L1, q1, q2, q3, q4⟩
            rw [hfind_cons] at q1
            split at q1
            · rename_i e; subst e; cases q1; exact ⟨_, L1, hf, q2, q3, q4⟩
            · exact ⟨r1, L1, q1, q2, q3, q4⟩
        · exact hf'.1 m (own m b hm)
        · rw [hfind_cons] at hr
          split at hr
          · rename_i e; subst e; cases hr; exact .inl ⟨hf, fun _ _ _ => rfl⟩
          · exact .inl ⟨hr, fun _ _ _ => rfl⟩
        · exact hs.dis a b c (own _ _ h1) (own _ _ h2)
        · exact hs.new a b (own _ _ h1)
      · have h0 : sz = 0 := hsz
        subst h0
        simp [Instr.storeAt, Instr.sureAddr, storeVar, (run_kind hk w).2, Value.cells, storeCells]
    · obtain ⟨cur, hb, hcur⟩ := hown hcap
      obtain ⟨cs, a1, a2, a3⟩ := D.at_cells hat
      have hcv : (Value.agg (ys.map (Value.int kk)).toArray).cells.toList = ys.map (Value.int kk) := rfl
      have hrun := run_storeVar (P := P) (w := w) hk (b := L.b) (o := 0) (cur := cur) (v := .agg (ys.map (Value.int kk)).toArray) hb (by simp [Value.cells, hsz]) (by rw [ho] at hcur; simp only [D.es] at hcur; omega)
        (by intro u hu; rw [hcv] at hu; obtain ⟨z, _, rfl⟩ := List.mem_map.1 hu; rfl)
      have hcl : cs.length = ys.length := by rw [a1]; simp [D.len, D.es, hlen]
      have := turn_own (d' := .ints kk ys) (p := 0) (vs := ys.map (Value.int kk)) hs hf hL hcap (by simp [D.len, hlen]) rfl a1 a2 hb (by simp [hcl]) hcur (fun X' _ w' _ => by
        simp only [D.cellsAre, List.take_zero, List.nil_append, Nat.zero_add, List.length_map]
        rw [← hcl, List.drop_length, List.append_nil])
      refine ⟨_, _, hk1, this, ?_⟩
      rw [hrun, hcv, ho]
      simp [hsz]
  · exact hq.elim

theorem bytesL_sound (hs : SatH K θ h nx w) {src dst : Nat} {s : SV} {u : Value} {k : HK} (hu : V θ s u) (hq : bytesL P src dst s h nx k) : LOK K θ nx k ((convert src dst u).run P w) := by
  unfold bytesL at hq
  split at hq <;> try exact hq.elim
  rename_i e str h1 h2
  split at hq <;> try exact hq.elim
  rename_i h3
  simp only [V] at hu; subst hu
  have hge := grownCap_ge w str.size 0 e
  have hsz : str.data.size = str.size := rfl
  generalize hcap : grownCap w str.size 0 e = cap at hge
  let arr : Array Value := (str.data.map fun b => Value.int .u8 (b.toNat : Int)) ++ Array.replicate (cap - str.size) (.int .u8 0)
  let w1 : World := { w.drew with heap := w.heap.push (.cells arr e (arr.size, arr.size + 1)) }
  have hheap : w1.heap[w.heap.size]? = some (.cells arr e (arr.size, arr.size + 1)) := by
    show (w.heap.push _)[w.heap.size]? = _
    simp
  have hb : Below w.heap.size w w1 := ⟨rfl, rfl, rfl, by show _ ≤ (w.heap.push _).size; simp, fun b hb => by
    show (w.heap.push _)[b]? = _
    rw [Array.getElem?_push, if_neg (by omega)]⟩
  refine ⟨_, _, _, θ.add nx { a := some ⟨w.heap.size, 0, none⟩, len := str.size, cap := cap }, .slice (some ⟨w.heap.size, 0, none⟩) str.size cap, w1, hq, hs.add_new hb (fun ho => ho.elim) (fun θ' X' hθ hX1 hX2 => ?_),
    Th.add_ext (hs.fresh nx (Nat.le_refl _)) _, by simp only [V]; exact ⟨_, Th.add_self _ _ _, rfl⟩, ?_, by omega⟩
  · refine ⟨⟨by simp [hsz], hge, fun i z hz => ?_⟩, .inr rfl, fun _ => ⟨hX2 _ (Nat.le_refl _) (fun h => h.1), by show _ < (w.heap.push _).size; simp [Loc.b]⟩⟩
    show World.cell? _ ⟨w.heap.size, 0 + i, none⟩ = _
    simp only [World.cell?, hheap, Nat.zero_add]
    simp only [Option.isSome_none, Bool.false_eq_true, if_false]
    rw [List.getElem?_map] at hz
    have hi : i < str.data.size := by
      have := (List.getElem?_eq_some_iff.1 (by rw [List.getElem?_map]; exact hz : (str.data.toList.map fun b => (b.toNat : Int))[i]? = some z)).1
      simpa using this
    rw [Array.getElem?_append_left (by simpa using hi)]
    simp only [Array.getElem?_map, Array.getElem?_toList] at hz ⊢
    simp at hz ⊢
    obtain ⟨a, ha, rfl⟩ := hz
    exact ⟨a, ha, rfl⟩
  · have e1 : w.heap.push (.cells arr e (0, 0)) = w.heap.push (.cells arr e) := rfl
    have hfz : (w.drew.alloc (.cells arr e)).freeze ⟨w.heap.size, arr.size, none⟩ 1 = w1 := by
      refine Eq.trans (b := ({ w.drew with heap := (w.heap.push (.cells arr e)).modify w.heap.size _ } : World)) rfl (congrArg (fun hp => ({ w.drew with heap := hp } : World)) ?_)
      apply Array.ext
      · simp
      · intro i h1 h2
        rw [Array.getElem_modify]
        simp only [Array.getElem_push]
        by_cases hi : i < w.heap.size
        · simp [hi, Nat.ne_of_gt hi]
        · have : i = w.heap.size := by simp at h2; omega
          subst this
          simp
    have hsh : (w.drew.alloc (.cells arr e)).shape? w.heap.size = some (e, arr.size) := by
      simp only [World.shape?]
      show (match (w.heap.push (.cells arr e))[w.heap.size]? with | some (.cells c elem _) => some (elem, c.size) | _ => none) = _
      simp
    have hcap' : (Question.appendCap str.size 0 e).cut (w.tape w.drawn (Question.appendCap str.size 0 e)) = cap := hcap
    simp [convert, run_underlying h1, run_underlying h2, run_underlying h3, Conv.stringToBytes, newRow, Question.forced, markStringish, hcap']
    show ((Sem.run P (match (w.drew.alloc (.cells arr e)).shape? w.heap.size with | some (_, n) => freeze ⟨w.heap.size, n, none⟩ 1 | x => pure ()) (w.drew.alloc (.cells arr e))).andThen fun _ w' => Result.ok (Value.slice (some ⟨w.heap.size, 0, none⟩) str.size cap) w') = _
    rw [hsh]
    simp only [freeze, Sem.run, Result.andThen, hfz]

theorem makeMapL_sound (hs : SatH K θ h nx w) {T : Nat} {r : Option Value} {rs : List SV} {k : HK} (hr : VL θ rs r.toList) (hq : makeMapL P T rs h nx k) : LOK K θ nx k ((Instr.makeMap T r).run P w) := by
  unfold makeMapL at hq
  split at hq <;> try exact hq.elim
  rename_i kt vt hT
  have hr' : r = none := by
    cases r with
    | none => rfl
    | some v => simp [VL] at hr
  subst hr'
  split at hq <;> try exact hq.elim
  rename_i ks vs hks hvs
  have e1 : ks.len = 0 := by
    unfold emptyCol at hks
    split at hks <;> cases hks <;> rfl
  have e2 : vs.len = 0 := by
    unfold emptyCol at hvs
    split at hvs <;> cases hvs <;> rfl
  refine ⟨_, _, _, θ.add nx (ptrLoc w.heap.size), .map (some w.heap.size), w.alloc (.map #[] 0), hq, hs.add_new (below_alloc _ _) (fun _ => Nat.le_refl _) (fun θ' X' _ _ _ => ⟨rfl, #[], 0, ?_, ?_⟩), Th.add_ext (hs.fresh nx (Nat.le_refl _)) _, ?_, ?_, by omega⟩
  · show (w.heap.push _)[w.heap.size]? = _
    simp
  · exact ⟨by simp [e1], by rw [e1, e2], fun i e he => by simp at he, fun i e he => by simp at he, fun i j e e' _ he => by simp at he⟩
  · simp only [V]; exact ⟨_, Th.add_self _ _ _, rfl⟩
  · rfl
end
end Go.Z
