/- Maps of scalars, as two columns: finding, setting, deleting. -/
import Derived.Test.YtonfaeenoifomaaZ4
namespace Go.Z
open Go.RowKit

/-- The first place of a key. -/
def midx {κ : Type} [DecidableEq κ] : List κ → κ → Option Nat
  | [], _ => none
  | k :: ks, x => if x = k then some 0 else match midx ks x with
    | some j => some (j + 1)
    | none => none
def oget {ν : Type} (m : List ν) (o : Option Nat) : Option ν := match o with
  | some j => m[j]?
  | none => none
/-- A value set at its place, or behind all. -/
def mputV {ν : Type} (m : List ν) (o : Option Nat) (v : ν) : List ν := match o with
  | some j => m.set j v
  | none => m ++ [v]
def mputK {κ : Type} (l : List κ) (o : Option Nat) (x : κ) : List κ := match o with
  | some _ => l
  | none => l ++ [x]
def mdel {ν : Type} (m : List ν) (o : Option Nat) : List ν := match o with
  | some j => m.eraseIdx j
  | none => m

theorem midx_lt {κ : Type} [DecidableEq κ] : ∀ {l : List κ} {x : κ} {j : Nat}, midx l x = some j → l[j]? = some x
  | [], _, _, h => by simp [midx] at h
  | k :: ks, x, j, h => by
    unfold midx at h
    split at h
    · cases h; rename_i e; simp [e]
    · split at h <;> cases h
      rename_i j' h'
      simpa using midx_lt h'

/-- What a key is, in a column. -/
def Col.idx (ks : Col) (key : Value) : Option (Option Nat) :=
  match ks, key with
  | .ints k l, .int k' x => if k = k' then some (midx l x) else none
  | .bools l, .bool x => some (midx l x)
  | .strs l, .string x => some (midx l x)
  | _, _ => none
def keyKind (P : Program) (kt : Nat) (ks : Col) : Bool :=
  match P.underlying kt, ks with
  | some (.int _), .ints _ _ => true
  | some .bool, .bools _ => true
  | some .string, .strs _ => true
  | _, _ => false
def Col.getAt (vs : Col) (o : Option Nat) : Value :=
  match vs with
  | .ints k m => .int k ((oget m o).getD 0)
  | .bools m => .bool ((oget m o).getD false)
  | .strs m => .string ((oget m o).getD ⟨#[]⟩)
def zeroOk (P : Program) (vt : Nat) (vs : Col) : Bool :=
  match P.info? vt with
  | some i => match i.zero, vs with
    | some (.int k 0), .ints k' _ => decide (k = k')
    | some (.bool false), .bools _ => true
    | some (.string s), .strs _ => decide (s.data.toList = [])
    | _, _ => false
  | none => false

theorem findNow_list {κ : Type} [DecidableEq κ] {enc : κ → Value} {kind : TypeDesc} {x : κ} (hs : ∀ y, Instr.sameNow kind (enc x) (enc y) = some (decide (x = y))) :
    ∀ (l : List κ) (es : List MapEntry) (i : Nat), es.map (·.key) = l.map enc → Instr.findNow kind (enc x) es i = some (match midx l x with | some j => (match es[j]? with | some e => some (i + j, e.val) | none => none) | none => none)
  | [], [], i, _ => rfl
  | [], _ :: _, _, h => by simp at h
  | _ :: _, [], _, h => by simp at h
  | y :: l, e :: es, i, h => by
    simp only [List.map_cons, List.cons.injEq] at h
    unfold Instr.findNow midx
    rw [h.1, hs y]
    by_cases hxy : x = y
    · simp [hxy]
    · have ih := findNow_list hs l es (i + 1) h.2
      simp only [hxy, decide_false]
      rw [ih, if_neg (fun h => h)]
      cases midx l x with
      | none => rfl
      | some j =>
        simp only [List.getElem?_cons_succ]
        cases es[j]? with
        | none => rfl
        | some e' => simp only [Option.some.injEq, Prod.mk.injEq, and_true]; omega

theorem Col.keys_of {es : List MapEntry} {κ : Type} {l : List κ} {enc : κ → Value} (hl : es.length = l.length) (h : ∀ (i : Nat) (e : MapEntry), es[i]? = some e → (l[i]?).map enc = some e.key) :
    es.map (·.key) = l.map enc := by
  apply List.ext_getElem?
  intro i
  simp only [List.getElem?_map]
  cases he : es[i]? with
  | none =>
    have : l[i]? = none := by
      rw [List.getElem?_eq_none_iff] at he ⊢; omega
    simp [this]
  | some e =>
    have := h i e he
    cases hz : l[i]? with
    | none => rw [hz] at this; cases this
    | some z => rw [hz] at this; simpa using this.symm

def eget (es : Array MapEntry) (o : Option Nat) : Option (Nat × Value) :=
  match o with
  | some j => match es[j]? with
    | some e => some (j, e.val)
    | none => none
  | none => none
theorem beq_bytes (x y : ByteArray) : (x == y) = decide (x = y) := by
  cases h : decide (x = y) with
  | true =>
    have := of_decide_eq_true h
    subst this
    obtain ⟨a⟩ := x
    show (a == a) = true
    rw [beq_iff_eq]
  | false =>
    have := of_decide_eq_false h
    cases hb : x == y with
    | false => rfl
    | true =>
      obtain ⟨a⟩ := x
      obtain ⟨b⟩ := y
      have : a = b := eq_of_beq (a := a) (b := b) hb
      subst this
      exact absurd rfl ‹¬ (_ : ByteArray) = _›
theorem beq_dec {κ : Type} [DecidableEq κ] (x y : κ) : (x == y) = decide (x = y) := rfl

theorem findNow_col {P : Program} {kt : Nat} {d : TypeDesc} {ks vs : Col} {key : Value} {o : Option Nat} {es : Array MapEntry} {clock : Nat} (hd : P.underlying kt = some d) (hk : keyKind P kt ks = true) (ho : ks.idx key = some o) (hm : MapIs es clock ks vs) :
    Instr.findNow d key es.toList 0 = some (eget es o) ∧ ∀ j, o = some j → ks.get? j = some key := by
  have hat : ∀ (i : Nat) (e : MapEntry), es.toList[i]? = some e → ks.get? i = some e.key := fun i e he => (hm.at_ i e (by simpa using he)).1
  have hsz : es.toList.length = ks.len := by simpa using hm.size
  unfold keyKind at hk
  rw [hd] at hk
  unfold Col.idx at ho
  split at ho <;> try (cases ho; done)
  · rename_i k l k' x
    split at ho <;> cases ho
    rename_i e; subst e
    cases d <;> simp at hk
    rename_i kk
    have := findNow_list (κ := Int) (enc := Value.int k) (kind := .int kk) (x := x) (fun y => by simp [Instr.sameNow]; rw [Bool.eq_iff_iff]; simp) l es.toList 0 (Col.keys_of hsz hat)
    refine ⟨?_, fun j hj => by simp [Col.get?, midx_lt hj]⟩
    simpa [eget] using this
  · rename_i l x
    cases ho
    cases d <;> simp at hk
    have := findNow_list (κ := Bool) (enc := Value.bool) (kind := .bool) (x := x) (fun y => by simp [Instr.sameNow]; rw [Bool.eq_iff_iff]; simp) l es.toList 0 (Col.keys_of hsz hat)
    refine ⟨?_, fun j hj => by simp [Col.get?, midx_lt hj]⟩
    simpa [eget] using this
  · rename_i l x
    cases ho
    cases d <;> simp at hk
    have := findNow_list (κ := ByteArray) (enc := Value.string) (kind := .string) (x := x) (fun y => by simp [Instr.sameNow, beq_bytes]) l es.toList 0 (Col.keys_of hsz hat)
    refine ⟨?_, fun j hj => by simp [Col.get?, midx_lt hj]⟩
    simpa [eget] using this
end Go.Z
