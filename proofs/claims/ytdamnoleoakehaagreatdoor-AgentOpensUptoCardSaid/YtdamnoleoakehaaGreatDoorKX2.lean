/- Part 2 of what the closing text rests on. -/
import Derived.Test.YtdamnoleoakehaaGreatDoorKX1
namespace Go.Z
open Go.RowKit

def fldT (P : Program) (S f : Nat) : Option Nat :=
  match P.underlying S with
  | some (.struct fs) =>
    match fs[f]? with
    | some fl => match kindT P fl.type with
      | some (_, _ + 1) => some fl.offset
      | _ => none
    | none => none
  | _ => none

theorem run_fieldAt {P : Program} {S f off : Nat} (h : fldT P S f = some off) (w : World) (b o : Nat) :
    (Instr.fieldAt S (.pointer (some ⟨b, o, none⟩)) f).run P w = .ok (.pointer (some ⟨b, o + off, none⟩)) w := by
  unfold fldT at h
  split at h <;> try (cases h; done)
  rename_i fs hu
  split at h <;> try (cases h; done)
  rename_i fl hf
  split at h <;> cases h
  rename_i g n hk
  obtain ⟨_, h2⟩ := run_kind hk w
  simp [Instr.fieldAt, run_underlying hu, hf, Instr.sureAddr, fieldPlace, h2, add_mk]

theorem cells_of_one {v : Value} (h : v.oneCell' = true) : v.cells = #[v] := by
  cases v <;> simp [Value.oneCell'] at h <;> rfl

def bstr (xs : List Int) : ByteArray := ⟨(xs.map fun n => UInt8.ofNat n.toNat).toArray⟩

theorem foldl_push_bytes : ∀ (xs : List Int) (s : ByteArray), xs.foldl (fun r n => r.push (UInt8.ofNat n.toNat)) s = ⟨s.data ++ (xs.map fun n => UInt8.ofNat n.toNat).toArray⟩
  | [], s => by simp
  | x :: xs, s => by
    rw [List.foldl_cons, foldl_push_bytes xs]
    simp [ByteArray.push]

theorem loadCells_ints {P : Program} {w : World} {L : Loc} {k : IntKind} {xs : List Int} (hw : L.wf) (hlen : L.len = xs.length) (hcap : L.len ≤ L.cap)
    (hc : ∀ i z, xs[i]? = some z → w.cell? ⟨L.b, L.o + i, none⟩ = some (.int k z)) {a : Addr} (ha : L.a = some a) :
    (loadCells a L.len).run P w = .ok (xs.map (Value.int k)).toArray w := by
  rcases hw with h0 | h0
  · have : L.len = 0 := by omega
    have hx : xs = [] := List.eq_nil_of_length_eq_zero (by omega)
    subst hx
    rw [this]
    rfl
  · rw [h0] at ha; cases ha
    have := run_loadCells_list (P := P) w ⟨L.b, L.o, none⟩ (xs.map (Value.int k)) (fun j v hv => by
      rw [add_mk]
      rw [List.getElem?_map] at hv
      cases hx : xs[j]? with
      | none => rw [hx] at hv; simp at hv
      | some z => rw [hx] at hv; simp at hv; subst hv; exact hc j z hx)
    rw [List.length_map, ← hlen] at this
    exact this

theorem run_bytes_string {P : Program} {w : World} {L : Loc} {xs : List Int} (hw : L.wf) (hlen : L.len = xs.length) (hcap : L.len ≤ L.cap)
    (hc : ∀ i z, xs[i]? = some z → w.cell? ⟨L.b, L.o + i, none⟩ = some (.int .u8 z)) :
    (Conv.bytesToString L.val).run P w = .ok (.string (bstr xs)) w := by
  unfold Loc.val
  cases ha : L.a with
  | none =>
    rcases hw with h0 | h0
    · have hx : xs = [] := List.eq_nil_of_length_eq_zero (by omega)
      subst hx
      rfl
    · rw [ha] at h0; cases h0
  | some a =>
    rw [run_bytesToString w a L.len L.cap xs (loadCells_ints hw hlen hcap hc ha), foldl_push_bytes]
    simp [bstr, ByteArray.empty, ByteArray.emptyWithCapacity]
    rfl

def D.sub (l m : Nat) : D → D
  | .ints k xs => .ints k ((xs.drop l).take m)
  | .recs es _ f => .recs es m (fun i j => f (l + i) j)
  | d => d
def Loc.sub (L : Loc) (l h m es : Nat) : Loc := { a := if m = l then L.a else L.a.map (·.add (l * es)), len := h - l, cap := m - l }

theorem Loc.sub_ne {L : Loc} (hw : L.wf) {l h m es : Nat} (hm : m ≤ L.cap) (hl : l < m) : (L.sub l h m es).a = some ⟨L.b, L.o + l * es, none⟩ ∧ (L.sub l h m es).b = L.b ∧ (L.sub l h m es).o = L.o + l * es := by
  have h0 : L.a = some ⟨L.b, L.o, none⟩ := hw.resolve_left (by omega)
  have h1 : (L.sub l h m es).a = some ⟨L.b, L.o + l * es, none⟩ := by
    simp only [Loc.sub]
    rw [if_neg (by omega), h0]
    simp [add_mk]
  refine ⟨h1, ?_, ?_⟩
  · show (match (L.sub l h m es).a with | some a => a.block | none => 0) = _; rw [h1]
  · show (match (L.sub l h m es).a with | some a => a.off | none => 0) = _; rw [h1]

theorem Loc.sub_wf {L : Loc} (hw : L.wf) {l h m es : Nat} (hm : m ≤ L.cap) : (L.sub l h m es).wf := by
  by_cases e : m ≤ l
  · exact .inl (by simp [Loc.sub]; omega)
  · obtain ⟨h1, h2, h3⟩ := Loc.sub_ne (h := h) (es := es) hw hm (show l < m by omega)
    exact .inr (by rw [h1, h2, h3])

end Go.Z

namespace Go.Z
open Go.RowKit

def mputV {ν : Type} (m : List ν) (o : Option Nat) (v : ν) : List ν := match o with
  | some j => m.set j v
  | none => m ++ [v]
def mputK {κ : Type} (l : List κ) (o : Option Nat) (x : κ) : List κ := match o with
  | some _ => l
  | none => l ++ [x]
def prKey (k : IntKind) : List Value → Option (Int × Int)
  | [.int k1 a, .int k2 b] => if k1 = k then if k2 = k then some (a, b) else none else none
  | _ => none
theorem prKey_eq {k : IntKind} {l : List Value} {p : Int × Int} (h : prKey k l = some p) : l = [.int k p.1, .int k p.2] := by
  unfold prKey at h
  split at h <;> try (cases h; done)
  split at h <;> try (cases h; done)
  split at h <;> cases h
  rename_i e1 e2
  subst e1 e2
  rfl

theorem Col.keys_of {es : List MapEntry} {κ : Type} {l : List κ} {enc : κ → Value} (hl : es.length = l.length) (h : ∀ (i : Nat) (e : MapEntry), es[i]? = some e → (l[i]?).map enc = some e.key) :
    es.map (·.key) = l.map enc := by
  apply List.ext_getElem?
  intro i
  simp only [List.getElem?_map]
  cases he : es[i]? with
  | none =>
    have : l[i]? = none := by
      rw [List.getElem?_eq_none_iff] at he ⊢; omega
    simp [this]
  | some e =>
    have := h i e he
    cases hz : l[i]? with
    | none => rw [hz] at this; cases this
    | some z => rw [hz] at this; simpa using this.symm

theorem beq_bytes (x y : ByteArray) : (x == y) = decide (x = y) := by
  cases h : decide (x = y) with
  | true =>
    have := of_decide_eq_true h
    subst this
    obtain ⟨a⟩ := x
    show (a == a) = true
    rw [beq_iff_eq]
  | false =>
    have := of_decide_eq_false h
    cases hb : x == y with
    | false => rfl
    | true =>
      obtain ⟨a⟩ := x
      obtain ⟨b⟩ := y
      have : a = b := eq_of_beq (a := a) (b := b) hb
      subst this
      exact absurd rfl ‹¬ (_ : ByteArray) = _›
end Go.Z

namespace Go.Z
open Go.RowKit

abbrev HK := SV → List (Nat × R) → Nat → Prop

def q1 (vs : List SV) (k : SV → Prop) : Prop := match vs with | [s] => k s | _ => False
def q2 (vs : List SV) (k : SV → SV → Prop) : Prop := match vs with | [s, t] => k s t | _ => False

def placesT (P : Program) (T : Nat) : Option (Nat → Option (Nat × Nat)) :=
  match P.underlying T with
  | some (.struct fs) => some fun i => match fs[i]? with
    | some f => match P.info? f.type with
      | some t => some (f.offset, t.size)
      | none => none
    | none => none
  | some (.array _ e) => match P.info? e with
    | some t => some fun i => some (i * t.size, t.size)
    | none => none
  | _ => none

def allInfo (P : Program) (T : Nat) : Bool :=
  match P.underlying T with
  | some (.struct fs) => fs.toList.all fun f => (P.info? f.type).isSome
  | _ => true

end Go.Z

