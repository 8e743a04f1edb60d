/- Symbolic data: what a symbolic value, a resource and a symbolic state say of a frame and a world. -/
import Derived.WalkKit
import Derived.WalkLawsBesides
import Derived.Deep.QuietTactic
namespace Go.Z
open Go.RowKit

/-- Where a named array lies: its slice header. -/
structure Loc where
  a : Option Addr
  len : Nat
  cap : Nat

def Loc.b (L : Loc) : Nat := match L.a with | some a => a.block | none => 0
def Loc.o (L : Loc) : Nat := match L.a with | some a => a.off | none => 0
/-- An array that has places lies somewhere. -/
def Loc.wf (L : Loc) : Prop := L.cap = 0 ∨ L.a = some ⟨L.b, L.o, none⟩
def Loc.val (L : Loc) : Value := .slice L.a L.len L.cap

/-- A map's keys, or its values, in the order in which they came. -/
inductive Col where
  | ints (k : IntKind) (l : List Int)
  | bools (l : List Bool)
  | strs (l : List ByteArray)
def Col.len : Col → Nat
  | .ints _ l => l.length
  | .bools l => l.length
  | .strs l => l.length
def Col.get? : Col → Nat → Option Value
  | .ints k l, i => (l[i]?).map (Value.int k)
  | .bools l, i => (l[i]?).map Value.bool
  | .strs l, i => (l[i]?).map Value.string

/-- The content of one cell, as data; memory behind it is only read. -/
inductive D where
  | v (x : Value)
  | ints (k : IntKind) (xs : List Int)
  | recs (es n : Nat) (f : Nat → Nat → D)
  | ptr (T n : Nat) (f : Nat → D)
  | fn (g m n : Nat) (f : Nat → D)
  | map (ks vs : Col)

def D.es : D → Nat
  | .recs es _ _ => es
  | _ => 1
def D.len : D → Nat
  | .ints _ xs => xs.length
  | .recs _ n _ => n
  | _ => 0

/-- A map's object holds these keys and values. -/
structure MapIs (es : Array MapEntry) (clock : Nat) (ks vs : Col) : Prop where
  size : es.size = ks.len
  vals : vs.len = ks.len
  at_ : ∀ (i : Nat) (e : MapEntry), es[i]? = some e → ks.get? i = some e.key ∧ vs.get? i = some e.val
  born : ∀ (i : Nat) (e : MapEntry), es[i]? = some e → e.born < clock
  order : ∀ (i j : Nat) (e e' : MapEntry), i < j → es[i]? = some e → es[j]? = some e' → e.born < e'.born

/-- The array's block is one of X, and it is there. -/
def Loc.inn (L : Loc) (X : Nat → Prop) (w : World) : Prop := L.len ≠ 0 → X L.b ∧ L.b < w.heap.size

/-- A cell's value is this data, its memory lying in blocks of X. -/
def D.holds (X : Nat → Prop) (w : World) : D → Value → Prop
  | .ptr T n f, c => ∃ (b : Nat) (us : List Value), c = .pointer (some ⟨b, 0, none⟩) ∧ X b ∧ w.heap[b]? = some (.cells us.toArray T (0, 0)) ∧ us.length = n ∧
      ∀ i, i < n → ∃ c', us[i]? = some c' ∧ (f i).holds X w c'
  | .fn g m n f, c => ∃ us : List Value, c = .func (.func g) (us.take m).toArray (us.drop m).toArray ∧ us.length = n ∧
      ∀ i, i < n → ∃ c', us[i]? = some c' ∧ (f i).holds X w c'
  | .map ks vs, c => ∃ (b : Nat) (es : Array MapEntry) (clock : Nat), c = .map (some b) ∧ X b ∧ w.heap[b]? = some (.map es clock) ∧ MapIs es clock ks vs
  | .v x, c => c = x ∧ x.oneCell' = true
  | .ints k xs, c => ∃ L : Loc, c = L.val ∧ L.wf ∧ L.inn X w ∧ L.len = xs.length ∧ L.len ≤ L.cap ∧
      ∀ i z, xs[i]? = some z → w.cell? ⟨L.b, L.o + i, none⟩ = some (.int k z)
  | .recs es n f, c => ∃ L : Loc, c = L.val ∧ L.wf ∧ L.inn X w ∧ L.len = n ∧ L.len ≤ L.cap ∧
      ∀ i, i < n → ∀ j, j < es → ∃ c', w.cell? ⟨L.b, L.o + (i * es + j), none⟩ = some c' ∧ (f i j).holds X w c'

/-- The array at L reads as this data. -/
def D.at (X : Nat → Prop) (w : World) (L : Loc) : D → Prop
  | .ints k xs => L.len = xs.length ∧ L.len ≤ L.cap ∧ ∀ i z, xs[i]? = some z → w.cell? ⟨L.b, L.o + i, none⟩ = some (.int k z)
  | .recs es n f => L.len = n ∧ L.len ≤ L.cap ∧
      ∀ i, i < n → ∀ j, j < es → ∃ c', w.cell? ⟨L.b, L.o + (i * es + j), none⟩ = some c' ∧ (f i j).holds X w c'
  | _ => False

theorem D.holds_ints {X w k xs c} : (D.ints k xs).holds X w c ↔ ∃ L : Loc, c = L.val ∧ L.wf ∧ L.inn X w ∧ (D.ints k xs).at X w L := by
  simp [D.holds, D.at]
theorem D.holds_recs {X w es n f c} : (D.recs es n f).holds X w c ↔ ∃ L : Loc, c = L.val ∧ L.wf ∧ L.inn X w ∧ (D.recs es n f).at X w L := by
  simp [D.holds, D.at]

theorem lt_of_cell {w : World} {b o : Nat} {v : Value} (h : w.cell? ⟨b, o, none⟩ = some v) : b < w.heap.size :=
  World.block_lt_of_cell? w _ h

theorem cell_eq {w w' : World} {b o : Nat} (h : w'.heap[b]? = w.heap[b]?) : w'.cell? ⟨b, o, none⟩ = w.cell? ⟨b, o, none⟩ := by
  simp [World.cell?, h]

theorem lt_of_heap_eq {w w' : World} {b : Nat} (hb : b < w.heap.size) (h : w'.heap[b]? = w.heap[b]?) : b < w'.heap.size := by
  rw [Array.getElem?_eq_getElem hb] at h
  exact (Array.getElem?_eq_some_iff.1 h).1

/-- From w to w', X to X': what lies in X is kept. -/
def Keeps (X X' : Nat → Prop) (w w' : World) : Prop := ∀ b, b < w.heap.size → X b → X' b ∧ w'.heap[b]? = w.heap[b]?

theorem Loc.inn_mono {L : Loc} {X X' : Nat → Prop} {w w' : World} (h : Keeps X X' w w') (hi : L.inn X w) : L.inn X' w' := fun hne =>
  let ⟨h1, h2⟩ := hi hne
  ⟨(h _ h2 h1).1, lt_of_heap_eq h2 (h _ h2 h1).2⟩

theorem D.holds_mono {X X' : Nat → Prop} {w w' : World} (h : Keeps X X' w w') :
    ∀ (d : D) (c : Value), d.holds X w c → d.holds X' w' c := by
  intro d
  induction d with
  | v x => intro c hc; exact hc
  | ints k xs =>
    intro c hc
    obtain ⟨L, h1, h2, h3, h4, h5, h6⟩ := hc
    refine ⟨L, h1, h2, h3 |> Loc.inn_mono h, h4, h5, fun i z hz => ?_⟩
    have hl := (List.getElem?_eq_some_iff.1 hz).1
    obtain ⟨hx, hb⟩ := h3 (by omega)
    rw [cell_eq (h _ hb hx).2]; exact h6 i z hz
  | recs es n f ih =>
    intro c hc
    obtain ⟨L, h1, h2, h3, h4, h5, h6⟩ := hc
    refine ⟨L, h1, h2, h3 |> Loc.inn_mono h, h4, h5, fun i hi j hj => ?_⟩
    obtain ⟨c', hc1, hc2⟩ := h6 i hi j hj
    obtain ⟨hx, hb⟩ := h3 (by omega)
    exact ⟨c', by rw [cell_eq (h _ hb hx).2]; exact hc1, ih i j c' hc2⟩
  | ptr T n f ih =>
    intro c hc
    obtain ⟨b, us, h1, h2, h3, h4, h5⟩ := hc
    have hb := (Array.getElem?_eq_some_iff.1 h3).1
    exact ⟨b, us, h1, (h _ hb h2).1, by rw [(h _ hb h2).2]; exact h3, h4, fun i hi => let ⟨c', e1, e2⟩ := h5 i hi; ⟨c', e1, ih i c' e2⟩⟩
  | fn g m n f ih =>
    intro c hc
    obtain ⟨us, h1, h4, h5⟩ := hc
    exact ⟨us, h1, h4, fun i hi => let ⟨c', e1, e2⟩ := h5 i hi; ⟨c', e1, ih i c' e2⟩⟩
  | map ks vs =>
    intro c hc
    obtain ⟨b, es, clock, h1, h2, h3, h4⟩ := hc
    have hb := (Array.getElem?_eq_some_iff.1 h3).1
    exact ⟨b, es, clock, h1, (h _ hb h2).1, by rw [(h _ hb h2).2]; exact h3, h4⟩

/-- The array itself in a block that is kept (whether in X or not), what hangs on it in X. -/
theorem D.at_mono {X X' : Nat → Prop} {w w' : World} {L : Loc} (h : Keeps X X' w w') {d : D}
    (hb : L.len ≠ 0 → w'.heap[L.b]? = w.heap[L.b]?) (hd : d.at X w L) : d.at X' w' L := by
  cases d with
  | v _ => exact hd.elim
  | ptr _ _ _ => exact hd.elim
  | fn _ _ _ _ => exact hd.elim
  | map _ _ => exact hd.elim
  | ints k xs =>
    obtain ⟨h4, h5, h6⟩ := hd
    refine ⟨h4, h5, fun i z hz => ?_⟩
    have hl := (List.getElem?_eq_some_iff.1 hz).1
    rw [cell_eq (hb (by omega))]; exact h6 i z hz
  | recs es n f =>
    obtain ⟨h4, h5, h6⟩ := hd
    refine ⟨h4, h5, fun i hi j hj => ?_⟩
    obtain ⟨c', hc1, hc2⟩ := h6 i hi j hj
    exact ⟨c', by rw [cell_eq (hb (by omega))]; exact hc1, D.holds_mono h _ _ hc2⟩

/-! Symbolic values -/
inductive SV where
  | unk
  | b (t : Bool)
  | c (v : Value)
  | p (n o : Nat)
  | e (n es i o : Nat)
  | a (n : Nat)
  | nil
  | agg (l : List SV)
  | tup (l : List SV)
  | f (fn nf : Nat) (l : List SV)
  | arr (k : IntKind) (xs : List Int)
  | q (n : Nat)
  | m (n : Nat)
  | w (ts : List Bool) (v : SV)

abbrev Th := Nat → Option Loc

mutual
def V (θ : Th) : SV → Value → Prop
  | .unk, _ => True
  | .b t, v => v = .bool t
  | .c y, v => v = y
  | .p n o, v => ∃ L, θ n = some L ∧ v = .pointer (some ⟨L.b, L.o + o, none⟩)
  | .e n es i o, v => ∃ L, θ n = some L ∧ i < L.len ∧ v = .pointer (some ⟨L.b, L.o + (i * es + o), none⟩)
  | .a n, v => ∃ L, θ n = some L ∧ v = L.val
  | .nil, v => v = .slice none 0 0
  | .agg l, v => ∃ cs : List Value, v = .agg cs.toArray ∧ VL θ l cs
  | .tup l, v => ∃ cs : List Value, v = .tuple cs.toArray ∧ VL θ l cs
  | .f fn nf l, v => ∃ cs : List Value, v = .func (.func fn) (cs.take nf).toArray (cs.drop nf).toArray ∧ VL θ l cs
  | .arr k xs, v => v = .agg (xs.map (Value.int k)).toArray
  | .q n, v => ∃ L : Loc, θ n = some L ∧ L = ⟨some ⟨L.b, 0, none⟩, L.len, L.len⟩ ∧ v = .pointer (some ⟨L.b, 0, none⟩)
  | .m n, v => ∃ L, θ n = some L ∧ v = .map (some L.b)
  | .w ts s, v => ((∀ t, t ∈ ts → t = true) → V θ s v) ∧ ((¬ ∀ t, t ∈ ts → t = true) → v = undef)
def VL (θ : Th) : List SV → List Value → Prop
  | [], [] => True
  | s :: l, v :: vs => V θ s v ∧ VL θ l vs
  | _, _ => False
end

/-- More names. -/
def Th.ext (θ θ' : Th) : Prop := ∀ n L, θ n = some L → θ' n = some L
theorem Th.ext_refl (θ : Th) : θ.ext θ := fun _ _ h => h
theorem Th.ext_trans {a b c : Th} (h : a.ext b) (k : b.ext c) : a.ext c := fun n L hn => k n L (h n L hn)

mutual
theorem V_mono {θ θ' : Th} (h : θ.ext θ') : ∀ (s : SV) (v : Value), V θ s v → V θ' s v
  | .unk, _, _ => by simp [V]
  | .b _, _, hv => by simpa [V] using hv
  | .c _, _, hv => by simpa [V] using hv
  | .p n o, v, hv => by
    simp only [V] at *
    obtain ⟨L, h1, h2⟩ := hv
    exact ⟨L, h _ _ h1, h2⟩
  | .e n es i o, v, hv => by
    simp only [V] at *
    obtain ⟨L, h1, h2⟩ := hv
    exact ⟨L, h _ _ h1, h2⟩
  | .a n, v, hv => by
    simp only [V] at *
    obtain ⟨L, h1, h2⟩ := hv
    exact ⟨L, h _ _ h1, h2⟩
  | .nil, v, hv => by simpa [V] using hv
  | .agg l, v, hv => by
    simp only [V] at *
    obtain ⟨cs, h1, h2⟩ := hv
    exact ⟨cs, h1, VL_mono h l cs h2⟩
  | .tup l, v, hv => by
    simp only [V] at *
    obtain ⟨cs, h1, h2⟩ := hv
    exact ⟨cs, h1, VL_mono h l cs h2⟩
  | .arr _ _, _, hv => by simpa [V] using hv
  | .q n, v, hv => by
    simp only [V] at *
    obtain ⟨L, h1, h2⟩ := hv
    exact ⟨L, h _ _ h1, h2⟩
  | .f fn nf l, v, hv => by
    simp only [V] at *
    obtain ⟨cs, h1, h2⟩ := hv
    exact ⟨cs, h1, VL_mono h l cs h2⟩
  | .m n, v, hv => by
    simp only [V] at *
    obtain ⟨L, h1, h2⟩ := hv
    exact ⟨L, h _ _ h1, h2⟩
  | .w ts s, v, hv => by
    simp only [V] at *
    exact ⟨fun ht => V_mono h s v (hv.1 ht), hv.2⟩
theorem VL_mono {θ θ' : Th} (h : θ.ext θ') : ∀ (l : List SV) (vs : List Value), VL θ l vs → VL θ' l vs
  | [], [], _ => by simp [VL]
  | [], _ :: _, hv => by simp [VL] at hv
  | _ :: _, [], hv => by simp [VL] at hv
  | s :: l, v :: vs, hv => by
    simp only [VL] at *
    exact ⟨V_mono h s v hv.1, VL_mono h l vs hv.2⟩
end

theorem VL_length {θ : Th} : ∀ {l : List SV} {vs : List Value}, VL θ l vs → l.length = vs.length
  | [], [], _ => rfl
  | [], _ :: _, h => by simp [VL] at h
  | _ :: _, [], h => by simp [VL] at h
  | _ :: l, _ :: vs, h => by simp only [VL] at h; simp [VL_length h.2]

theorem VL_get {θ : Th} : ∀ {l : List SV} {vs : List Value} {i : Nat} {s : SV}, VL θ l vs → l[i]? = some s → ∃ v, vs[i]? = some v ∧ V θ s v
  | [], _, i, s, _, h => by simp at h
  | _ :: _, [], _, _, h, _ => by simp [VL] at h
  | t :: l, v :: vs, 0, s, h, hs => by
    simp only [VL] at h
    simp at hs; subst hs
    exact ⟨v, by simp, h.1⟩
  | t :: l, v :: vs, i + 1, s, h, hs => by
    simp only [VL] at h
    simp at hs
    simpa using VL_get h.2 hs

theorem VL_set {θ : Th} : ∀ {l : List SV} {vs : List Value} (i : Nat) {s : SV} {v : Value}, VL θ l vs → V θ s v → VL θ (l.set i s) (vs.set i v)
  | [], [], _, _, _, _, _ => by simp [VL]
  | [], _ :: _, _, _, _, h, _ => by simp [VL] at h
  | _ :: _, [], _, _, _, h, _ => by simp [VL] at h
  | t :: l, u :: vs, 0, s, v, h, hs => by
    simp only [VL, List.set_cons_zero] at *
    exact ⟨hs, h.2⟩
  | t :: l, u :: vs, i + 1, s, v, h, hs => by
    simp only [VL, List.set_cons_succ] at *
    exact ⟨h.1, VL_set i h.2 hs⟩

theorem VL_append {θ : Th} : ∀ {l m : List SV} {vs us : List Value}, VL θ l vs → VL θ m us → VL θ (l ++ m) (vs ++ us)
  | [], _, [], _, _, h => by simpa using h
  | [], _, _ :: _, _, h, _ => by simp [VL] at h
  | _ :: _, _, [], _, h, _ => by simp [VL] at h
  | s :: l, m, v :: vs, us, h, h' => by
    simp only [VL, List.cons_append] at *
    exact ⟨h.1, VL_append h.2 h'⟩

theorem VL_drop {θ : Th} : ∀ {l : List SV} {vs : List Value} (i : Nat), VL θ l vs → VL θ (l.drop i) (vs.drop i)
  | _, _, 0, h => by simpa using h
  | [], [], _ + 1, h => by simpa using h
  | [], _ :: _, _, h => by simp [VL] at h
  | _ :: _, [], _, h => by simp [VL] at h
  | _ :: _, _ :: _, i + 1, h => by
    simp only [VL] at h
    simpa using VL_drop i h.2

theorem VL_take {θ : Th} : ∀ {l : List SV} {vs : List Value} (i : Nat), VL θ l vs → VL θ (l.take i) (vs.take i)
  | _, _, 0, h => by simp [VL]
  | [], [], _ + 1, h => by simp [VL]
  | [], _ :: _, _, h => by simp [VL] at h
  | _ :: _, [], _, h => by simp [VL] at h
  | _ :: _, _ :: _, i + 1, h => by
    simp only [VL] at h
    simp only [List.take_succ_cons, VL]
    exact ⟨h.1, VL_take i h.2⟩

theorem VL_nil {θ : Th} : VL θ [] [] := by simp [VL]
theorem VL_cons {θ : Th} {s : SV} {l : List SV} {v : Value} {vs : List Value} : VL θ (s :: l) (v :: vs) ↔ V θ s v ∧ VL θ l vs := by simp [VL]
theorem VL_nil_left {θ : Th} {vs : List Value} (h : VL θ [] vs) : vs = [] := by cases vs <;> simp_all [VL]
theorem VL_cons_left {θ : Th} {s : SV} {l : List SV} {vs : List Value} (h : VL θ (s :: l) vs) : ∃ v us, vs = v :: us ∧ V θ s v ∧ VL θ l us := by
  cases vs with
  | nil => simp [VL] at h
  | cons v us => simp only [VL] at h; exact ⟨v, us, rfl, h.1, h.2⟩
end Go.Z
