/- Part 1 of what the closing text rests on. -/
import Derived.WalkKit
import Derived.WalkLawsBesides
import Derived.Deep.QuietTactic
/- Symbolic data: what a symbolic value, a resource and a symbolic state say of a frame and a world. -/
namespace Go.Z
open Go.RowKit

/-- Where a named array lies: its slice header. -/
structure Loc where
  a : Option Addr
  len : Nat
  cap : Nat

def Loc.b (L : Loc) : Nat := match L.a with | some a => a.block | none => 0
def Loc.o (L : Loc) : Nat := match L.a with | some a => a.off | none => 0
/-- An array that has places lies somewhere. -/
def Loc.wf (L : Loc) : Prop := L.cap = 0 ∨ L.a = some ⟨L.b, L.o, none⟩
def Loc.val (L : Loc) : Value := .slice L.a L.len L.cap

/-- A map's keys, or its values, in the order in which they came. -/
inductive Col where
  | ints (k : IntKind) (l : List Int)
  | bools (l : List Bool)
  | strs (l : List ByteArray)
def Col.len : Col → Nat
  | .ints _ l => l.length
  | .bools l => l.length
  | .strs l => l.length
def Col.get? : Col → Nat → Option Value
  | .ints k l, i => (l[i]?).map (Value.int k)
  | .bools l, i => (l[i]?).map Value.bool
  | .strs l, i => (l[i]?).map Value.string

/-- The content of one cell, as data; memory behind it is only read. -/
inductive D where
  | v (x : Value)
  | ints (k : IntKind) (xs : List Int)
  | recs (es n : Nat) (f : Nat → Nat → D)
  | ptr (T n : Nat) (f : Nat → D)
  | fn (g m n : Nat) (f : Nat → D)
  | map (ks vs : Col)

def D.es : D → Nat
  | .recs es _ _ => es
  | _ => 1
def D.len : D → Nat
  | .ints _ xs => xs.length
  | .recs _ n _ => n
  | _ => 0

/-- A map's object holds these keys and values. -/
structure MapIs (es : Array MapEntry) (clock : Nat) (ks vs : Col) : Prop where
  size : es.size = ks.len
  vals : vs.len = ks.len
  at_ : ∀ (i : Nat) (e : MapEntry), es[i]? = some e → ks.get? i = some e.key ∧ vs.get? i = some e.val
  born : ∀ (i : Nat) (e : MapEntry), es[i]? = some e → e.born < clock
  order : ∀ (i j : Nat) (e e' : MapEntry), i < j → es[i]? = some e → es[j]? = some e' → e.born < e'.born

/-- The array's block is one of X, and it is there. -/
def Loc.inn (L : Loc) (X : Nat → Prop) (w : World) : Prop := L.len ≠ 0 → X L.b ∧ L.b < w.heap.size

/-- A cell's value is this data, its memory lying in blocks of X. -/
def D.holds (X : Nat → Prop) (w : World) : D → Value → Prop
  | .ptr T n f, c => ∃ (b : Nat) (us : List Value), c = .pointer (some ⟨b, 0, none⟩) ∧ X b ∧ w.heap[b]? = some (.cells us.toArray T (0, 0)) ∧ us.length = n ∧
      ∀ i, i < n → ∃ c', us[i]? = some c' ∧ (f i).holds X w c'
  | .fn g m n f, c => ∃ us : List Value, c = .func (.func g) (us.take m).toArray (us.drop m).toArray ∧ us.length = n ∧
      ∀ i, i < n → ∃ c', us[i]? = some c' ∧ (f i).holds X w c'
  | .map ks vs, c => ∃ (b : Nat) (es : Array MapEntry) (clock : Nat), c = .map (some b) ∧ X b ∧ w.heap[b]? = some (.map es clock) ∧ MapIs es clock ks vs
  | .v x, c => c = x ∧ x.oneCell' = true
  | .ints k xs, c => ∃ L : Loc, c = L.val ∧ L.wf ∧ L.inn X w ∧ L.len = xs.length ∧ L.len ≤ L.cap ∧
      ∀ i z, xs[i]? = some z → w.cell? ⟨L.b, L.o + i, none⟩ = some (.int k z)
  | .recs es n f, c => ∃ L : Loc, c = L.val ∧ L.wf ∧ L.inn X w ∧ L.len = n ∧ L.len ≤ L.cap ∧
      ∀ i, i < n → ∀ j, j < es → ∃ c', w.cell? ⟨L.b, L.o + (i * es + j), none⟩ = some c' ∧ (f i j).holds X w c'

/-- The array at L reads as this data. -/
def D.at (X : Nat → Prop) (w : World) (L : Loc) : D → Prop
  | .ints k xs => L.len = xs.length ∧ L.len ≤ L.cap ∧ ∀ i z, xs[i]? = some z → w.cell? ⟨L.b, L.o + i, none⟩ = some (.int k z)
  | .recs es n f => L.len = n ∧ L.len ≤ L.cap ∧
      ∀ i, i < n → ∀ j, j < es → ∃ c', w.cell? ⟨L.b, L.o + (i * es + j), none⟩ = some c' ∧ (f i j).holds X w c'
  | _ => False

theorem D.holds_ints {X w k xs c} : (D.ints k xs).holds X w c ↔ ∃ L : Loc, c = L.val ∧ L.wf ∧ L.inn X w ∧ (D.ints k xs).at X w L := by
  simp [D.holds, D.at]
theorem D.holds_recs {X w es n f c} : (D.recs es n f).holds X w c ↔ ∃ L : Loc, c = L.val ∧ L.wf ∧ L.inn X w ∧ (D.recs es n f).at X w L := by
  simp [D.holds, D.at]

theorem lt_of_cell {w : World} {b o : Nat} {v : Value} (h : w.cell? ⟨b, o, none⟩ = some v) : b < w.heap.size :=
  World.block_lt_of_cell? w _ h

theorem cell_eq {w w' : World} {b o : Nat} (h : w'.heap[b]? = w.heap[b]?) : w'.cell? ⟨b, o, none⟩ = w.cell? ⟨b, o, none⟩ := by
  simp [World.cell?, h]

theorem lt_of_heap_eq {w w' : World} {b : Nat} (hb : b < w.heap.size) (h : w'.heap[b]? = w.heap[b]?) : b < w'.heap.size := by
  rw [Array.getElem?_eq_getElem hb] at h
  exact (Array.getElem?_eq_some_iff.1 h).1

/-- From w to w', X to X': what lies in X is kept. -/
def Keeps (X X' : Nat → Prop) (w w' : World) : Prop := ∀ b, b < w.heap.size → X b → X' b ∧ w'.heap[b]? = w.heap[b]?

theorem Loc.inn_mono {L : Loc} {X X' : Nat → Prop} {w w' : World} (h : Keeps X X' w w') (hi : L.inn X w) : L.inn X' w' := fun hne =>
  let ⟨h1, h2⟩ := hi hne
  ⟨(h _ h2 h1).1, lt_of_heap_eq h2 (h _ h2 h1).2⟩

theorem D.holds_mono {X X' : Nat → Prop} {w w' : World} (h : Keeps X X' w w') :
    ∀ (d : D) (c : Value), d.holds X w c → d.holds X' w' c := by
  intro d
  induction d with
  | v x => intro c hc; exact hc
  | ints k xs =>
    intro c hc
    obtain ⟨L, h1, h2, h3, h4, h5, h6⟩ := hc
    refine ⟨L, h1, h2, h3 |> Loc.inn_mono h, h4, h5, fun i z hz => ?_⟩
    have hl := (List.getElem?_eq_some_iff.1 hz).1
    obtain ⟨hx, hb⟩ := h3 (by omega)
    rw [cell_eq (h _ hb hx).2]; exact h6 i z hz
  | recs es n f ih =>
    intro c hc
    obtain ⟨L, h1, h2, h3, h4, h5, h6⟩ := hc
    refine ⟨L, h1, h2, h3 |> Loc.inn_mono h, h4, h5, fun i hi j hj => ?_⟩
    obtain ⟨c', hc1, hc2⟩ := h6 i hi j hj
    obtain ⟨hx, hb⟩ := h3 (by omega)
    exact ⟨c', by rw [cell_eq (h _ hb hx).2]; exact hc1, ih i j c' hc2⟩
  | ptr T n f ih =>
    intro c hc
    obtain ⟨b, us, h1, h2, h3, h4, h5⟩ := hc
    have hb := (Array.getElem?_eq_some_iff.1 h3).1
    exact ⟨b, us, h1, (h _ hb h2).1, by rw [(h _ hb h2).2]; exact h3, h4, fun i hi => let ⟨c', e1, e2⟩ := h5 i hi; ⟨c', e1, ih i c' e2⟩⟩
  | fn g m n f ih =>
    intro c hc
    obtain ⟨us, h1, h4, h5⟩ := hc
    exact ⟨us, h1, h4, fun i hi => let ⟨c', e1, e2⟩ := h5 i hi; ⟨c', e1, ih i c' e2⟩⟩
  | map ks vs =>
    intro c hc
    obtain ⟨b, es, clock, h1, h2, h3, h4⟩ := hc
    have hb := (Array.getElem?_eq_some_iff.1 h3).1
    exact ⟨b, es, clock, h1, (h _ hb h2).1, by rw [(h _ hb h2).2]; exact h3, h4⟩

/-- The array itself in a block that is kept (whether in X or not), what hangs on it in X. -/
theorem D.at_mono {X X' : Nat → Prop} {w w' : World} {L : Loc} (h : Keeps X X' w w') {d : D}
    (hb : L.len ≠ 0 → w'.heap[L.b]? = w.heap[L.b]?) (hd : d.at X w L) : d.at X' w' L := by
  cases d with
  | v _ => exact hd.elim
  | ptr _ _ _ => exact hd.elim
  | fn _ _ _ _ => exact hd.elim
  | map _ _ => exact hd.elim
  | ints k xs =>
    obtain ⟨h4, h5, h6⟩ := hd
    refine ⟨h4, h5, fun i z hz => ?_⟩
    have hl := (List.getElem?_eq_some_iff.1 hz).1
    rw [cell_eq (hb (by omega))]; exact h6 i z hz
  | recs es n f =>
    obtain ⟨h4, h5, h6⟩ := hd
    refine ⟨h4, h5, fun i hi j hj => ?_⟩
    obtain ⟨c', hc1, hc2⟩ := h6 i hi j hj
    exact ⟨c', by rw [cell_eq (hb (by omega))]; exact hc1, D.holds_mono h _ _ hc2⟩

/-! Symbolic values -/
inductive SV where
  | unk
  | b (t : Bool)
  | c (v : Value)
  | p (n o : Nat)
  | e (n es i o : Nat)
  | a (n : Nat)
  | nil
  | agg (l : List SV)
  | tup (l : List SV)
  | f (fn nf : Nat) (l : List SV)
  | arr (k : IntKind) (xs : List Int)
  | q (n : Nat)
  | m (n : Nat)
  | sl (n len : Nat)
  | g (n : Nat)
  | vw (n l : Nat)
  | w (ts : List Bool) (v : SV)

abbrev Th := Nat → Option Loc

mutual
def V (θ : Th) : SV → Value → Prop
  | .unk, _ => True
  | .b t, v => v = .bool t
  | .c y, v => v = y
  | .p n o, v => ∃ L, θ n = some L ∧ v = .pointer (some ⟨L.b, L.o + o, none⟩)
  | .e n es i o, v => ∃ L, θ n = some L ∧ i < L.len ∧ v = .pointer (some ⟨L.b, L.o + (i * es + o), none⟩)
  | .a n, v => ∃ L, θ n = some L ∧ v = L.val
  | .nil, v => v = .slice none 0 0
  | .agg l, v => ∃ cs : List Value, v = .agg cs.toArray ∧ VL θ l cs
  | .tup l, v => ∃ cs : List Value, v = .tuple cs.toArray ∧ VL θ l cs
  | .f fn nf l, v => ∃ cs : List Value, v = .func (.func fn) (cs.take nf).toArray (cs.drop nf).toArray ∧ VL θ l cs
  | .arr k xs, v => v = .agg (xs.map (Value.int k)).toArray
  | .q n, v => ∃ L : Loc, θ n = some L ∧ L = ⟨some ⟨L.b, 0, none⟩, L.len, L.len⟩ ∧ v = .pointer (some ⟨L.b, 0, none⟩)
  | .m n, v => ∃ L, θ n = some L ∧ v = .map (some L.b)
  | .sl n len, v => ∃ L, θ n = some L ∧ v = .slice (some ⟨L.b, L.o, none⟩) len len
  | .g n, v => v = .pointer (some ⟨n, 0, none⟩)
  | .vw n l, v => ∃ L, θ n = some L ∧ l ≤ L.len ∧ v = .slice (if L.cap = l then L.a else L.a.map (·.add l)) (L.len - l) (L.cap - l)
  | .w ts s, v => ((∀ t, t ∈ ts → t = true) → V θ s v) ∧ ((¬ ∀ t, t ∈ ts → t = true) → v = undef)
def VL (θ : Th) : List SV → List Value → Prop
  | [], [] => True
  | s :: l, v :: vs => V θ s v ∧ VL θ l vs
  | _, _ => False
end

/-- More names. -/
def Th.ext (θ θ' : Th) : Prop := ∀ n L, θ n = some L → θ' n = some L
theorem Th.ext_refl (θ : Th) : θ.ext θ := fun _ _ h => h
theorem Th.ext_trans {a b c : Th} (h : a.ext b) (k : b.ext c) : a.ext c := fun n L hn => k n L (h n L hn)

mutual
theorem V_mono {θ θ' : Th} (h : θ.ext θ') : ∀ (s : SV) (v : Value), V θ s v → V θ' s v
  | .unk, _, _ => by simp [V]
  | .b _, _, hv => by simpa [V] using hv
  | .c _, _, hv => by simpa [V] using hv
  | .p n o, v, hv => by
    simp only [V] at *
    obtain ⟨L, h1, h2⟩ := hv
    exact ⟨L, h _ _ h1, h2⟩
  | .e n es i o, v, hv => by
    simp only [V] at *
    obtain ⟨L, h1, h2⟩ := hv
    exact ⟨L, h _ _ h1, h2⟩
  | .a n, v, hv => by
    simp only [V] at *
    obtain ⟨L, h1, h2⟩ := hv
    exact ⟨L, h _ _ h1, h2⟩
  | .nil, v, hv => by simpa [V] using hv
  | .agg l, v, hv => by
    simp only [V] at *
    obtain ⟨cs, h1, h2⟩ := hv
    exact ⟨cs, h1, VL_mono h l cs h2⟩
  | .tup l, v, hv => by
    simp only [V] at *
    obtain ⟨cs, h1, h2⟩ := hv
    exact ⟨cs, h1, VL_mono h l cs h2⟩
  | .arr _ _, _, hv => by simpa [V] using hv
  | .q n, v, hv => by
    simp only [V] at *
    obtain ⟨L, h1, h2⟩ := hv
    exact ⟨L, h _ _ h1, h2⟩
  | .f fn nf l, v, hv => by
    simp only [V] at *
    obtain ⟨cs, h1, h2⟩ := hv
    exact ⟨cs, h1, VL_mono h l cs h2⟩
  | .m n, v, hv => by
    simp only [V] at *
    obtain ⟨L, h1, h2⟩ := hv
    exact ⟨L, h _ _ h1, h2⟩
  | .sl n _, v, hv => by
    simp only [V] at *
    obtain ⟨L, h1, h2⟩ := hv
    exact ⟨L, h _ _ h1, h2⟩
  | .g _, _, hv => by simpa [V] using hv
  | .vw n _, v, hv => by
    simp only [V] at *
    obtain ⟨L, h1, h2⟩ := hv
    exact ⟨L, h _ _ h1, h2⟩
  | .w ts s, v, hv => by
    simp only [V] at *
    exact ⟨fun ht => V_mono h s v (hv.1 ht), hv.2⟩
theorem VL_mono {θ θ' : Th} (h : θ.ext θ') : ∀ (l : List SV) (vs : List Value), VL θ l vs → VL θ' l vs
  | [], [], _ => by simp [VL]
  | [], _ :: _, hv => by simp [VL] at hv
  | _ :: _, [], hv => by simp [VL] at hv
  | s :: l, v :: vs, hv => by
    simp only [VL] at *
    exact ⟨V_mono h s v hv.1, VL_mono h l vs hv.2⟩
end

theorem VL_length {θ : Th} : ∀ {l : List SV} {vs : List Value}, VL θ l vs → l.length = vs.length
  | [], [], _ => rfl
  | [], _ :: _, h => by simp [VL] at h
  | _ :: _, [], h => by simp [VL] at h
  | _ :: l, _ :: vs, h => by simp only [VL] at h; simp [VL_length h.2]

theorem VL_get {θ : Th} : ∀ {l : List SV} {vs : List Value} {i : Nat} {s : SV}, VL θ l vs → l[i]? = some s → ∃ v, vs[i]? = some v ∧ V θ s v
  | [], _, i, s, _, h => by simp at h
  | _ :: _, [], _, _, h, _ => by simp [VL] at h
  | t :: l, v :: vs, 0, s, h, hs => by
    simp only [VL] at h
    simp at hs; subst hs
    exact ⟨v, by simp, h.1⟩
  | t :: l, v :: vs, i + 1, s, h, hs => by
    simp only [VL] at h
    simp at hs
    simpa using VL_get h.2 hs

theorem VL_set {θ : Th} : ∀ {l : List SV} {vs : List Value} (i : Nat) {s : SV} {v : Value}, VL θ l vs → V θ s v → VL θ (l.set i s) (vs.set i v)
  | [], [], _, _, _, _, _ => by simp [VL]
  | [], _ :: _, _, _, _, h, _ => by simp [VL] at h
  | _ :: _, [], _, _, _, h, _ => by simp [VL] at h
  | t :: l, u :: vs, 0, s, v, h, hs => by
    simp only [VL, List.set_cons_zero] at *
    exact ⟨hs, h.2⟩
  | t :: l, u :: vs, i + 1, s, v, h, hs => by
    simp only [VL, List.set_cons_succ] at *
    exact ⟨h.1, VL_set i h.2 hs⟩

theorem VL_append {θ : Th} : ∀ {l m : List SV} {vs us : List Value}, VL θ l vs → VL θ m us → VL θ (l ++ m) (vs ++ us)
  | [], _, [], _, _, h => by simpa using h
  | [], _, _ :: _, _, h, _ => by simp [VL] at h
  | _ :: _, _, [], _, h, _ => by simp [VL] at h
  | s :: l, m, v :: vs, us, h, h' => by
    simp only [VL, List.cons_append] at *
    exact ⟨h.1, VL_append h.2 h'⟩

theorem VL_drop {θ : Th} : ∀ {l : List SV} {vs : List Value} (i : Nat), VL θ l vs → VL θ (l.drop i) (vs.drop i)
  | _, _, 0, h => by simpa using h
  | [], [], _ + 1, h => by simpa using h
  | [], _ :: _, _, h => by simp [VL] at h
  | _ :: _, [], _, h => by simp [VL] at h
  | _ :: _, _ :: _, i + 1, h => by
    simp only [VL] at h
    simpa using VL_drop i h.2

theorem VL_take {θ : Th} : ∀ {l : List SV} {vs : List Value} (i : Nat), VL θ l vs → VL θ (l.take i) (vs.take i)
  | _, _, 0, h => by simp [VL]
  | [], [], _ + 1, h => by simp [VL]
  | [], _ :: _, _, h => by simp [VL] at h
  | _ :: _, [], _, h => by simp [VL] at h
  | _ :: _, _ :: _, i + 1, h => by
    simp only [VL] at h
    simp only [List.take_succ_cons, VL]
    exact ⟨h.1, VL_take i h.2⟩

theorem VL_nil {θ : Th} : VL θ [] [] := by simp [VL]
theorem VL_cons {θ : Th} {s : SV} {l : List SV} {v : Value} {vs : List Value} : VL θ (s :: l) (v :: vs) ↔ V θ s v ∧ VL θ l vs := by simp [VL]
theorem VL_nil_left {θ : Th} {vs : List Value} (h : VL θ [] vs) : vs = [] := by cases vs <;> simp_all [VL]
theorem VL_cons_left {θ : Th} {s : SV} {l : List SV} {vs : List Value} (h : VL θ (s :: l) vs) : ∃ v us, vs = v :: us ∧ V θ s v ∧ VL θ l us := by
  cases vs with
  | nil => simp [VL] at h
  | cons v us => simp only [VL] at h; exact ⟨v, us, rfl, h.1, h.2⟩
end Go.Z

/- Resources, symbolic states, and what a step does to them. -/
namespace Go.Z
open Go.RowKit

inductive R where
  | dead
  | ro (d : D)
  | own (T : Nat) (d : D)
  | blk (T : Nat) (l : List SV)
  | rblk (T : Nat) (l : List SV)
  | map (ks vs : Col)
  | rmap (ks vs : Col)
  | gl (b T : Nat) (k : IntKind) (xs : List Int)

/-- An array of integers, cell by cell. -/
def GCell (w : World) (b : Nat) (k : IntKind) (xs : List Int) : Prop := b < w.heap.size ∧ ∀ i z, xs[i]? = some z → w.cell? ⟨b, i, none⟩ = some (.int k z)
theorem GCell.mono {w w' : World} {b : Nat} {k : IntKind} {xs : List Int} (h : GCell w b k xs) (hb : w'.heap[b]? = w.heap[b]?) : GCell w' b k xs :=
  ⟨lt_of_heap_eq h.1 hb, fun i z hz => by rw [cell_eq hb]; exact h.2 i z hz⟩

def R.owns (L : Loc) : R → Prop
  | .own _ _ => L.cap ≠ 0
  | .blk _ _ => True
  | .map _ _ => True
  | _ => False

def R.holds (θ : Th) (X : Nat → Prop) (w : World) (L : Loc) : R → Prop
  | .dead => True
  | .ro d => d.at X w L ∧ L.wf ∧ L.inn X w
  | .own T d => d.at X w L ∧ L.wf ∧ (L.cap ≠ 0 → ∃ cs : Array Value, w.heap[L.b]? = some (.cells cs T (0, 0)) ∧ L.o + L.cap * d.es ≤ cs.size)
  | .blk T l => ∃ cs : List Value, L.a = some ⟨L.b, 0, none⟩ ∧ w.heap[L.b]? = some (.cells cs.toArray T (0, 0)) ∧ VL θ l cs
  | .rblk T l => ∃ cs : List Value, L.a = some ⟨L.b, 0, none⟩ ∧ X L.b ∧ w.heap[L.b]? = some (.cells cs.toArray T (0, 0)) ∧ VL θ l cs
  | .map ks vs => L.a = some ⟨L.b, 0, none⟩ ∧ ∃ es clock, w.heap[L.b]? = some (.map es clock) ∧ MapIs es clock ks vs
  | .gl b _ k xs => L = ⟨some ⟨b, 0, none⟩, xs.length, xs.length⟩ ∧ X b ∧ GCell w b k xs
  | .rmap ks vs => L.a = some ⟨L.b, 0, none⟩ ∧ X L.b ∧ ∃ es clock, w.heap[L.b]? = some (.map es clock) ∧ MapIs es clock ks vs

def hfind : List (Nat × R) → Nat → Option R
  | [], _ => none
  | (m, r) :: t, n => cond (Nat.beq m n) (some r) (hfind t n)

def efind : List (Nat × SV) → Nat → Option SV
  | [], _ => none
  | (m, r) :: t, n => cond (Nat.beq m n) (some r) (efind t n)

theorem hfind_cons (m n : Nat) (r : R) (t : List (Nat × R)) : hfind ((m, r) :: t) n = if m = n then some r else hfind t n := by
  show cond (Nat.beq m n) (some r) (hfind t n) = _
  by_cases h : m = n
  · subst h; simp
  · have : Nat.beq m n = false := by
      cases hb : Nat.beq m n with
      | false => rfl
      | true => exact absurd (Nat.eq_of_beq_eq_true hb) h
    rw [this, if_neg h]; rfl

theorem efind_cons (m n : Nat) (r : SV) (t : List (Nat × SV)) : efind ((m, r) :: t) n = if m = n then some r else efind t n := by
  show cond (Nat.beq m n) (some r) (efind t n) = _
  by_cases h : m = n
  · subst h; simp
  · have : Nat.beq m n = false := by
      cases hb : Nat.beq m n with
      | false => rfl
      | true => exact absurd (Nat.eq_of_beq_eq_true hb) h
    rw [this, if_neg h]; rfl

structure St where
  env : List (Nat × SV)
  h : List (Nat × R)
  nx : Nat

/-- The call's own circumstances: the world that it began in, the blocks that were lent to it, the blocks in which what it reads may lie, the number of its temporaries. -/
structure Ctx where
  w0 : World
  M : Nat → Prop
  A : Nat → Prop
  N : Nat
  ma : ∀ b, M b → A b

structure Fr (M : Nat → Prop) (w0 w : World) : Prop where
  os : w.os = w0.os
  tape : w.tape = w0.tape
  output : w.output = w0.output
  size : w0.heap.size ≤ w.heap.size
  block : ∀ b, b < w0.heap.size → ¬ M b → w.heap[b]? = w0.heap[b]?

theorem Fr.refl (M : Nat → Prop) (w : World) : Fr M w w := ⟨rfl, rfl, rfl, Nat.le_refl _, fun _ _ _ => rfl⟩

theorem Fr.below {w0 w : World} (h : Fr (fun _ => False) w0 w) : Below w0.heap.size w0 w := ⟨h.os, h.tape, h.output, h.size, fun b hb => h.block b hb (fun h => h)⟩
theorem Fr.of_below {w0 w : World} (h : Below w0.heap.size w0 w) : Fr (fun _ => False) w0 w := ⟨h.os, h.tape, h.output, h.size, fun b hb _ => h.block b hb⟩

def OwnsAt (θ : Th) (h : List (Nat × R)) (n b : Nat) : Prop := ∃ r L, hfind h n = some r ∧ θ n = some L ∧ r.owns L ∧ L.b = b
def Free (K : Ctx) (θ : Th) (h : List (Nat × R)) (b : Nat) : Prop := (∀ n, ¬ OwnsAt θ h n b) ∧ (K.w0.heap.size ≤ b ∨ K.A b)

/-- What is read lies in X, and nobody owns that. -/
structure SatX (K : Ctx) (X : Nat → Prop) (θ : Th) (h : List (Nat × R)) (nx : Nat) (w : World) : Prop where
  fresh : ∀ n, nx ≤ n → θ n = none
  res : ∀ n r, hfind h n = some r → ∃ L, θ n = some L ∧ r.holds θ X w L
  dis : ∀ n m b, OwnsAt θ h n b → OwnsAt θ h m b → n = m
  new : ∀ n b, OwnsAt θ h n b → K.w0.heap.size ≤ b ∨ K.M b
  frame : Fr K.M K.w0 w
  sub : ∀ b, X b → Free K θ h b

structure SatH (K : Ctx) (θ : Th) (h : List (Nat × R)) (nx : Nat) (w : World) : Prop where
  fresh : ∀ n, nx ≤ n → θ n = none
  res : ∀ n r, hfind h n = some r → ∃ L, θ n = some L ∧ r.holds θ (Free K θ h) w L
  dis : ∀ n m b, OwnsAt θ h n b → OwnsAt θ h m b → n = m
  new : ∀ n b, OwnsAt θ h n b → K.w0.heap.size ≤ b ∨ K.M b
  frame : Fr K.M K.w0 w

theorem SatH.toX {K : Ctx} {θ : Th} {h : List (Nat × R)} {nx : Nat} {w : World} (hs : SatH K θ h nx w) : SatX K (Free K θ h) θ h nx w :=
  ⟨hs.fresh, hs.res, hs.dis, hs.new, hs.frame, fun _ hb => hb⟩

structure SatE (K : Ctx) (θ : Th) (env : List (Nat × SV)) (a : Act) : Prop where
  size : a.tmps.size = K.N
  defers : a.defers = []
  val : ∀ t s, efind env t = some s → ∃ v, a.tmps[t]? = some v ∧ V θ s v

theorem SatE.mono {K : Ctx} {θ θ' : Th} {env : List (Nat × SV)} {a : Act} (h : SatE K θ env a) (hθ : θ.ext θ') : SatE K θ' env a :=
  ⟨h.size, h.defers, fun t s hs => let ⟨v, h1, h2⟩ := h.val t s hs; ⟨v, h1, V_mono hθ s v h2⟩⟩

theorem SatE.put {K : Ctx} {θ : Th} {env : List (Nat × SV)} {a : Act} (h : SatE K θ env a) {d : Nat} {s : SV} {v : Value} (hd : d < K.N) (hv : V θ s v) :
    SatE K θ ((d, s) :: env) (a.put (some d) v) := by
  refine ⟨by simp [Act.put, h.size], by simp [Act.put, h.defers], fun t s' hs => ?_⟩
  rw [efind_cons] at hs
  split at hs
  · rename_i e; subst e; simp at hs; subst hs
    exact ⟨v, by simp [Act.put, h.size, hd], hv⟩
  · rename_i e
    obtain ⟨v', h1, h2⟩ := h.val t s' hs
    exact ⟨v', by simp [Act.put, e]; exact h1, h2⟩

theorem SatE.eval {K : Ctx} {θ : Th} {env : List (Nat × SV)} {a : Act} (h : SatE K θ env a) {t : Nat} {s : SV} (hs : efind env t = some s) :
    V θ s (a.eval (.tmp t)) := by
  obtain ⟨v, h1, h2⟩ := h.val t s hs
  have : a.eval (.tmp t) = v := by
    simp only [Act.eval, Array.getD_eq_getD_getElem?, h1]; rfl
  rw [this]; exact h2

theorem D.at_len' {X : Nat → Prop} {w : World} {L : Loc} {d : D} (h : d.at X w L) : L.len = d.len ∧ L.len ≤ L.cap := by
  cases d with
  | ints k xs => exact ⟨h.1, h.2.1⟩
  | recs es n f => exact ⟨h.1, h.2.1⟩
  | v _ => exact h.elim
  | ptr _ _ _ => exact h.elim
  | fn _ _ _ _ => exact h.elim
  | map _ _ => exact h.elim

theorem R.owned_lt {θ : Th} {X : Nat → Prop} {w : World} {L : Loc} {r : R} (h : r.holds θ X w L) (ho : r.owns L) : L.b < w.heap.size := by
  cases r with
  | own T d =>
    obtain ⟨cs, hc, _⟩ := h.2.2 ho
    exact (Array.getElem?_eq_some_iff.1 hc).1
  | blk T l =>
    obtain ⟨cs, _, hc, _⟩ := h
    exact (Array.getElem?_eq_some_iff.1 hc).1
  | map ks vs =>
    obtain ⟨_, es, clock, hc, _⟩ := h
    exact (Array.getElem?_eq_some_iff.1 hc).1
  | dead => exact ho.elim
  | ro d => exact ho.elim
  | rblk T l => exact ho.elim
  | rmap ks vs => exact ho.elim
  | gl b T k xs => exact ho.elim

theorem OwnsAt.ltX {K : Ctx} {X : Nat → Prop} {θ : Th} {h : List (Nat × R)} {nx : Nat} {w : World} (hs : SatX K X θ h nx w) {n b : Nat} (ho : OwnsAt θ h n b) : b < w.heap.size := by
  obtain ⟨r, L, h1, h2, h3, rfl⟩ := ho
  obtain ⟨L', h2', h4⟩ := hs.res n r h1
  obtain rfl := Option.some.inj (h2.symm.trans h2')
  exact R.owned_lt h4 h3
theorem OwnsAt.lt {K : Ctx} {θ : Th} {h : List (Nat × R)} {nx : Nat} {w : World} (hs : SatH K θ h nx w) {n b : Nat} (ho : OwnsAt θ h n b) : b < w.heap.size := ho.ltX hs.toX

theorem R.holds_mono {θ θ' : Th} {X X' : Nat → Prop} {w w' : World} {L : Loc} {r : R} (hθ : θ.ext θ') (hk : Keeps X X' w w')
    (ho : r.owns L → w'.heap[L.b]? = w.heap[L.b]?) (h : r.holds θ X w L) : r.holds θ' X' w' L := by
  cases r with
  | dead => trivial
  | ro d =>
    obtain ⟨h1, h2, h3⟩ := h
    exact ⟨D.at_mono hk (fun hne => (hk _ (h3 hne).2 (h3 hne).1).2) h1, h2, Loc.inn_mono hk h3⟩
  | own T d =>
    obtain ⟨h1, h2, h3⟩ := h
    have hcap : L.len ≠ 0 → L.cap ≠ 0 := by have := (D.at_len' h1).2; omega
    refine ⟨D.at_mono hk (fun hne => ho (hcap hne)) h1, h2, fun hc => ?_⟩
    obtain ⟨cs, hcs, hsz⟩ := h3 hc
    exact ⟨cs, by rw [ho hc]; exact hcs, hsz⟩
  | blk T l =>
    obtain ⟨cs, h1, h2, h3⟩ := h
    exact ⟨cs, h1, by rw [ho trivial]; exact h2, VL_mono hθ _ _ h3⟩
  | rblk T l =>
    obtain ⟨cs, h1, h0, h2, h3⟩ := h
    have hb := (Array.getElem?_eq_some_iff.1 h2).1
    exact ⟨cs, h1, (hk _ hb h0).1, by rw [(hk _ hb h0).2]; exact h2, VL_mono hθ _ _ h3⟩
  | map ks vs =>
    obtain ⟨h1, es, clock, h2, h3⟩ := h
    exact ⟨h1, es, clock, by rw [ho trivial]; exact h2, h3⟩
  | gl b T k xs =>
    obtain ⟨h1, h0, h2⟩ := h
    exact ⟨h1, (hk _ h2.1 h0).1, h2.mono (hk _ h2.1 h0).2⟩
  | rmap ks vs =>
    obtain ⟨h1, h0, es, clock, h2, h3⟩ := h
    have hb := (Array.getElem?_eq_some_iff.1 h2).1
    exact ⟨h1, (hk _ hb h0).1, es, clock, by rw [(hk _ hb h0).2]; exact h2, h3⟩

theorem SatX.toH {K : Ctx} {X : Nat → Prop} {θ : Th} {h : List (Nat × R)} {nx : Nat} {w : World} (hs : SatX K X θ h nx w) : SatH K θ h nx w :=
  ⟨hs.fresh, fun n r hr => let ⟨L, h1, h2⟩ := hs.res n r hr; ⟨L, h1, R.holds_mono (Th.ext_refl _) (fun b _ hb => ⟨hs.sub b hb, rfl⟩) (fun _ => rfl) h2⟩, hs.dis, hs.new, hs.frame⟩

/-- One step of whatever kind: what was, and is asked for still, is kept; the rest is shown anew. -/
theorem SatH.gen {K : Ctx} {θ θ' : Th} {h h' : List (Nat × R)} {nx nx' : Nat} {w w' : World} (hs : SatH K θ h nx w) (hθ : θ.ext θ')
    (hfresh : ∀ n, nx' ≤ n → θ' n = none) (hk : Keeps (Free K θ h) (Free K θ' h') w w')
    (hres : ∀ n r, hfind h' n = some r → (hfind h n = some r ∧ ∀ L, θ n = some L → r.owns L → w'.heap[L.b]? = w.heap[L.b]?) ∨ (∃ L, θ' n = some L ∧ r.holds θ' (Free K θ' h') w' L))
    (hdis : ∀ n m b, OwnsAt θ' h' n b → OwnsAt θ' h' m b → n = m)
    (hnew : ∀ n b, OwnsAt θ' h' n b → K.w0.heap.size ≤ b ∨ K.M b) (hfr : Fr K.M K.w0 w') : SatH K θ' h' nx' w' := by
  refine ⟨hfresh, fun n r hr => ?_, hdis, hnew, hfr⟩
  rcases hres n r hr with ⟨h1, h2⟩ | h1
  · obtain ⟨L, h3, h4⟩ := hs.res n r h1
    exact ⟨L, hθ _ _ h3, R.holds_mono hθ hk (h2 L h3) h4⟩
  · exact h1

/-- A name more. -/
def Th.add (θ : Th) (n : Nat) (L : Loc) : Th := fun m => if m = n then some L else θ m
theorem Th.add_self (θ : Th) (n : Nat) (L : Loc) : θ.add n L n = some L := by simp [Th.add]
theorem Th.add_other (θ : Th) {n m : Nat} (L : Loc) (h : m ≠ n) : θ.add n L m = θ m := by simp [Th.add, h]
theorem Th.add_ext {θ : Th} {n : Nat} (h : θ n = none) (L : Loc) : θ.ext (θ.add n L) := fun m L' hm => by
  by_cases e : m = n
  · subst e; rw [h] at hm; cases hm
  · rw [Th.add_other _ _ e]; exact hm

theorem SatX.named_lt {K : Ctx} {X : Nat → Prop} {θ : Th} {h : List (Nat × R)} {nx : Nat} {w : World} (hs : SatX K X θ h nx w) {n : Nat} {L : Loc} (hL : θ n = some L) : n < nx := by
  rcases Nat.lt_or_ge n nx with h' | h'
  · exact h'
  · rw [hs.fresh n h'] at hL; cases hL
theorem SatH.named_lt {K : Ctx} {θ : Th} {h : List (Nat × R)} {nx : Nat} {w : World} (hs : SatH K θ h nx w) {n : Nat} {L : Loc} (hL : θ n = some L) : n < nx := hs.toX.named_lt hL

/-- In a state with one name more (the newest), who owns what. -/
theorem ownsAt_add' {θ : Th} {nx : Nat} (hn : θ nx = none) (h : List (Nat × R)) (r : R) (L : Loc) (n b : Nat) :
    OwnsAt (θ.add nx L) ((nx, r) :: h) n b ↔ (n = nx ∧ r.owns L ∧ L.b = b) ∨ (n ≠ nx ∧ OwnsAt θ h n b) := by
  constructor
  · rintro ⟨r', L', h1, h2, h3, h4⟩
    rw [hfind_cons] at h1
    by_cases e : n = nx
    · subst e
      rw [if_pos rfl] at h1
      rw [Th.add_self] at h2
      cases h1; cases h2
      exact .inl ⟨rfl, h3, h4⟩
    · rw [if_neg (Ne.symm e)] at h1
      rw [Th.add_other _ _ e] at h2
      exact .inr ⟨e, r', L', h1, h2, h3, h4⟩
  · rintro (⟨rfl, h3, h4⟩ | ⟨e, r', L', h1, h2, h3, h4⟩)
    · exact ⟨r, L, by rw [hfind_cons, if_pos rfl], Th.add_self _ _ _, h3, h4⟩
    · exact ⟨r', L', by rw [hfind_cons, if_neg (Ne.symm e)]; exact h1, by rw [Th.add_other _ _ e]; exact h2, h3, h4⟩
theorem ownsAt_add {K : Ctx} {θ : Th} {h : List (Nat × R)} {nx : Nat} {w : World} (hs : SatH K θ h nx w) (r : R) (L : Loc) (n b : Nat) :
    OwnsAt (θ.add nx L) ((nx, r) :: h) n b ↔ (n = nx ∧ r.owns L ∧ L.b = b) ∨ (n ≠ nx ∧ OwnsAt θ h n b) := ownsAt_add' (hs.fresh nx (Nat.le_refl _)) h r L n b

/-- The world has grown by whatever; nothing that is named has turned. -/
theorem SatH.below {K : Ctx} {θ : Th} {h : List (Nat × R)} {nx : Nat} {w w' : World} (hs : SatH K θ h nx w) (hb : Below w.heap.size w w') : SatH K θ h nx w' := by
  refine hs.gen (Th.ext_refl _) hs.fresh (fun b hb' hf => ⟨hf, hb.block b hb'⟩) (fun n r hr => .inl ⟨hr, fun L hL ho => hb.block _ ?_⟩) hs.dis hs.new ?_
  · exact OwnsAt.lt hs ⟨r, L, hr, hL, ho, rfl⟩
  · exact ⟨hb.os.trans hs.frame.os, hb.tape.trans hs.frame.tape, hb.output.trans hs.frame.output, Nat.le_trans hs.frame.size hb.size,
      fun b hb1 hb2 => (hb.block b (Nat.lt_of_lt_of_le hb1 hs.frame.size)).trans (hs.frame.block b hb1 hb2)⟩

/-- What a step that only reads may do to the state: names are added that own nothing. -/
structure AddsX (K : Ctx) (X : Nat → Prop) (θ θ' : Th) (h h' : List (Nat × R)) (nx nx' : Nat) (w : World) : Prop where
  sat : SatX K X θ' h' nx' w
  ext : θ.ext θ'
  le : nx ≤ nx'
  agree : ∀ n, n < nx → θ' n = θ n
  find : ∀ n, n < nx → hfind h' n = hfind h n
  own : ∀ n b, OwnsAt θ' h' n b → OwnsAt θ h n b

theorem AddsX.refl {K : Ctx} {X : Nat → Prop} {θ : Th} {h : List (Nat × R)} {nx : Nat} {w : World} (hs : SatX K X θ h nx w) : AddsX K X θ θ h h nx nx w :=
  ⟨hs, Th.ext_refl _, Nat.le_refl _, fun _ _ => rfl, fun _ _ => rfl, fun _ _ h => h⟩
theorem AddsX.trans {K : Ctx} {X : Nat → Prop} {θ θ' θ'' : Th} {h h' h'' : List (Nat × R)} {nx nx' nx'' : Nat} {w : World} (a : AddsX K X θ θ' h h' nx nx' w) (b : AddsX K X θ' θ'' h' h'' nx' nx'' w) :
    AddsX K X θ θ'' h h'' nx nx'' w :=
  ⟨b.sat, Th.ext_trans a.ext b.ext, Nat.le_trans a.le b.le, fun n hn => (b.agree n (Nat.lt_of_lt_of_le hn a.le)).trans (a.agree n hn),
    fun n hn => (b.find n (Nat.lt_of_lt_of_le hn a.le)).trans (a.find n hn), fun n b' ho => a.own n b' (b.own n b' ho)⟩

/-- A new name for something that nobody owns. -/
theorem SatX.add_ref {K : Ctx} {X : Nat → Prop} {θ : Th} {h : List (Nat × R)} {nx : Nat} {w : World} (hs : SatX K X θ h nx w) {r : R} {L : Loc} (ho : ¬ r.owns L)
    (hr : r.holds θ X w L) : AddsX K X θ (θ.add nx L) h ((nx, r) :: h) nx (nx + 1) w := by
  have hnx := hs.fresh nx (Nat.le_refl _)
  have hext := Th.add_ext hnx L
  have hown : ∀ n b, OwnsAt (θ.add nx L) ((nx, r) :: h) n b → OwnsAt θ h n b := fun n b hn => by
    rcases (ownsAt_add' hnx h r L n b).1 hn with ⟨_, h2, _⟩ | ⟨_, h2⟩
    · exact absurd h2 ho
    · exact h2
  refine ⟨⟨fun n hn => by rw [Th.add_other _ _ (by omega)]; exact hs.fresh n (by omega), fun n r' hr' => ?_, fun n m b h1 h2 => hs.dis n m b (hown n b h1) (hown m b h2), fun n b h1 => hs.new n b (hown n b h1), hs.frame,
      fun b hb => ⟨fun n hn => (hs.sub b hb).1 n (hown n b hn), (hs.sub b hb).2⟩⟩, hext, by omega, fun n hn => Th.add_other _ _ (by omega), fun n hn => by rw [hfind_cons, if_neg (by omega)], hown⟩
  rw [hfind_cons] at hr'
  split at hr'
  · rename_i e; subst e; cases hr'
    exact ⟨L, Th.add_self _ _ _, R.holds_mono hext (fun _ _ hb => ⟨hb, rfl⟩) (fun _ => rfl) hr⟩
  · obtain ⟨L', h1, h2⟩ := hs.res n r' hr'
    exact ⟨L', hext _ _ h1, R.holds_mono hext (fun _ _ hb => ⟨hb, rfl⟩) (fun _ => rfl) h2⟩

/-- A name (old or the newest) gets a block that nobody owns, and in which nothing lies that is read. -/
theorem SatX.give {K : Ctx} {X : Nat → Prop} {θ θ' : Th} {h : List (Nat × R)} {nx nx' : Nat} {w : World} (hs : SatX K X θ h nx w) (hext : θ.ext θ') (hfr : ∀ n, nx' ≤ n → θ' n = none) {n : Nat} {r : R} {L : Loc}
    (hL : θ' n = some L) (hag : ∀ m, m ≠ n → θ' m = θ m) (hh : r.holds θ' X w L) (hX : r.owns L → ¬ X L.b) (hno : r.owns L → ∀ m, ¬ OwnsAt θ h m L.b) (hnew : r.owns L → K.w0.heap.size ≤ L.b ∨ K.M L.b) :
    SatX K X θ' ((n, r) :: h) nx' w ∧ (∀ m b, OwnsAt θ' ((n, r) :: h) m b → OwnsAt θ h m b ∨ (m = n ∧ r.owns L ∧ b = L.b)) := by
  have hown : ∀ m b, OwnsAt θ' ((n, r) :: h) m b → (m ≠ n ∧ OwnsAt θ h m b) ∨ (m = n ∧ r.owns L ∧ b = L.b) := by
    rintro m b ⟨r1, L1, h1, h2, h3, h4⟩
    rw [hfind_cons] at h1
    split at h1
    · rename_i e; subst e; cases h1
      rw [hL] at h2; cases h2
      exact .inr ⟨rfl, h3, h4.symm⟩
    · rename_i e
      rw [hag m (Ne.symm e)] at h2
      exact .inl ⟨Ne.symm e, r1, L1, h1, h2, h3, h4⟩
  refine ⟨⟨hfr, fun m r' hr' => ?_, fun a c b h1 h2 => ?_, fun m b h1 => ?_, hs.frame, fun b hb => ⟨fun m hm => ?_, (hs.sub b hb).2⟩⟩, fun m b ho => (hown m b ho).imp (fun h => h.2) id⟩
  · rw [hfind_cons] at hr'
    split at hr'
    · rename_i e; subst e; cases hr'
      exact ⟨L, hL, hh⟩
    · obtain ⟨L', h1, h2⟩ := hs.res m r' hr'
      exact ⟨L', hext _ _ h1, R.holds_mono hext (fun _ _ hb => ⟨hb, rfl⟩) (fun _ => rfl) h2⟩
  · rcases hown a b h1 with ⟨_, h3⟩ | ⟨e1, h3, e3⟩ <;> rcases hown c b h2 with ⟨_, h4⟩ | ⟨e2, h4, e4⟩
    · exact hs.dis a c b h3 h4
    · subst e4; exact absurd h3 (hno h4 a)
    · subst e3; exact absurd h4 (hno h3 c)
    · omega
  · rcases hown m b h1 with ⟨_, h3⟩ | ⟨_, h3, e3⟩
    · exact hs.new m b h3
    · subst e3; exact hnew h3
  · rcases hown m b hm with ⟨_, h3⟩ | ⟨_, h3, e3⟩
    · exact (hs.sub b hb).1 m h3
    · subst e3; exact hX h3 hb

/-- The world has grown; of the new blocks one (or none) is owned under a new name. -/
theorem SatH.add_new {K : Ctx} {θ : Th} {h : List (Nat × R)} {nx : Nat} {w w' : World} (hs : SatH K θ h nx w) (hb : Below w.heap.size w w') {r : R} {L : Loc}
    (hn : r.owns L → w.heap.size ≤ L.b)
    (hr : ∀ θ' X', θ.ext θ' → (∀ b, b < w.heap.size → Free K θ h b → X' b) → (∀ b, w.heap.size ≤ b → ¬ (r.owns L ∧ L.b = b) → X' b) → r.holds θ' X' w' L) :
    SatH K (θ.add nx L) ((nx, r) :: h) (nx + 1) w' := by
  have ho := ownsAt_add hs r L
  have hold : ∀ n b, OwnsAt θ h n b → b < w.heap.size := fun n b => OwnsAt.lt hs
  have hF : ∀ b, b < w.heap.size → Free K θ h b → Free K (θ.add nx L) ((nx, r) :: h) b := fun b hb' hf => ⟨fun n hn' => by
    rcases (ho n b).1 hn' with ⟨_, h2, h3⟩ | ⟨_, h2⟩
    · have := hn h2; omega
    · exact hf.1 n h2, hf.2⟩
  have hext := Th.add_ext (hs.fresh nx (Nat.le_refl _)) L
  refine hs.gen hext (fun n hn => by rw [Th.add_other _ _ (by omega)]; exact hs.fresh n (by omega)) (fun b hb' hf => ⟨hF b hb' hf, hb.block b hb'⟩) ?_ ?_ ?_ ?_
  · intro n r' hr'
    rw [hfind_cons] at hr'
    split at hr'
    · rename_i e; subst e; cases hr'
      refine .inr ⟨L, Th.add_self _ _ _, hr _ _ hext (fun b h1 h2 => hF b h1 h2) (fun b h1 h2 => ⟨fun n hn' => ?_, .inl (Nat.le_trans hs.frame.size h1)⟩)⟩
      rcases (ho n b).1 hn' with ⟨_, h3, h4⟩ | ⟨_, h3⟩
      · exact h2 ⟨h3, h4⟩
      · have := hold _ _ h3; omega
    · exact .inl ⟨hr', fun L' hL' ho' => hb.block _ (hold n _ ⟨r', L', hr', hL', ho', rfl⟩)⟩
  · intro n m b h1 h2
    rcases (ho n b).1 h1 with ⟨e1, h3, h3'⟩ | ⟨e1, h3⟩ <;> rcases (ho m b).1 h2 with ⟨e2, h4, h4'⟩ | ⟨e2, h4⟩
    · omega
    · have := hold _ _ h4; have := hn h3; omega
    · have := hold _ _ h3; have := hn h4; omega
    · exact hs.dis n m b h3 h4
  · intro n b h1
    rcases (ho n b).1 h1 with ⟨_, h3, h4⟩ | ⟨_, h3⟩
    · have := hn h3; have := hs.frame.size; exact .inl (by omega)
    · exact hs.new n b h3
  · exact ⟨hb.os.trans hs.frame.os, hb.tape.trans hs.frame.tape, hb.output.trans hs.frame.output, Nat.le_trans hs.frame.size hb.size,
      fun b hb1 hb2 => (hb.block b (Nat.lt_of_lt_of_le hb1 hs.frame.size)).trans (hs.frame.block b hb1 hb2)⟩

/-- The world has turned in one owned block; the name that owned it says something else now. -/
theorem SatH.turn {K : Ctx} {θ : Th} {h : List (Nat × R)} {nx : Nat} {w w' : World} (hs : SatH K θ h nx w) {n : Nat} {r r' : R} {L : Loc}
    (hn : hfind h n = some r) (hL : θ n = some L) (hw : r.owns L)
    (hos : w'.os = w.os) (htape : w'.tape = w.tape) (hout : w'.output = w.output) (hsize : w'.heap.size = w.heap.size) (hblock : ∀ b, b ≠ L.b → w'.heap[b]? = w.heap[b]?)
    (hr' : r'.owns L) (hh : ∀ X', (∀ b, b < w.heap.size → Free K θ h b → X' b) → r'.holds θ X' w' L) :
    SatH K θ ((n, r') :: h) nx w' := by
  have ho : ∀ m b, OwnsAt θ ((n, r') :: h) m b ↔ OwnsAt θ h m b := by
    intro m b
    constructor
    · rintro ⟨r1, L1, h1, h2, h3, h4⟩
      rw [hfind_cons] at h1
      by_cases e : n = m
      · subst e
        rw [hL] at h2; cases h2
        exact ⟨r, L, hn, hL, hw, h4⟩
      · rw [if_neg e] at h1; exact ⟨r1, L1, h1, h2, h3, h4⟩
    · rintro ⟨r1, L1, h1, h2, h3, h4⟩
      by_cases e : n = m
      · subst e
        rw [hL] at h2; cases h2
        exact ⟨r', L, by rw [hfind_cons, if_pos rfl], hL, hr', h4⟩
      · exact ⟨r1, L1, by rw [hfind_cons, if_neg e]; exact h1, h2, h3, h4⟩
  have hF : ∀ b, Free K θ h b → Free K θ ((n, r') :: h) b := fun b hf => ⟨fun m hm => hf.1 m ((ho m b).1 hm), hf.2⟩
  have hme : OwnsAt θ h n L.b := ⟨r, L, hn, hL, hw, rfl⟩
  refine hs.gen (Th.ext_refl _) hs.fresh (fun b _ hf => ⟨hF b hf, hblock b (fun e => hf.1 n (e ▸ hme))⟩) ?_ (fun a b c h1 h2 => hs.dis a b c ((ho _ _).1 h1) ((ho _ _).1 h2)) (fun a b h1 => hs.new a b ((ho _ _).1 h1)) ?_
  · intro m r1 h1
    rw [hfind_cons] at h1
    split at h1
    · rename_i e; subst e; cases h1
      exact .inr ⟨L, hL, hh _ (fun b _ hf => hF b hf)⟩
    · rename_i e
      refine .inl ⟨h1, fun L1 hL1 ho1 => hblock _ (fun e1 => e ?_)⟩
      exact hs.dis n m L.b hme ⟨r1, L1, h1, hL1, ho1, e1⟩
  · refine ⟨hos.trans hs.frame.os, htape.trans hs.frame.tape, hout.trans hs.frame.output, by rw [hsize]; exact hs.frame.size, fun b hb1 hb2 => ?_⟩
    rw [hblock b ?_]
    · exact hs.frame.block b hb1 hb2
    · intro e; subst e
      rcases hs.new n _ hme with h1 | h1
      · omega
      · exact hb2 h1

/-- An owned array is owned no more: it is read only from now on. -/
theorem SatH.freeze {K : Ctx} {θ : Th} {h : List (Nat × R)} {nx : Nat} {w : World} (hs : SatH K θ h nx w) {n T : Nat} {d : D}
    (hn : hfind h n = some (.own T d)) : SatH K θ ((n, .ro d) :: h) nx w := by
  obtain ⟨L, hL, h1, h2, h3⟩ := hs.res n _ hn
  have ho : ∀ m b, OwnsAt θ ((n, .ro d) :: h) m b → OwnsAt θ h m b ∧ m ≠ n := by
    rintro m b ⟨r1, L1, h1, h2, h3, h4⟩
    rw [hfind_cons] at h1
    split at h1
    · cases h1; exact h3.elim
    · rename_i e; exact ⟨⟨r1, L1, h1, h2, h3, h4⟩, Ne.symm e⟩
  have hF : ∀ b, Free K θ h b → Free K θ ((n, .ro d) :: h) b := fun b hf => ⟨fun m hm => hf.1 m (ho m b hm).1, hf.2⟩
  have hcap : L.len ≠ 0 → L.cap ≠ 0 := by have := (D.at_len' h1).2; omega
  refine hs.gen (Th.ext_refl _) hs.fresh (fun b _ hf => ⟨hF b hf, rfl⟩) ?_ (fun a b c h1 h2 => hs.dis a b c (ho _ _ h1).1 (ho _ _ h2).1) (fun a b h1 => hs.new a b (ho _ _ h1).1) hs.frame
  intro m r1 hr
  rw [hfind_cons] at hr
  split at hr
  · rename_i e; subst e; cases hr
    refine .inr ⟨L, hL, D.at_mono (fun b _ hf => ⟨hF b hf, rfl⟩) (fun _ => rfl) h1, h2, fun hne => ⟨⟨fun m hm => ?_, ?_⟩, ?_⟩⟩
    · obtain ⟨hm1, hm2⟩ := ho m _ hm
      exact hm2 (hs.dis m n L.b hm1 ⟨_, L, hn, hL, hcap hne, rfl⟩)
    · exact (hs.new n L.b ⟨_, L, hn, hL, hcap hne, rfl⟩).imp id (K.ma _)
    · obtain ⟨cs, hc, _⟩ := h3 (hcap hne)
      exact (Array.getElem?_eq_some_iff.1 hc).1
  · exact .inl ⟨hr, fun _ _ _ => rfl⟩

/-- A name is given up. -/
theorem SatH.kill {K : Ctx} {θ : Th} {h : List (Nat × R)} {nx : Nat} {w : World} (hs : SatH K θ h nx w) {n : Nat} (hn : ∃ L, θ n = some L) : SatH K θ ((n, .dead) :: h) nx w := by
  have ho : ∀ m b, OwnsAt θ ((n, .dead) :: h) m b → OwnsAt θ h m b := by
    rintro m b ⟨r1, L1, h1, h2, h3, h4⟩
    rw [hfind_cons] at h1
    split at h1
    · cases h1; exact h3.elim
    · exact ⟨r1, L1, h1, h2, h3, h4⟩
  have hF : ∀ b, Free K θ h b → Free K θ ((n, .dead) :: h) b := fun b hf => ⟨fun m hm => hf.1 m (ho m b hm), hf.2⟩
  refine hs.gen (Th.ext_refl _) hs.fresh (fun b _ hf => ⟨hF b hf, rfl⟩) ?_ (fun a b c h1 h2 => hs.dis a b c (ho _ _ h1) (ho _ _ h2)) (fun a b h1 => hs.new a b (ho _ _ h1)) hs.frame
  intro m r1 hr
  rw [hfind_cons] at hr
  split at hr
  · rename_i e; subst e; cases hr
    obtain ⟨L, hL⟩ := hn
    exact .inr ⟨L, hL, trivial⟩
  · exact .inl ⟨hr, fun _ _ _ => rfl⟩

section
variable {K : Ctx} {θ : Th} {h : List (Nat × R)} {nx : Nat} {w : World}
/-- An owned array lies on under a new name. -/
theorem SatH.move (hs : SatH K θ h nx w) {n T : Nat} {d r : D} {L L' : Loc} {w' : World} (hn : hfind h n = some (.own T d)) (hL : θ n = some L) (hcap : L.cap ≠ 0)
    (hb : L'.b = L.b) (hc' : L'.cap ≠ 0)
    (hos : w'.os = w.os) (htape : w'.tape = w.tape) (hout : w'.output = w.output) (hsize : w'.heap.size = w.heap.size) (hblock : ∀ b, b ≠ L.b → w'.heap[b]? = w.heap[b]?)
    (hh : ∀ X', (∀ b, b < w.heap.size → Free K θ h b → X' b) → (R.own T r).holds (θ.add nx L') X' w' L') :
    SatH K (θ.add nx L') ((nx, .own T r) :: (n, .dead) :: h) (nx + 1) w' := by
  have hnx := hs.fresh nx (Nat.le_refl _)
  have hne : n ≠ nx := fun e => by subst e; rw [hnx] at hL; cases hL
  have hme : OwnsAt θ h n L.b := ⟨_, L, hn, hL, hcap, rfl⟩
  have ho : ∀ m b, OwnsAt (θ.add nx L') ((nx, .own T r) :: (n, .dead) :: h) m b ↔ (m = nx ∧ b = L.b) ∨ (m ≠ nx ∧ m ≠ n ∧ OwnsAt θ h m b) := by
    intro m b
    rw [ownsAt_add' hnx]
    constructor
    · rintro (⟨rfl, _, h3⟩ | ⟨e, r1, L1, h1, h2, h3, h4⟩)
      · exact .inl ⟨rfl, by rw [← h3, hb]⟩
      · rw [hfind_cons] at h1
        split at h1
        · cases h1; exact h3.elim
        · rename_i e2; exact .inr ⟨e, Ne.symm e2, r1, L1, h1, h2, h3, h4⟩
    · rintro (⟨rfl, rfl⟩ | ⟨e, e2, r1, L1, h1, h2, h3, h4⟩)
      · exact .inl ⟨rfl, hc', hb⟩
      · exact .inr ⟨e, r1, L1, by rw [hfind_cons, if_neg (Ne.symm e2)]; exact h1, h2, h3, h4⟩
  have hF : ∀ b, Free K θ h b → Free K (θ.add nx L') ((nx, .own T r) :: (n, .dead) :: h) b := fun b hf => ⟨fun m hm => by
    rcases (ho m b).1 hm with ⟨_, e⟩ | ⟨_, _, h1⟩
    · subst e; exact hf.1 n hme
    · exact hf.1 m h1, hf.2⟩
  refine hs.gen (Th.add_ext hnx L') (fun m hm => by rw [Th.add_other _ _ (by omega)]; exact hs.fresh m (by omega)) (fun b _ hf => ⟨hF b hf, hblock b (fun e => hf.1 n (e ▸ hme))⟩) ?_ ?_ ?_ ?_
  · intro m r1 hr
    rw [hfind_cons] at hr
    split at hr
    · rename_i e; subst e; cases hr
      exact .inr ⟨L', Th.add_self _ _ _, hh _ (fun b _ hf => hF b hf)⟩
    · rename_i e
      rw [hfind_cons] at hr
      split at hr
      · rename_i e2; subst e2; cases hr
        exact .inr ⟨L, by rw [Th.add_other _ _ hne]; exact hL, trivial⟩
      · rename_i e2
        refine .inl ⟨hr, fun L1 hL1 ho1 => hblock _ (fun e1 => e2 ?_)⟩
        exact hs.dis n m L.b hme ⟨r1, L1, hr, hL1, ho1, e1⟩
  · intro a b c h1 h2
    rcases (ho a c).1 h1 with ⟨e1, e1'⟩ | ⟨e1, e1', h3⟩ <;> rcases (ho b c).1 h2 with ⟨e2, e2'⟩ | ⟨e2, e2', h4⟩
    · omega
    · subst e1'; exact absurd (hs.dis n b _ hme h4).symm e2'
    · subst e2'; exact absurd (hs.dis n a _ hme h3).symm e1'
    · exact hs.dis a b c h3 h4
  · intro a b h1
    rcases (ho a b).1 h1 with ⟨_, e⟩ | ⟨_, _, h3⟩
    · subst e; exact hs.new n _ hme
    · exact hs.new a b h3
  · refine ⟨hos.trans hs.frame.os, htape.trans hs.frame.tape, hout.trans hs.frame.output, by rw [hsize]; exact hs.frame.size, fun b hb1 hb2 => ?_⟩
    rw [hblock b ?_]
    · exact hs.frame.block b hb1 hb2
    · intro e; subst e
      rcases hs.new n _ hme with h1 | h1
      · omega
      · exact hb2 h1
end
end Go.Z

/- Operations that only read: what they yield, symbolically; that they do. -/
namespace Go.Z
open Go.RowKit

/-! Types, as the program's tables have them -/

/-- (is it a struct or an array?, how many cells) -/
def kindT (P : Program) (T : Nat) : Option (Bool × Nat) :=
  match P.underlying T, P.info? T with
  | some (.struct _), some i => some (true, i.size)
  | some (.array _ _), some i => some (true, i.size)
  | some _, some i => some (false, i.size)
  | _, _ => none

theorem run_typeInfo {P : Program} {T : Nat} {i : TypeInfo} (h : P.info? T = some i) (w : World) : (typeInfo T).run P w = .ok i w := by
  simp [typeInfo, h]
theorem run_sizeOf {P : Program} {T : Nat} {i : TypeInfo} (h : P.info? T = some i) (w : World) : (sizeOf T).run P w = .ok i.size w := by
  simp [sizeOf, run_typeInfo h]

theorem run_kind {P : Program} {T : Nat} {g : Bool} {s : Nat} (h : kindT P T = some (g, s)) (w : World) :
    (isAgg T).run P w = .ok g w ∧ (sizeOf T).run P w = .ok s w := by
  unfold kindT at h
  split at h <;> cases h
  all_goals
    rename_i hu hi
    refine ⟨?_, run_sizeOf hi w⟩
    simp only [isAgg, Sem.run_bind, run_underlying hu, Result.andThen]
  · rfl
  · rfl
  · rename_i u _ h1 h2
    cases u <;> first | rfl | (exact absurd rfl (h1 _ ‹_›)) | (exact absurd rfl (h2 _ _ ‹_›)) | (exact (h1 _ hu).elim) | (exact (h2 _ _ hu).elim)

/-- A program constant, as far as it is known by looking. -/
def liftK1 : Value → SV
  | .bool b => .b b
  | .slice none 0 0 => .nil
  | v => .c v
def liftK : Value → SV
  | .agg cs => .agg (cs.toList.map liftK1)
  | v => liftK1 v

theorem V_liftK1 (θ : Th) (v : Value) : V θ (liftK1 v) v := by
  unfold liftK1; split <;> simp [V]
theorem VL_liftK1 (θ : Th) : ∀ l : List Value, VL θ (l.map liftK1) l
  | [] => by simp [VL]
  | v :: l => by simp only [List.map_cons, VL]; exact ⟨V_liftK1 θ v, VL_liftK1 θ l⟩
theorem V_liftK (θ : Th) (v : Value) : V θ (liftK v) v := by
  unfold liftK; split
  · rename_i cs
    simp only [V]
    exact ⟨cs.toList, by simp, VL_liftK1 θ _⟩
  · exact V_liftK1 θ _

def get (env : List (Nat × SV)) : Operand → Option SV
  | .tmp t => efind env t
  | .const v => some (liftK v)
  | .func f => some (.f f 0 [])
  | .global n => some (.g n)

theorem V_get {K : Ctx} {θ : Th} {env : List (Nat × SV)} {a : Act} (h : SatE K θ env a) (x : Operand) (s : SV) (hx : get env x = some s) : V θ s (a.eval x) := by
  cases x with
  | tmp t => exact h.eval hx
  | const v => simp [get] at hx; subst hx; exact V_liftK θ v
  | func f => simp [get] at hx; subst hx; simp only [V]; exact ⟨[], rfl, by simp [VL]⟩
  | global n => simp [get] at hx; subst hx; simp only [V]; rfl

/-! Scalars -/
def scal : SV → Option Value
  | .b t => some (.bool t)
  | .c v => some v
  | _ => none

theorem V_scal {θ : Th} {s : SV} {v u : Value} (h : scal s = some u) (hv : V θ s v) : v = u := by
  cases s <;> simp [scal] at h
  · subst h; simpa [V] using hv
  · subst h; simpa [V] using hv

def shlI (k : IntKind) (a b : Int) : Int := k.wrap (a * 2 ^ (min b.toNat k.bits))
def shrI (k : IntKind) (a b : Int) : Int := a.fdiv (2 ^ (min b.toNat k.bits))

/-- An operator on scalars: what must hold, and what comes out. -/
def binV (P : Program) (op : BinOp) (T : Nat) : Value → Value → Option (Prop × Value)
  | .int k a, .int k' b =>
    match op with
    | .shl => some (0 ≤ b, .int k (shlI k a b))
    | .shr => some (0 ≤ b, .int k (shrI k a b))
    | _ => if k = k' then
      match op with
      | .add => some (True, .int k (k.wrap (a + b)))
      | .sub => some (True, .int k (k.wrap (a - b)))
      | .mul => some (True, .int k (k.wrap (a * b)))
      | .quo => some (b ≠ 0, .int k (k.wrap (a.tdiv b)))
      | .rem => some (b ≠ 0, .int k (a.tmod b))
      | .and => some (True, .int k (bits .and k a b))
      | .or => some (True, .int k (bits .or k a b))
      | .xor => some (True, .int k (bits .xor k a b))
      | .andNot => some (True, .int k (bits .andNot k a b))
      | .eql => some (True, .bool (decide (a = b)))
      | .neq => some (True, .bool (!decide (a = b)))
      | .lss => some (True, .bool (decide (a < b)))
      | .leq => some (True, .bool (decide (a ≤ b)))
      | .gtr => some (True, .bool (decide (b < a)))
      | .geq => some (True, .bool (decide (b ≤ a)))
      | _ => none
      else none
  | .bool a, .bool b =>
    match op, P.underlying T with
    | .eql, some .bool => some (True, .bool (a == b))
    | .neq, some .bool => some (True, .bool (!(a == b)))
    | _, _ => none
  | .string a, .string b =>
    match op with
    | .add => some (((a.size + b.size : Nat) : Int) ≤ 9223372036854775807, .string (a ++ b))
    | .eql => some (True, .bool (decide (a.data.toList = b.data.toList)))
    | .neq => some (True, .bool (!decide (a.data.toList = b.data.toList)))
    | .lss => some (True, .bool (Op.bytesLess a.data.toList b.data.toList))
    | .gtr => some (True, .bool (!(Op.bytesLess a.data.toList b.data.toList || decide (a.data.toList = b.data.toList))))
    | .leq => some (True, .bool (Op.bytesLess a.data.toList b.data.toList || decide (a.data.toList = b.data.toList)))
    | .geq => some (True, .bool (!Op.bytesLess a.data.toList b.data.toList))
    | _ => none
  | _, _ => none

theorem binV_sound {P : Program} {op : BinOp} {T : Nat} {x y : Value} {c : Prop} {v : Value} (h : binV P op T x y = some (c, v)) (hc : c) (ox oy : Operand) (w : World) :
    (do eqGuard op T ox oy x y; binOp op T x y : Sem Value).run P w = .ok v w := by
  cases x <;> cases y <;> simp only [binV] at h <;> try (cases h; done)
  case int.int k a k' b =>
    cases op <;> simp only at h <;> (try split at h) <;> cases h <;> (try subst_vars) <;>
      simp [eqGuard, binOp, Op.intArith, Op.intDiv, intBits_and, intBits_or, intBits_xor, intBits_andNot, Op.intCmp, Op.shift, shlI, shrI, *]
    all_goals first
      | (intro hb; omega)
      | (rw [Bool.eq_iff_iff]; simp)
  case bool.bool a b =>
    split at h <;> cases h <;> rename_i hu
    · simp [eqGuard, run_eql_bool w T a b hu]
    · simp [eqGuard, run_neq_bool w T a b hu]
  case string.string a b =>
    cases op <;> simp only at h <;> cases h <;>
      simp [eqGuard, binOp, Op.stringOp, ByteArray.toList_eq]
    all_goals first
      | omega
      | (rw [Bool.eq_iff_iff]; simp)

/-! Addresses, loads -/
theorem add_mk (b o n : Nat) : Addr.add ⟨b, o, none⟩ n = ⟨b, o + n, none⟩ := Addr.add_lit b o n

/-- A variable of type T, in cells l from o on. -/
def ldBlk (P : Program) (T : Nat) (l : List SV) (o : Nat) : Option SV :=
  match kindT P T with
  | some (true, s) => cond (Nat.ble (o + s) l.length) (some (.agg ((l.drop o).take s))) none
  | some (false, _) => l[o]?
  | none => none

theorem run_loadVar_agg {P : Program} {T s : Nat} (h : kindT P T = some (true, s)) (w : World) (b o : Nat) (vs : List Value) (hl : vs.length = s)
    (hc : ∀ j v, vs[j]? = some v → w.cell? ⟨b, o + j, none⟩ = some v) : (loadVar T ⟨b, o, none⟩).run P w = .ok (.agg vs.toArray) w := by
  obtain ⟨h1, h2⟩ := run_kind h w
  have h3 := run_loadCells_list (P := P) w ⟨b, o, none⟩ vs (fun j v hv => by rw [add_mk]; exact hc j v hv)
  rw [hl] at h3
  simp [loadVar, h1, h2, h3]

theorem run_loadVar_one {P : Program} {T s : Nat} (h : kindT P T = some (false, s)) (w : World) (b o : Nat) (v : Value)
    (hc : w.cell? ⟨b, o, none⟩ = some v) : (loadVar T ⟨b, o, none⟩).run P w = .ok v w := by
  obtain ⟨h1, h2⟩ := run_kind h w
  simp [loadVar, h1, hc]

theorem cell_of_cells {w : World} {b T : Nat} {cs : List Value} {fz : Nat × Nat} (h : w.heap[b]? = some (.cells cs.toArray T fz)) (o : Nat) : w.cell? ⟨b, o, none⟩ = cs[o]? := by
  simp [World.cell?, h]

/-- Of n things, one behind the other. -/
def instN (g : Nat → List (Nat × R) → Nat → (SV → List (Nat × R) → Nat → Prop) → Prop) : Nat → Nat → List (Nat × R) → Nat → (List SV → List (Nat × R) → Nat → Prop) → Prop
  | 0, _, h, nx, k => k [] h nx
  | n + 1, i, h, nx, k => g i h nx fun s h' nx' => instN g n (i + 1) h' nx' fun ss h'' nx'' => k (s :: ss) h'' nx''

/-- A cell's data, as a symbolic value: what lies in memory gets a name of its own. -/
def instD : D → List (Nat × R) → Nat → (SV → List (Nat × R) → Nat → Prop) → Prop
  | .v x, h, nx, k => k (.c x) h nx
  | .ints kk xs, h, nx, k => k (.a nx) ((nx, .ro (.ints kk xs)) :: h) (nx + 1)
  | .recs es n f, h, nx, k => k (.a nx) ((nx, .ro (.recs es n f)) :: h) (nx + 1)
  | .ptr T n f, h, nx, k => instN (fun i => instD (f i)) n 0 h nx fun ss h' nx' => k (.p nx' 0) ((nx', .rblk T ss) :: h') (nx' + 1)
  | .fn g m n f, h, nx, k => instN (fun i => instD (f i)) n 0 h nx fun ss h' nx' => k (.f g m ss) h' nx'
  | .map ks vs, h, nx, k => k (.m nx) ((nx, .rmap ks vs) :: h) (nx + 1)

def instL : List D → List (Nat × R) → Nat → (List SV → List (Nat × R) → Nat → Prop) → Prop
  | [], h, nx, k => k [] h nx
  | d :: l, h, nx, k => instD d h nx fun s h' nx' => instL l h' nx' fun ss h'' nx'' => k (s :: ss) h'' nx''

/-- What a step that only reads may do to the state: names are added; arrays may be frozen. -/
structure Grows (K : Ctx) (θ θ' : Th) (nx nx' : Nat) (h' : List (Nat × R)) (w : World) : Prop where
  sat : SatH K θ' h' nx' w
  ext : θ.ext θ'
  le : nx ≤ nx'
  agree : ∀ n, n < nx → θ' n = θ n

theorem Grows.refl {K : Ctx} {θ : Th} {h : List (Nat × R)} {nx : Nat} {w : World} (hs : SatH K θ h nx w) : Grows K θ θ nx nx h w := ⟨hs, Th.ext_refl _, Nat.le_refl _, fun _ _ => rfl⟩

theorem Grows.trans {K : Ctx} {θ θ' θ'' : Th} {h' h'' : List (Nat × R)} {nx nx' nx'' : Nat} {w : World} (a : Grows K θ θ' nx nx' h' w) (b : Grows K θ' θ'' nx' nx'' h'' w) : Grows K θ θ'' nx nx'' h'' w :=
  ⟨b.sat, Th.ext_trans a.ext b.ext, Nat.le_trans a.le b.le, fun n hn => (b.agree n (Nat.lt_of_lt_of_le hn a.le)).trans (a.agree n hn)⟩

theorem AddsX.grows {K : Ctx} {X : Nat → Prop} {θ θ' : Th} {h h' : List (Nat × R)} {nx nx' : Nat} {w : World} (a : AddsX K X θ θ' h h' nx nx' w) : Grows K θ θ' nx nx' h' w := ⟨a.sat.toH, a.ext, a.le, a.agree⟩
theorem AddsX.free {K : Ctx} {X : Nat → Prop} {θ θ' : Th} {h h' : List (Nat × R)} {nx nx' : Nat} {w : World} (a : AddsX K X θ θ' h h' nx nx' w) (b : Nat) (hb : Free K θ h b) : Free K θ' h' b :=
  ⟨fun n hn => hb.1 n (a.own n b hn), hb.2⟩

theorem Grows.add_ro {K : Ctx} {θ : Th} {h : List (Nat × R)} {nx : Nat} {w : World} (hs : SatH K θ h nx w) {d : D} {L : Loc}
    (hd : d.at (Free K θ h) w L) (hw : L.wf) (hi : L.inn (Free K θ h) w) : Grows K θ (θ.add nx L) nx (nx + 1) ((nx, .ro d) :: h) w :=
  (hs.toX.add_ref (r := .ro d) (fun ho => ho) ⟨hd, hw, hi⟩).grows

section
variable {K : Ctx} {X : Nat → Prop} {w : World}

theorem instN_sound {g : Nat → List (Nat × R) → Nat → (SV → List (Nat × R) → Nat → Prop) → Prop} {p : Nat → Value → Prop}
    (hg : ∀ i {θ : Th} {h : List (Nat × R)} {nx : Nat} {c : Value} {k : SV → List (Nat × R) → Nat → Prop}, SatX K X θ h nx w → p i c → g i h nx k →
      ∃ s h' nx' θ', k s h' nx' ∧ AddsX K X θ θ' h h' nx nx' w ∧ V θ' s c) :
    ∀ (n i : Nat) {cs : List Value} {θ : Th} {h : List (Nat × R)} {nx : Nat} {k : List SV → List (Nat × R) → Nat → Prop}, SatX K X θ h nx w → cs.length = n → (∀ j, j < n → ∃ c, cs[j]? = some c ∧ p (i + j) c) → instN g n i h nx k →
      ∃ ss h' nx' θ', k ss h' nx' ∧ AddsX K X θ θ' h h' nx nx' w ∧ VL θ' ss cs
  | 0, i, cs, θ, h, nx, k, hs, hl, _, hk => by
    have : cs = [] := List.eq_nil_of_length_eq_zero hl
    subst this
    exact ⟨[], h, nx, θ, hk, .refl hs, by simp [VL]⟩
  | n + 1, i, cs, θ, h, nx, k, hs, hl, hp, hk => by
    cases cs with
    | nil => simp at hl
    | cons c cs =>
      obtain ⟨c', e1, e2⟩ := hp 0 (by omega)
      simp only [List.getElem?_cons_zero, Option.some.injEq] at e1
      subst e1
      obtain ⟨s, h1, nx1, θ1, a1, a2, a3⟩ := hg i hs e2 hk
      obtain ⟨ss, h2, nx2, θ2, b1, b2, b3⟩ := instN_sound hg n (i + 1) a2.sat (by simpa using hl) (fun j hj => by
        obtain ⟨c', e3, e4⟩ := hp (j + 1) (by omega)
        exact ⟨c', by simpa using e3, by rw [show i + 1 + j = i + (j + 1) by omega]; exact e4⟩) a1
      exact ⟨_, h2, nx2, θ2, b1, a2.trans b2, by simp only [VL]; exact ⟨V_mono b2.ext _ _ a3, b3⟩⟩

theorem instD_soundX : ∀ (d : D) {θ : Th} {h : List (Nat × R)} {nx : Nat} {c : Value} {k : SV → List (Nat × R) → Nat → Prop}, SatX K X θ h nx w → d.holds X w c → instD d h nx k →
    ∃ s h' nx' θ', k s h' nx' ∧ AddsX K X θ θ' h h' nx nx' w ∧ V θ' s c := by
  intro d
  induction d with
  | v x => intro θ h nx c k hs hd hk; exact ⟨_, _, _, θ, hk, .refl hs, by simp only [V]; exact hd.1⟩
  | ints kk xs =>
    intro θ h nx c k hs hd hk
    obtain ⟨L, rfl, h1, h2, h3⟩ := D.holds_ints.1 hd
    exact ⟨_, _, _, θ.add nx L, hk, hs.add_ref (r := .ro (.ints kk xs)) (fun ho => ho) ⟨h3, h1, h2⟩, by simp only [V]; exact ⟨L, Th.add_self _ _ _, rfl⟩⟩
  | recs es n f ih =>
    intro θ h nx c k hs hd hk
    obtain ⟨L, rfl, h1, h2, h3⟩ := D.holds_recs.1 hd
    exact ⟨_, _, _, θ.add nx L, hk, hs.add_ref (r := .ro (.recs es n f)) (fun ho => ho) ⟨h3, h1, h2⟩, by simp only [V]; exact ⟨L, Th.add_self _ _ _, rfl⟩⟩
  | ptr T n f ih =>
    intro θ h nx c k hs hd hk
    obtain ⟨b, us, rfl, h2, h3, h4, h5⟩ := hd
    obtain ⟨ss, h1, nx1, θ1, a1, a2, a3⟩ := instN_sound (p := fun i c => (f i).holds X w c) (fun i => ih i) n 0 hs h4 (fun j hj => by rw [Nat.zero_add]; exact h5 j hj) hk
    have hadd := a2.sat.add_ref (r := .rblk T ss) (L := ⟨some ⟨b, 0, none⟩, 0, 0⟩) (fun ho => ho) ⟨us, rfl, h2, h3, a3⟩
    refine ⟨_, _, _, _, a1, a2.trans hadd, ?_⟩
    simp only [V]
    exact ⟨_, Th.add_self _ _ _, rfl⟩
  | fn g m n f ih =>
    intro θ h nx c k hs hd hk
    obtain ⟨us, rfl, h4, h5⟩ := hd
    obtain ⟨ss, h1, nx1, θ1, a1, a2, a3⟩ := instN_sound (p := fun i c => (f i).holds X w c) (fun i => ih i) n 0 hs h4 (fun j hj => by rw [Nat.zero_add]; exact h5 j hj) hk
    exact ⟨_, _, _, _, a1, a2, by simp only [V]; exact ⟨us, rfl, a3⟩⟩
  | map ks vs =>
    intro θ h nx c k hs hd hk
    obtain ⟨b, es, clock, rfl, h2, h3, h4⟩ := hd
    refine ⟨_, _, _, _, hk, hs.add_ref (r := .rmap ks vs) (L := ⟨some ⟨b, 0, none⟩, 0, 0⟩) (fun ho => ho) ⟨rfl, h2, es, clock, h3, h4⟩, ?_⟩
    simp only [V]
    exact ⟨_, Th.add_self _ _ _, rfl⟩
end

def DL.holds (X : Nat → Prop) (w : World) : List D → List Value → Prop
  | [], [] => True
  | d :: l, c :: cs => d.holds X w c ∧ DL.holds X w l cs
  | _, _ => False

theorem DL.holds_mono {X X' : Nat → Prop} {w w' : World} (h : Keeps X X' w w') : ∀ {l : List D} {cs : List Value}, DL.holds X w l cs → DL.holds X' w' l cs
  | [], [], _ => trivial
  | [], _ :: _, h => h.elim
  | _ :: _, [], h => h.elim
  | d :: _, c :: _, hh => ⟨D.holds_mono h d c hh.1, DL.holds_mono h hh.2⟩

theorem instL_soundX {K : Ctx} {X : Nat → Prop} {w : World} : ∀ {l : List D} {θ : Th} {h : List (Nat × R)} {nx : Nat} {cs : List Value}, SatX K X θ h nx w → DL.holds X w l cs →
    ∀ {k : List SV → List (Nat × R) → Nat → Prop}, instL l h nx k → ∃ s h' nx' θ', k s h' nx' ∧ AddsX K X θ θ' h h' nx nx' w ∧ VL θ' s cs
  | [], θ, h, nx, [], hs, _, k, hk => ⟨_, _, _, θ, hk, .refl hs, by simp [VL]⟩
  | [], _, _, _, _ :: _, _, h, _, _ => h.elim
  | _ :: _, _, _, _, [], _, h, _, _ => h.elim
  | d :: l, θ, h, nx, c :: cs, hs, hd, k, hk => by
    obtain ⟨s, h1, nx1, θ1, hk1, g1, v1⟩ := instD_soundX d hs hd.1 hk
    obtain ⟨ss, h2, nx2, θ2, hk2, g2, v2⟩ := instL_soundX g1.sat hd.2 hk1
    exact ⟨_, _, _, θ2, hk2, g1.trans g2, by simp only [VL]; exact ⟨V_mono g2.ext _ _ v1, v2⟩⟩

theorem instD_sound' {K : Ctx} {θ : Th} {h : List (Nat × R)} {nx : Nat} {w : World} (hs : SatH K θ h nx w) {d : D} {c : Value} (hd : d.holds (Free K θ h) w c)
    {k : SV → List (Nat × R) → Nat → Prop} (hk : instD d h nx k) : ∃ s h' nx' θ', k s h' nx' ∧ Grows K θ θ' nx nx' h' w ∧ V θ' s c ∧ (∀ b, Free K θ h b → Free K θ' h' b) := by
  obtain ⟨s, h', nx', θ', a1, a2, a3⟩ := instD_soundX d hs.toX hd hk
  exact ⟨s, h', nx', θ', a1, a2.grows, a3, a2.free⟩

theorem instL_sound {K : Ctx} {w : World} {l : List D} {θ : Th} {h : List (Nat × R)} {nx : Nat} {cs : List Value} (hs : SatH K θ h nx w) (hd : DL.holds (Free K θ h) w l cs)
    {k : List SV → List (Nat × R) → Nat → Prop} (hk : instL l h nx k) : ∃ s h' nx' θ', k s h' nx' ∧ Grows K θ θ' nx nx' h' w ∧ VL θ' s cs ∧ (∀ b, Free K θ h b → Free K θ' h' b) := by
  obtain ⟨s, h', nx', θ', a1, a2, a3⟩ := instL_soundX hs.toX hd hk
  exact ⟨s, h', nx', θ', a1, a2.grows, a3, a2.free⟩

/-- The array behind a name. -/
def arrOf (h : List (Nat × R)) (n : Nat) : Option D :=
  match hfind h n with
  | some (.ro d) => some d
  | some (.own _ d) => some d
  | _ => none

theorem arrOf_sound {K : Ctx} {θ : Th} {h : List (Nat × R)} {nx : Nat} {w : World} (hs : SatH K θ h nx w) {n : Nat} {d : D} (ha : arrOf h n = some d) :
    ∃ L, θ n = some L ∧ d.at (Free K θ h) w L ∧ L.wf := by
  unfold arrOf at ha
  split at ha <;> cases ha
  · rename_i hf
    obtain ⟨L, h1, h2, h3, _⟩ := hs.res n _ hf
    exact ⟨L, h1, h2, h3⟩
  · rename_i hf
    obtain ⟨L, h1, h2, h3, _⟩ := hs.res n _ hf
    exact ⟨L, h1, h2, h3⟩

/-- The s cells from o on of element i. -/
def fieldsD (f : Nat → Nat → D) (i o : Nat) : Nat → List D
  | 0 => []
  | s + 1 => f i o :: fieldsD f i (o + 1) s

def ldArr (P : Program) (T : Nat) (d : D) (es i o : Nat) (h : List (Nat × R)) (nx : Nat) (k : SV → List (Nat × R) → Nat → Prop) : Prop :=
  match kindT P T, d with
  | some (false, _), .ints kk xs => cond (Nat.beq es 1 && Nat.beq o 0) (k (.c (.int kk (xs.getD i 0))) h nx) False
  | some (false, _), .recs es' _ f => cond (Nat.beq es es' && Nat.blt o es) (instD (f i o) h nx k) False
  | some (true, s), .recs es' _ f => cond (Nat.beq es es' && Nat.ble (o + s) es && Nat.blt 0 es) (instL (fieldsD f i o s) h nx fun l => k (.agg l)) False
  | some (true, 1), .ints kk xs => cond (Nat.beq es 1 && Nat.beq o 0) (k (.agg [.c (.int kk (xs.getD i 0))]) h nx) False
  | _, _ => False

theorem nbeq {a b : Nat} (h : Nat.beq a b = true) : a = b := Nat.eq_of_beq_eq_true h
theorem nble {a b : Nat} (h : Nat.ble a b = true) : a ≤ b := Nat.le_of_ble_eq_true h
theorem nblt {a b : Nat} (h : Nat.blt a b = true) : a < b := Nat.le_of_ble_eq_true h
theorem cond_false {c : Bool} {p : Prop} (h : cond c p False) : c = true ∧ p := by
  cases c
  · exact h.elim
  · exact ⟨rfl, h⟩

theorem fieldsD_holds {X : Nat → Prop} {w : World} {b base : Nat} {f : Nat → Nat → D} {i es : Nat}
    (hc : ∀ j, j < es → ∃ c, w.cell? ⟨b, base + j, none⟩ = some c ∧ (f i j).holds X w c) : ∀ (s o : Nat), o + s ≤ es →
      ∃ cs : List Value, cs.length = s ∧ (∀ j v, cs[j]? = some v → w.cell? ⟨b, base + o + j, none⟩ = some v) ∧ DL.holds X w (fieldsD f i o s) cs
  | 0, _, _ => ⟨[], rfl, fun j v h => by simp at h, trivial⟩
  | s + 1, o, h => by
    obtain ⟨c, h1, h2⟩ := hc o (by omega)
    obtain ⟨cs, h3, h4, h5⟩ := fieldsD_holds hc s (o + 1) (by omega)
    refine ⟨c :: cs, by simp [h3], fun j v hv => ?_, h2, h5⟩
    cases j with
    | zero => simp at hv; subst hv; simpa using h1
    | succ j => simp at hv; rw [show base + o + (j + 1) = base + (o + 1) + j by omega]; exact h4 j v hv

theorem ldArr_sound {P : Program} {K : Ctx} {θ : Th} {h : List (Nat × R)} {nx : Nat} {w : World} (hs : SatH K θ h nx w) {n T : Nat} {d : D} {es i o : Nat}
    (ha : arrOf h n = some d) {u : Value} (hu : V θ (.e n es i o) u) {k : SV → List (Nat × R) → Nat → Prop} (hk : ldArr P T d es i o h nx k) :
    ∃ s h' nx' θ' v, k s h' nx' ∧ Grows K θ θ' nx nx' h' w ∧ V θ' s v ∧ ∃ b o', u = .pointer (some ⟨b, o', none⟩) ∧ b < w.heap.size ∧ ∀ w' : World, w'.heap[b]? = w.heap[b]? → (loadVar T ⟨b, o', none⟩).run P w' = .ok v w' := by
  obtain ⟨L, hL, hd, _⟩ := arrOf_sound hs ha
  simp only [V] at hu
  obtain ⟨L', hL', hi, rfl⟩ := hu
  obtain rfl := Option.some.inj (hL.symm.trans hL')
  unfold ldArr at hk
  split at hk
  · rename_i kk xs hT
    obtain ⟨hc, hk1⟩ := cond_false hk
    clear hk
    simp only [Bool.and_eq_true] at hc
    obtain ⟨hc1, hc2⟩ := hc
    obtain rfl := nbeq hc1
    obtain rfl := nbeq hc2
    obtain ⟨h1, h2, h3⟩ := hd
    have hlt : i < xs.length := by omega
    have h4 := h3 i _ (List.getElem?_eq_getElem hlt)
    refine ⟨_, _, _, θ, .int kk (xs.getD i 0), hk1, .refl hs, by simp [V], _, _, rfl, lt_of_cell h4, fun w' hw' => run_loadVar_one hT w' _ _ _ ?_⟩
    rw [cell_eq hw', show L.o + (i * 1 + 0) = L.o + i by omega, h4]
    simp [List.getD, List.getElem?_eq_getElem hlt]
  · rename_i es' n' f hT
    obtain ⟨hc, hk1⟩ := cond_false hk
    clear hk
    simp only [Bool.and_eq_true] at hc
    obtain ⟨hc1, hc2⟩ := hc
    obtain rfl := nbeq hc1
    have ho := nblt hc2
    obtain ⟨h1, h2, h3⟩ := hd
    obtain ⟨c, h4, h5⟩ := h3 i (by omega) o ho
    obtain ⟨s, h', nx', θ', a1, a2, a3, _⟩ := instD_sound' hs h5 hk1
    exact ⟨s, h', nx', θ', c, a1, a2, a3, _, _, rfl, lt_of_cell h4, fun w' hw' => run_loadVar_one hT w' _ _ _ (by rw [cell_eq hw']; exact h4)⟩
  · rename_i s es' n' f hT
    obtain ⟨hc, hk1⟩ := cond_false hk
    clear hk
    simp only [Bool.and_eq_true] at hc
    obtain ⟨⟨hc1, hc2⟩, hc3⟩ := hc
    obtain rfl := nbeq hc1
    have ho := nble hc2
    have he := nblt hc3
    obtain ⟨h1, h2, h3⟩ := hd
    obtain ⟨cs, c1, c2, c3⟩ := fieldsD_holds (X := Free K θ h) (w := w) (b := L.b) (base := L.o + i * es) (f := f) (i := i) (es := es)
      (fun j hj => by rw [show L.o + i * es + j = L.o + (i * es + j) by omega]; exact h3 i (by omega) j hj) s o ho
    obtain ⟨ss, h', nx', θ', a1, a2, a3, _⟩ := instL_sound hs c3 hk1
    refine ⟨.agg ss, h', nx', θ', .agg cs.toArray, a1, a2, by simp only [V]; exact ⟨cs, rfl, a3⟩, _, _, rfl, ?_, fun w' hw' => run_loadVar_agg hT w' _ _ cs c1 fun j v hv => ?_⟩
    · obtain ⟨c, h4, _⟩ := h3 i (by omega) 0 he
      exact lt_of_cell h4
    · rw [cell_eq hw', show L.o + (i * es + o) + j = L.o + i * es + o + j by omega]; exact c2 j v hv
  · rename_i kk xs hT
    obtain ⟨hc, hk1⟩ := cond_false hk
    clear hk
    simp only [Bool.and_eq_true] at hc
    obtain ⟨hc1, hc2⟩ := hc
    obtain rfl := nbeq hc1
    obtain rfl := nbeq hc2
    obtain ⟨h1, h2, h3⟩ := hd
    have hlt : i < xs.length := by omega
    have h4 := h3 i _ (List.getElem?_eq_getElem hlt)
    refine ⟨_, _, _, θ, .agg #[.int kk (xs.getD i 0)], hk1, .refl hs, by simp only [V]; exact ⟨[.int kk (xs.getD i 0)], rfl, by simp [VL, V]⟩, _, _, rfl, lt_of_cell h4,
      fun w' hw' => run_loadVar_agg hT w' _ _ [.int kk (xs.getD i 0)] rfl fun j v hv => ?_⟩
    cases j with
    | zero =>
      simp at hv; subst hv
      rw [cell_eq hw', show L.o + (i * 1 + 0) + 0 = L.o + i by omega, h4]
      simp [List.getElem?_eq_getElem hlt]
    | succ j => simp at hv
  · exact hk.elim
end Go.Z

/- One operation that only reads: what it yields, symbolically; that it does so in every world that has grown of this one. -/
namespace Go.Z
open Go.RowKit

def fldT (P : Program) (S f : Nat) : Option Nat :=
  match P.underlying S with
  | some (.struct fs) =>
    match fs[f]? with
    | some fl => match kindT P fl.type with
      | some (_, _ + 1) => some fl.offset
      | _ => none
    | none => none
  | _ => none

theorem run_fieldAt {P : Program} {S f off : Nat} (h : fldT P S f = some off) (w : World) (b o : Nat) :
    (Instr.fieldAt S (.pointer (some ⟨b, o, none⟩)) f).run P w = .ok (.pointer (some ⟨b, o + off, none⟩)) w := by
  unfold fldT at h
  split at h <;> try (cases h; done)
  rename_i fs hu
  split at h <;> try (cases h; done)
  rename_i fl hf
  split at h <;> cases h
  rename_i g n hk
  obtain ⟨_, h2⟩ := run_kind hk w
  simp [Instr.fieldAt, run_underlying hu, hf, Instr.sureAddr, fieldPlace, h2, add_mk]

/-- The cells of a value, where each is known to be one. -/
def oneS : SV → Bool
  | .c v => v.oneCell'
  | .b _ | .p .. | .e .. | .a _ | .nil | .f .. | .m _ | .q _ | .sl .. | .g _ | .vw .. => true
  | _ => false

def cellsS : SV → Option (List SV)
  | .agg l => some l
  | s => cond (oneS s) (some [s]) none

theorem oneCell_of {θ : Th} {s : SV} {v : Value} (h : oneS s = true) (hv : V θ s v) : v.oneCell' = true := by
  cases s <;> simp only [oneS] at h <;> simp only [V] at hv <;> try (cases h; done)
  · subst hv; rfl
  · subst hv; exact h
  · obtain ⟨L, _, rfl⟩ := hv; rfl
  · obtain ⟨L, _, _, rfl⟩ := hv; rfl
  · obtain ⟨L, _, rfl⟩ := hv; rfl
  · subst hv; rfl
  · obtain ⟨L, rfl, _⟩ := hv; rfl
  · obtain ⟨L, _, _, rfl⟩ := hv; rfl
  · obtain ⟨L, _, rfl⟩ := hv; rfl
  · obtain ⟨L, _, rfl⟩ := hv; rfl
  · subst hv; rfl
  · obtain ⟨L, _, _, rfl⟩ := hv; rfl

theorem cells_of_one {v : Value} (h : v.oneCell' = true) : v.cells = #[v] := by
  cases v <;> simp [Value.oneCell'] at h <;> rfl

theorem V_cellsS {θ : Th} {s : SV} {l : List SV} {v : Value} (h : cellsS s = some l) (hv : V θ s v) : VL θ l v.cells.toList := by
  cases s with
  | agg l' =>
    simp [cellsS] at h; subst h
    simp only [V] at hv
    obtain ⟨cs, rfl, h2⟩ := hv
    simpa [Value.cells] using h2
  | _ =>
    simp only [cellsS] at h
    cases ho : oneS _ with
    | false => rw [ho] at h; cases h
    | true =>
      rw [ho] at h; cases h
      rw [cells_of_one (oneCell_of ho hv)]
      exact VL_cons.2 ⟨hv, VL_nil⟩

def bstr (xs : List Int) : ByteArray := ⟨(xs.map fun n => UInt8.ofNat n.toNat).toArray⟩

theorem foldl_push_bytes : ∀ (xs : List Int) (s : ByteArray), xs.foldl (fun r n => r.push (UInt8.ofNat n.toNat)) s = ⟨s.data ++ (xs.map fun n => UInt8.ofNat n.toNat).toArray⟩
  | [], s => by simp
  | x :: xs, s => by
    rw [List.foldl_cons, foldl_push_bytes xs]
    simp [ByteArray.push]

theorem loadCells_ints {P : Program} {w : World} {L : Loc} {k : IntKind} {xs : List Int} (hw : L.wf) (hlen : L.len = xs.length) (hcap : L.len ≤ L.cap)
    (hc : ∀ i z, xs[i]? = some z → w.cell? ⟨L.b, L.o + i, none⟩ = some (.int k z)) {a : Addr} (ha : L.a = some a) :
    (loadCells a L.len).run P w = .ok (xs.map (Value.int k)).toArray w := by
  rcases hw with h0 | h0
  · have : L.len = 0 := by omega
    have hx : xs = [] := List.eq_nil_of_length_eq_zero (by omega)
    subst hx
    rw [this]
    rfl
  · rw [h0] at ha; cases ha
    have := run_loadCells_list (P := P) w ⟨L.b, L.o, none⟩ (xs.map (Value.int k)) (fun j v hv => by
      rw [add_mk]
      rw [List.getElem?_map] at hv
      cases hx : xs[j]? with
      | none => rw [hx] at hv; simp at hv
      | some z => rw [hx] at hv; simp at hv; subst hv; exact hc j z hx)
    rw [List.length_map, ← hlen] at this
    exact this

theorem run_bytes_string {P : Program} {w : World} {L : Loc} {xs : List Int} (hw : L.wf) (hlen : L.len = xs.length) (hcap : L.len ≤ L.cap)
    (hc : ∀ i z, xs[i]? = some z → w.cell? ⟨L.b, L.o + i, none⟩ = some (.int .u8 z)) :
    (Conv.bytesToString L.val).run P w = .ok (.string (bstr xs)) w := by
  unfold Loc.val
  cases ha : L.a with
  | none =>
    rcases hw with h0 | h0
    · have hx : xs = [] := List.eq_nil_of_length_eq_zero (by omega)
      subst hx
      rfl
    · rw [ha] at h0; cases h0
  | some a =>
    rw [run_bytesToString w a L.len L.cap xs (loadCells_ints hw hlen hcap hc ha), foldl_push_bytes]
    simp [bstr, ByteArray.empty, ByteArray.emptyWithCapacity]
    rfl

/-! Parts of an array -/
def D.sub (l m : Nat) : D → D
  | .ints k xs => .ints k ((xs.drop l).take m)
  | .recs es _ f => .recs es m (fun i j => f (l + i) j)
  | d => d
def D.takeD (m : Nat) : D → D
  | .ints k xs => .ints k (xs.take m)
  | .recs es _ f => .recs es m f
  | d => d
def D.dropD (l : Nat) : D → D
  | .ints k xs => .ints k (xs.drop l)
  | .recs es n f => .recs es (n - l) (fun i j => f (l + i) j)
  | d => d

def Loc.sub (L : Loc) (l h m es : Nat) : Loc := { a := if m = l then L.a else L.a.map (·.add (l * es)), len := h - l, cap := m - l }

theorem Loc.sub_ne {L : Loc} (hw : L.wf) {l h m es : Nat} (hm : m ≤ L.cap) (hl : l < m) : (L.sub l h m es).a = some ⟨L.b, L.o + l * es, none⟩ ∧ (L.sub l h m es).b = L.b ∧ (L.sub l h m es).o = L.o + l * es := by
  have h0 : L.a = some ⟨L.b, L.o, none⟩ := hw.resolve_left (by omega)
  have h1 : (L.sub l h m es).a = some ⟨L.b, L.o + l * es, none⟩ := by
    simp only [Loc.sub]
    rw [if_neg (by omega), h0]
    simp [add_mk]
  refine ⟨h1, ?_, ?_⟩
  · show (match (L.sub l h m es).a with | some a => a.block | none => 0) = _; rw [h1]
  · show (match (L.sub l h m es).a with | some a => a.off | none => 0) = _; rw [h1]

theorem Loc.sub_wf {L : Loc} (hw : L.wf) {l h m es : Nat} (hm : m ≤ L.cap) : (L.sub l h m es).wf := by
  by_cases e : m ≤ l
  · exact .inl (by simp [Loc.sub]; omega)
  · obtain ⟨h1, h2, h3⟩ := Loc.sub_ne (h := h) (es := es) hw hm (show l < m by omega)
    exact .inr (by rw [h1, h2, h3])

theorem Loc.sub_inn {L : Loc} {X : Nat → Prop} {w : World} (hw : L.wf) (hi : L.inn X w) {l h m es : Nat} (hm : m ≤ L.cap) (hlm : h ≤ m) (hh : h ≤ L.len) : (L.sub l h m es).inn X w := fun hne => by
  have hne' : h - l ≠ 0 := hne
  obtain ⟨_, h2, _⟩ := Loc.sub_ne (h := h) (es := es) hw hm (show l < m by omega)
  rw [h2]
  exact hi (by omega)

theorem D.sub_at {X : Nat → Prop} {w : World} {L : Loc} {d : D} (hw : L.wf) (hd : d.at X w L) {l h m es : Nat} (hes : es = d.es) (hm : m ≤ L.cap) (hlh : l ≤ h) (hlm : h ≤ m) (hh : h ≤ L.len) :
    (d.sub l (h - l)).at X w (L.sub l h m es) := by
  cases d with
  | v x => exact hd.elim
  | ptr _ _ _ => exact hd.elim
  | fn _ _ _ _ => exact hd.elim
  | map _ _ => exact hd.elim
  | ints k xs =>
    obtain ⟨h1, h2, h3⟩ := hd
    refine ⟨by simp [Loc.sub]; omega, by simp [Loc.sub]; omega, fun i z hz => ?_⟩
    rw [List.getElem?_take] at hz
    split at hz <;> try (cases hz; done)
    rename_i hi
    rw [List.getElem?_drop] at hz
    obtain ⟨_, e2, e3⟩ := Loc.sub_ne (h := h) (es := es) hw hm (show l < m by omega)
    have := h3 _ _ hz
    have hes' : es = 1 := hes
    subst hes'
    rw [e2, e3, show L.o + l * 1 + i = L.o + (l + i) by omega]
    exact this
  | recs es' n f =>
    obtain ⟨h1, h2, h3⟩ := hd
    refine ⟨by simp [Loc.sub], by simp [Loc.sub]; omega, fun i hi j hj => ?_⟩
    obtain ⟨_, e2, e3⟩ := Loc.sub_ne (h := h) (es := es) hw hm (show l < m by omega)
    obtain ⟨c, h4, h5⟩ := h3 (l + i) (by omega) j hj
    have hes' : es = es' := hes
    subst hes'
    refine ⟨c, ?_, h5⟩
    rw [e2, e3, show L.o + l * es + (i * es + j) = L.o + ((l + i) * es + j) by rw [Nat.add_mul]; omega]
    exact h4

theorem D.takeD_at {X : Nat → Prop} {w : World} {L : Loc} {d : D} {m : Nat} (h : (d.sub 0 m).at X w L) : (d.takeD m).at X w L := by
  cases d with
  | v x => exact h
  | ptr _ _ _ => exact h
  | fn _ _ _ _ => exact h
  | map _ _ => exact h
  | ints k xs => simpa [D.sub, D.takeD, D.at] using h
  | recs es n f => simpa [D.sub, D.takeD, D.at] using h

theorem D.dropD_at {X : Nat → Prop} {w : World} {L : Loc} {d : D} {l m : Nat} (hm : m = d.len - l) (h : (d.sub l m).at X w L) : (d.dropD l).at X w L := by
  cases d with
  | v x => exact h
  | ptr _ _ _ => exact h
  | fn _ _ _ _ => exact h
  | map _ _ => exact h
  | ints k xs =>
    subst hm
    have : (List.take ((D.ints k xs).len - l) (List.drop l xs)) = List.drop l xs := List.take_of_length_le (by simp [D.len])
    simp only [D.sub, this] at h
    exact h
  | recs es n f => subst hm; simpa [D.sub, D.dropD, D.at, D.len] using h

theorem sub_val {L : Loc} {l h m es : Nat} : (L.sub l h m es).val = .slice (if m = l then L.a else L.a.map (·.add (l * es))) (h - l) (m - l) := rfl

theorem D.at_len {X : Nat → Prop} {w : World} {L : Loc} {d : D} (h : d.at X w L) : L.len = d.len ∧ L.len ≤ L.cap := by
  cases d with
  | v x => exact h.elim
  | ptr _ _ _ => exact h.elim
  | fn _ _ _ _ => exact h.elim
  | map _ _ => exact h.elim
  | ints k xs => exact ⟨h.1, h.2.1⟩
  | recs es n f => exact ⟨h.1, h.2.1⟩
end Go.Z

/- Maps of scalars, as two columns: finding, setting, deleting. -/
namespace Go.Z
open Go.RowKit

/-- The first place of a key. -/
def midx {κ : Type} [DecidableEq κ] : List κ → κ → Option Nat
  | [], _ => none
  | k :: ks, x => if x = k then some 0 else match midx ks x with
    | some j => some (j + 1)
    | none => none
def oget {ν : Type} (m : List ν) (o : Option Nat) : Option ν := match o with
  | some j => m[j]?
  | none => none
/-- A value set at its place, or behind all. -/
def mputV {ν : Type} (m : List ν) (o : Option Nat) (v : ν) : List ν := match o with
  | some j => m.set j v
  | none => m ++ [v]
def mputK {κ : Type} (l : List κ) (o : Option Nat) (x : κ) : List κ := match o with
  | some _ => l
  | none => l ++ [x]
def mdel {ν : Type} (m : List ν) (o : Option Nat) : List ν := match o with
  | some j => m.eraseIdx j
  | none => m

theorem midx_lt {κ : Type} [DecidableEq κ] : ∀ {l : List κ} {x : κ} {j : Nat}, midx l x = some j → l[j]? = some x
  | [], _, _, h => by simp [midx] at h
  | k :: ks, x, j, h => by
    unfold midx at h
    split at h
    · cases h; rename_i e; simp [e]
    · split at h <;> cases h
      rename_i j' h'
      simpa using midx_lt h'

/-- What a key is, in a column. -/
def Col.idx (ks : Col) (key : Value) : Option (Option Nat) :=
  match ks, key with
  | .ints k l, .int k' x => if k = k' then some (midx l x) else none
  | .bools l, .bool x => some (midx l x)
  | .strs l, .string x => some (midx l x)
  | _, _ => none
def keyKind (P : Program) (kt : Nat) (ks : Col) : Bool :=
  match P.underlying kt, ks with
  | some (.int _), .ints _ _ => true
  | some .bool, .bools _ => true
  | some .string, .strs _ => true
  | _, _ => false
def Col.getAt (vs : Col) (o : Option Nat) : Value :=
  match vs with
  | .ints k m => .int k ((oget m o).getD 0)
  | .bools m => .bool ((oget m o).getD false)
  | .strs m => .string ((oget m o).getD ⟨#[]⟩)
def zeroOk (P : Program) (vt : Nat) (vs : Col) : Bool :=
  match P.info? vt with
  | some i => match i.zero, vs with
    | some (.int k 0), .ints k' _ => decide (k = k')
    | some (.bool false), .bools _ => true
    | some (.string s), .strs _ => decide (s.data.toList = [])
    | _, _ => false
  | none => false

theorem findNow_list {κ : Type} [DecidableEq κ] {enc : κ → Value} {kind : TypeDesc} {x : κ} (hs : ∀ y, Instr.sameNow kind (enc x) (enc y) = some (decide (x = y))) :
    ∀ (l : List κ) (es : List MapEntry) (i : Nat), es.map (·.key) = l.map enc → Instr.findNow kind (enc x) es i = some (match midx l x with | some j => (match es[j]? with | some e => some (i + j, e.val) | none => none) | none => none)
  | [], [], i, _ => rfl
  | [], _ :: _, _, h => by simp at h
  | _ :: _, [], _, h => by simp at h
  | y :: l, e :: es, i, h => by
    simp only [List.map_cons, List.cons.injEq] at h
    unfold Instr.findNow midx
    rw [h.1, hs y]
    by_cases hxy : x = y
    · simp [hxy]
    · have ih := findNow_list hs l es (i + 1) h.2
      simp only [hxy, decide_false]
      rw [ih, if_neg (fun h => h)]
      cases midx l x with
      | none => rfl
      | some j =>
        simp only [List.getElem?_cons_succ]
        cases es[j]? with
        | none => rfl
        | some e' => simp only [Option.some.injEq, Prod.mk.injEq, and_true]; omega

theorem Col.keys_of {es : List MapEntry} {κ : Type} {l : List κ} {enc : κ → Value} (hl : es.length = l.length) (h : ∀ (i : Nat) (e : MapEntry), es[i]? = some e → (l[i]?).map enc = some e.key) :
    es.map (·.key) = l.map enc := by
  apply List.ext_getElem?
  intro i
  simp only [List.getElem?_map]
  cases he : es[i]? with
  | none =>
    have : l[i]? = none := by
      rw [List.getElem?_eq_none_iff] at he ⊢; omega
    simp [this]
  | some e =>
    have := h i e he
    cases hz : l[i]? with
    | none => rw [hz] at this; cases this
    | some z => rw [hz] at this; simpa using this.symm

def eget (es : Array MapEntry) (o : Option Nat) : Option (Nat × Value) :=
  match o with
  | some j => match es[j]? with
    | some e => some (j, e.val)
    | none => none
  | none => none
theorem beq_bytes (x y : ByteArray) : (x == y) = decide (x = y) := by
  cases h : decide (x = y) with
  | true =>
    have := of_decide_eq_true h
    subst this
    obtain ⟨a⟩ := x
    show (a == a) = true
    rw [beq_iff_eq]
  | false =>
    have := of_decide_eq_false h
    cases hb : x == y with
    | false => rfl
    | true =>
      obtain ⟨a⟩ := x
      obtain ⟨b⟩ := y
      have : a = b := eq_of_beq (a := a) (b := b) hb
      subst this
      exact absurd rfl ‹¬ (_ : ByteArray) = _›
theorem beq_dec {κ : Type} [DecidableEq κ] (x y : κ) : (x == y) = decide (x = y) := rfl

theorem findNow_col {P : Program} {kt : Nat} {d : TypeDesc} {ks vs : Col} {key : Value} {o : Option Nat} {es : Array MapEntry} {clock : Nat} (hd : P.underlying kt = some d) (hk : keyKind P kt ks = true) (ho : ks.idx key = some o) (hm : MapIs es clock ks vs) :
    Instr.findNow d key es.toList 0 = some (eget es o) ∧ ∀ j, o = some j → ks.get? j = some key := by
  have hat : ∀ (i : Nat) (e : MapEntry), es.toList[i]? = some e → ks.get? i = some e.key := fun i e he => (hm.at_ i e (by simpa using he)).1
  have hsz : es.toList.length = ks.len := by simpa using hm.size
  unfold keyKind at hk
  rw [hd] at hk
  unfold Col.idx at ho
  split at ho <;> try (cases ho; done)
  · rename_i k l k' x
    split at ho <;> cases ho
    rename_i e; subst e
    cases d <;> simp at hk
    rename_i kk
    have := findNow_list (κ := Int) (enc := Value.int k) (kind := .int kk) (x := x) (fun y => by simp [Instr.sameNow]; rw [Bool.eq_iff_iff]; simp) l es.toList 0 (Col.keys_of hsz hat)
    refine ⟨?_, fun j hj => by simp [Col.get?, midx_lt hj]⟩
    simpa [eget] using this
  · rename_i l x
    cases ho
    cases d <;> simp at hk
    have := findNow_list (κ := Bool) (enc := Value.bool) (kind := .bool) (x := x) (fun y => by simp [Instr.sameNow]; rw [Bool.eq_iff_iff]; simp) l es.toList 0 (Col.keys_of hsz hat)
    refine ⟨?_, fun j hj => by simp [Col.get?, midx_lt hj]⟩
    simpa [eget] using this
  · rename_i l x
    cases ho
    cases d <;> simp at hk
    have := findNow_list (κ := ByteArray) (enc := Value.string) (kind := .string) (x := x) (fun y => by simp [Instr.sameNow, beq_bytes]) l es.toList 0 (Col.keys_of hsz hat)
    refine ⟨?_, fun j hj => by simp [Col.get?, midx_lt hj]⟩
    simpa [eget] using this
end Go.Z

/- One operation that only reads: what it yields, symbolically; that it does so in every world that has grown of this one. -/
namespace Go.Z
open Go.RowKit

/-- One of two ways, by a truth value. -/
def sw (t : Bool) (A B : Prop) : Prop := Bool.rec B A t
theorem sw_iff {t : Bool} {A B : Prop} : sw t A B ↔ (t = true → A) ∧ (t = false → B) := by cases t <;> simp [sw]
theorem sw_true {A B : Prop} : sw true A B ↔ A := Iff.rfl
theorem sw_false {A B : Prop} : sw false A B ↔ B := Iff.rfl

abbrev HK := SV → List (Nat × R) → Nat → Prop

def q1 (vs : List SV) (k : SV → Prop) : Prop := match vs with | [s] => k s | _ => False
def q2 (vs : List SV) (k : SV → SV → Prop) : Prop := match vs with | [s, t] => k s t | _ => False

def fieldAddrQ (off : Option Nat) (s : SV) (k : SV → Prop) : Prop :=
  match off, s with
  | some f, .p n o => k (.p n (o + f))
  | some f, .e n es i o => k (.e n es i (o + f))
  | _, _ => False

def loadQ (P : Program) (T : Nat) (s : SV) (h : List (Nat × R)) (nx : Nat) (k : HK) : Prop :=
  match s with
  | .p n o => match hfind h n with
    | some (.blk _ l) => match ldBlk P T l o with
      | some r => k r h nx
      | none => False
    | some (.rblk _ l) => match ldBlk P T l o with
      | some r => k r h nx
      | none => False
    | _ => False
  | .q n => match hfind h n with
    | some (.own _ (.ints kk xs)) => match kindT P T with
      | some (true, s) => s = xs.length ∧ k (.arr kk xs) h nx
      | _ => False
    | _ => False
  | .e n es i o => match arrOf h n with
    | some d => ldArr P T d es i o h nx k
    | none => False
  | _ => False

def nilCheckQ (s : SV) (k : SV → Prop) : Prop :=
  match s with
  | .p n o => k (.p n o)
  | .e n es i o => k (.e n es i o)
  | .f fn nf l => k (.f fn nf l)
  | .q n => k (.q n)
  | _ => False

def binQ (P : Program) (op : BinOp) (T : Nat) (x y : SV) (k : SV → Prop) : Prop :=
  match scal x, scal y with
  | some u, some v => match binV P op T u v with
    | some (c, r) => c ∧ k (.c r)
    | none => False
  | _, _ => match x, y, op, P.underlying T with
    | .p _ _, .c (.pointer none), .eql, some (.pointer _) => k (.b false)
    | .p _ _, .c (.pointer none), .neq, some (.pointer _) => k (.b true)
    | .q _, .c (.pointer none), .eql, some (.pointer _) => k (.b false)
    | .q _, .c (.pointer none), .neq, some (.pointer _) => k (.b true)
    | _, _, _, _ => False
/-- A struct of two integers. -/
def intT (P : Program) (t : Nat) : Bool := match P.underlying t with
  | some (.int _) => true
  | _ => false
def twoT (P : Program) (T : Nat) : Bool := match P.underlying T with
  | some (.struct fs) => match fs.toList with
    | [f, g] => (Nat.beq f.offset 0 && Nat.beq g.offset 1) && (f.name != "_" && g.name != "_") && (intT P f.type && intT P g.type) && (!P.eqGuardType P.depth T && !P.stoodInHeld T)
    | _ => false
  | _ => false
/-- A struct of integers, one behind the other. -/
def fldsI (P : Program) : List Field → Nat → Bool
  | [], _ => true
  | f :: l, i => Nat.beq f.offset i && (f.name != "_" && (intT P f.type && fldsI P l (i + 1)))
def manyT (P : Program) (T : Nat) : Option Nat := match P.underlying T with
  | some (.struct fs) => cond (fldsI P fs.toList 0 && (!P.eqGuardType P.depth T && !P.stoodInHeld T)) (some fs.toList.length) none
  | _ => none
def intsS : List SV → Option (List (IntKind × Int))
  | [] => some []
  | .c (.int k a) :: l => match intsS l with
    | some m => some ((k, a) :: m)
    | none => none
  | _ => none
def eqI : List (IntKind × Int) → List (IntKind × Int) → Option Bool
  | [], [] => some true
  | (k, a) :: l, (k', b) :: m => if k = k' then match eqI l m with
    | some r => some (decide (a = b) && r)
    | none => none
    else none
  | _, _ => none
def manyQ (P : Program) (T : Nat) (xs ys : List SV) : Option Bool :=
  match intsS xs, intsS ys, manyT P T with
  | some l, some m, some n => cond (Nat.beq n l.length) (eqI l m) none
  | _, _, _ => none
/-- A test against nil of a pointer that is nil. -/
def nilA (h : List (Nat × R)) (n : Nat) (want : Bool) (k : SV → Prop) : Prop :=
  match arrOf h n with
  | some d => ∀ t : Bool, (t = want → d.len = 0) → k (.c (.bool t))
  | none => False
def nilQ (P : Program) (op : BinOp) (T : Nat) (x y : SV) (h : List (Nat × R)) (k : SV → Prop) : Option Prop :=
  match x, y, op, P.underlying T with
  | .c (.pointer none), .c (.pointer none), .eql, some (.pointer _) => some (k (.b true))
  | .c (.pointer none), .c (.pointer none), .neq, some (.pointer _) => some (k (.b false))
  | .nil, .nil, .eql, some (.slice _) => some (k (.b true))
  | .nil, .nil, .neq, some (.slice _) => some (k (.b false))
  | .a n, .nil, .eql, some (.slice _) => some (nilA h n true k)
  | .a n, .nil, .neq, some (.slice _) => some (nilA h n false k)
  | .agg [.c (.int k1 a), .c (.int k2 b)], .agg [.c (.int k3 c), .c (.int k4 d)], .eql, some (.struct _) =>
    if k1 = k3 then if k2 = k4 then if twoT P T = true then some (k (.c (.bool (decide (a = c) && decide (b = d))))) else none else none else none
  | .agg [.c (.int k1 a), .c (.int k2 b)], .agg [.c (.int k3 c), .c (.int k4 d)], .neq, some (.struct _) =>
    if k1 = k3 then if k2 = k4 then if twoT P T = true then some (k (.c (.bool (!(decide (a = c) && decide (b = d)))))) else none else none else none
  | .agg xs, .agg ys, .eql, some (.struct _) => match manyQ P T xs ys with
    | some r => some (k (.c (.bool r)))
    | none => none
  | .agg xs, .agg ys, .neq, some (.struct _) => match manyQ P T xs ys with
    | some r => some (k (.c (.bool (!r))))
    | none => none
  | _, _, _, _ => none

def unQ (op : UnOp) (x : SV) (k : SV → Prop) : Prop :=
  match op, x with
  | .not, .b t => k (.b (!t))
  | .not, .c (.bool t) => k (.c (.bool (!t)))
  | .neg, .c (.int kk n) => k (.c (.int kk (kk.wrap (0 - n))))
  | .xor, .c (.int kk n) => k (.c (.int kk (bits .xor kk (if kk.signed then -1 else kk.max) n)))
  | _, _ => False

def convQ (P : Program) (src dst : Nat) (x : SV) (h : List (Nat × R)) (k : SV → Prop) : Prop :=
  match P.underlying src, P.underlying dst, x with
  | some _, some (.int kk), .c (.int _ n) => k (.c (.int kk (kk.wrap n)))
  | some .string, some .string, .c (.string s) => k (.c (.string s))
  | some (.slice e), some .string, .nil => match P.underlying e with
    | some (.int .u8) => k (.c (.string (bstr [])))
    | _ => False
  | some (.slice e), some .string, .a n => match P.underlying e, arrOf h n with
    | some (.int .u8), some (.ints .u8 xs) => k (.c (.string (bstr xs)))
    | _, _ => False
  | _, _, _ => False

def extractQ (i : Nat) (s : SV) (k : SV → Prop) : Prop :=
  match s with
  | .tup l => match l[i]? with
    | some r => k r
    | none => False
  | _ => False

def fieldQ (P : Program) (T f : Nat) (s : SV) (k : SV → Prop) : Prop :=
  match P.underlying T, s with
  | some (.struct fs), .agg l => match fs[f]? with
    | some fl => match ldBlk P fl.type l fl.offset with
      | some r => k r
      | none => False
    | none => False
  | _, _ => False

def indexAddrQ (P : Program) (T : Nat) (x i : SV) (h : List (Nat × R)) (k : SV → Prop) : Prop :=
  match P.underlying T, x, i with
  | some (.slice e), .a n, .c (.int _ z) => match arrOf h n, kindT P e with
    | some d, some (_, es) => cond (Nat.beq es d.es) ((0 ≤ z ∧ z < (d.len : Int)) ∧ k (.e n es z.toNat 0)) False
    | _, _ => False
  | some (.slice e), .sl n m, .c (.int _ z) => match kindT P e with
    | some (_, es) => (0 ≤ z ∧ z < (m : Int)) ∧ k (.p n (z.toNat * es))
    | none => False
  | some (.array len e), .p n o, .c (.int _ z) => match kindT P e with
    | some (_, es) => (0 ≤ z ∧ z < (len : Int)) ∧ k (.p n (o + z.toNat * es))
    | _ => False
  | some (.array len e), .q n, .c (.int _ z) => match kindT P e, hfind h n with
    | some (_, es), some (.own _ d) => cond (Nat.beq es 1) ((0 ≤ z ∧ z < (len : Int) ∧ len = d.len) ∧ k (.e n 1 z.toNat 0)) False
    | _, _ => False
  | _, _, _ => False

/-- A package's array of integers, by its place. -/
def glName : List (Nat × R) → Nat → Option Nat
  | [], _ => none
  | (m, .gl b _ _ _) :: t, n => cond (Nat.beq b n) (some m) (glName t n)
  | _ :: t, n => glName t n
def glFind (h : List (Nat × R)) (n : Nat) : Option (Nat × IntKind × List Int) :=
  match glName h n with
  | some m => match hfind h m with
    | some (.gl b T k xs) => cond (Nat.beq b n) (some (T, k, xs)) none
    | _ => none
  | none => none
def indexG (P : Program) (T n : Nat) (i : SV) (h : List (Nat × R)) (nx : Nat) (k : HK) : Prop :=
  match P.underlying T, i, glFind h n with
  | some (.array len e), .c (.int _ z), some (_, kk, xs) => match kindT P e with
    | some (_, es) => cond (Nat.beq es 1) ((0 ≤ z ∧ z < (len : Int) ∧ len = xs.length) ∧ k (.e nx 1 z.toNat 0) ((nx, .ro (.ints kk xs)) :: h) (nx + 1)) False
    | none => False
  | _, _, _ => False

def indexQ (P : Program) (T : Nat) (x i : SV) (k : SV → Prop) : Prop :=
  match P.underlying T, x, i with
  | some .string, .c (.string s), .c (.int _ z) => (0 ≤ z ∧ z < (s.size : Int)) ∧ k (.c (.int .u8 ((s.data.toList.getD z.toNat 0).toNat : Int)))
  | _, _, _ => False

/-- The map behind a name. -/
def mapOf (h : List (Nat × R)) (n : Nat) : Option (Col × Col) :=
  match hfind h n with
  | some (.map ks vs) => some (ks, vs)
  | some (.rmap ks vs) => some (ks, vs)
  | _ => none

def lookupQ (P : Program) (T : Nat) (ok : Bool) (x y : SV) (h : List (Nat × R)) (k : SV → Prop) : Prop :=
  match P.underlying T, x, scal y with
  | some (.map kt vt), .m n, some key => match mapOf h n with
    | some (ks, vs) => match ks.idx key with
      | some o => cond (keyKind P kt ks && zeroOk P vt vs) (k (cond ok (.tup [.c (vs.getAt o), .c (.bool o.isSome)]) (.c (vs.getAt o)))) False
      | none => False
    | none => False
  | _, _, _ => False

def lenQ (P : Program) (T : Option Nat) (x : SV) (h : List (Nat × R)) (k : SV → Prop) : Prop :=
  match T with
  | some t => match P.underlying t, x with
    | some .string, .c (.string s) => k (.c (.int .i64 (s.size : Int)))
    | some (.slice _), .nil => k (.c (.int .i64 0))
    | some (.slice _), .sl _ m => k (.c (.int .i64 (m : Int)))
    | some (.map _ _), .c (.map none) => k (.c (.int .i64 0))
    | some (.map _ _), .m n => match mapOf h n with
      | some (ks, _) => k (.c (.int .i64 (ks.len : Int)))
      | none => False
    | some (.slice _), .a n => match arrOf h n with
      | some d => k (.c (.int .i64 (d.len : Int)))
      | none => False
    | _, _ => False
  | none => False

def capQ (P : Program) (T : Option Nat) (x : SV) (k : SV → Prop) : Prop :=
  match T with
  | some t => match P.underlying t, x with
    | some (.slice _), .nil => k (.c (.int .i64 0))
    | _, _ => False
  | none => False

/-- An owned array of which none is kept lies on as such. -/
def ownT (h : List (Nat × R)) (n : Nat) (m : Int) (A : Nat → Prop) (B : Prop) : Prop :=
  match hfind h n with
  | some (.own T _) => sw (decide (m = 0)) (A T) B
  | _ => B

/-- The rest of an owned array of integers, to be written; or what is only read from now on. -/
def viewT (h : List (Nat × R)) (n : Nat) (l : Int) (A B : Prop) : Prop :=
  match hfind h n with
  | some (.own _ (.ints _ xs)) => ((0 ≤ l ∧ l ≤ (xs.length : Int)) ∧ A) ∨ B
  | _ => B

def freezeH (h : List (Nat × R)) (n : Nat) : List (Nat × R) :=
  match hfind h n with
  | some (.own _ d) => (n, .ro d) :: h
  | _ => h

def sliceQ (P : Program) (T : Nat) (x : SV) (lo hi : Option SV) (h : List (Nat × R)) (nx : Nat) (k : HK) : Prop :=
  match P.underlying T, x with
  | some (.slice e), .a n => match arrOf h n, kindT P e with
    | some d, some (_, es) => cond (Nat.beq es d.es)
      (match lo, hi with
      | none, none => k (.a n) h nx
      | some (.c (.int _ l)), none => viewT h n l (k (.vw n l.toNat) h nx) ((0 ≤ l ∧ l ≤ (d.len : Int)) ∧ k (.a nx) ((nx, .ro (d.dropD l.toNat)) :: freezeH h n) (nx + 1))
      | none, some (.c (.int _ m)) => ownT h n m (fun T => k (.a nx) ((nx, .own T (d.takeD 0)) :: (n, .dead) :: h) (nx + 1)) ((0 ≤ m ∧ m ≤ (d.len : Int)) ∧ k (.a nx) ((nx, .ro (d.takeD m.toNat)) :: freezeH h n) (nx + 1))
      | some (.c (.int _ l)), some (.c (.int _ m)) => (0 ≤ l ∧ l ≤ m ∧ m ≤ (d.len : Int)) ∧ k (.a nx) ((nx, .ro (d.sub l.toNat (m.toNat - l.toNat))) :: freezeH h n) (nx + 1)
      | _, _ => False) False
    | _, _ => False
  | some (.slice e), .nil => match kindT P e, lo, hi with
    | some _, none, some (.c (.int _ m)) => m = 0 ∧ k .nil h nx
    | _, _, _ => False
  | some .string, .c (.string s) => match lo, hi with
    | none, none => k (.c (.string (s.extract 0 s.size))) h nx
    | some (.c (.int _ l)), none => (0 ≤ l ∧ l ≤ (s.size : Int)) ∧ k (.c (.string (s.extract l.toNat s.size))) h nx
    | none, some (.c (.int _ m)) => (0 ≤ m ∧ m ≤ (s.size : Int)) ∧ k (.c (.string (s.extract 0 m.toNat))) h nx
    | some (.c (.int _ l)), some (.c (.int _ m)) => (0 ≤ l ∧ l ≤ m ∧ m ≤ (s.size : Int)) ∧ k (.c (.string (s.extract l.toNat m.toNat))) h nx
    | _, _ => False
  | _, _ => False

/-- x[:0:0] -/
def slice0Q (P : Program) (T : Nat) (x : SV) (hi mx : SV) (h : List (Nat × R)) (nx : Nat) (k : HK) : Prop :=
  match P.underlying T, hi, mx with
  | some (.slice e), .c (.int _ 0), .c (.int _ 0) => match x with
    | .nil => match kindT P e with
      | some _ => k .nil h nx
      | none => False
    | .a n => match arrOf h n, kindT P e with
      | some d, some _ => k (.a nx) ((nx, .own e (d.takeD 0)) :: h) (nx + 1)
      | _, _ => False
    | _ => False
  | _, _, _ => False

def sliceOpQ (P : Program) (T : Nat) (lo hi mx : Bool) (vs : List SV) (h : List (Nat × R)) (nx : Nat) (k : HK) : Prop :=
  match lo, hi, mx, vs with
  | false, false, false, [x] => sliceQ P T x none none h nx k
  | true, false, false, [x, l] => sliceQ P T x (some l) none h nx k
  | false, true, false, [x, m] => sliceQ P T x none (some m) h nx k
  | true, true, false, [x, l, m] => sliceQ P T x (some l) (some m) h nx k
  | false, true, true, [x, m, c] => slice0Q P T x m c h nx k
  | _, _, _, _ => False

/-- Parts of a struct or an array, put in their places. -/
def fillS (place : Nat → Option (Nat × Nat)) (cells : List SV) : List (Nat × SV) → Option (List SV)
  | [] => some cells
  | (i, s) :: rest =>
    match place i, cellsS s with
    | some (off, size), some cs => cond (Nat.beq cs.length size && Nat.ble (off + size) cells.length)
        (fillS place (cells.take off ++ (cs ++ cells.drop (off + size))) rest) none
    | _, _ => none

def placesT (P : Program) (T : Nat) : Option (Nat → Option (Nat × Nat)) :=
  match P.underlying T with
  | some (.struct fs) => some fun i => match fs[i]? with
    | some f => match P.info? f.type with
      | some t => some (f.offset, t.size)
      | none => none
    | none => none
  | some (.array _ e) => match P.info? e with
    | some t => some fun i => some (i * t.size, t.size)
    | none => none
  | _ => none

def zeroS (P : Program) (T : Nat) : Option (List SV) :=
  match P.info? T with
  | some i => match i.zero with
    | some z => some (z.cells.toList.map liftK1)
    | none => none
  | none => none

def allInfo (P : Program) (T : Nat) : Bool :=
  match P.underlying T with
  | some (.struct fs) => fs.toList.all fun f => (P.info? f.type).isSome
  | _ => true

def intsOf (k : IntKind) : List SV → Option (List Int)
  | [] => some []
  | .c (.int k' z) :: l => match intsOf k l with
    | some zs => if k = k' then some (z :: zs) else none
    | none => none
  | _ => none

/-- An array of integers, as such. -/
def arrS (P : Program) (T : Nat) (s : SV) : SV :=
  match P.underlying T with
  | some (.array _ e) => match P.underlying e, s with
    | some (.int kk), .agg cs => match intsOf kk cs with
      | some zs => .arr kk zs
      | none => s
    | _, _ => s
  | _ => s
def buildQ0 (P : Program) (T : Nat) (ixs : List Nat) (vs : List SV) (k : SV → Prop) : Prop :=
  match zeroS P T, placesT P T, allInfo P T with
  | some z, some pl, true => match fillS pl z (ixs.zip vs) with
    | some cs => k (.agg cs)
    | none => False
  | _, _, _ => False

def buildQ (P : Program) (T : Nat) (ixs : List Nat) (vs : List SV) (k : SV → Prop) : Prop := buildQ0 P T ixs vs fun s => k (arrS P T s)

def stepQ (P : Program) (op : Op) (vs : List SV) (h : List (Nat × R)) (nx : Nat) (k : HK) : Prop :=
  match op with
  | .move _ => q1 vs fun s => k s h nx
  | .assign _ => q1 vs fun s => k s h nx
  | .fieldAddr S _ f => q1 vs fun s => fieldAddrQ (fldT P S f) s fun r => k r h nx
  | .load T _ => q1 vs fun s => loadQ P T s h nx k
  | .nilCheck _ => q1 vs fun s => nilCheckQ s fun r => k r h nx
  | .binOp op T _ _ _ => q2 vs fun s t => match nilQ P op T s t h (fun r => k r h nx) with
    | some p => p
    | none => binQ P op T s t fun r => k r h nx
  | .unOp op _ _ => q1 vs fun s => unQ op s fun r => k r h nx
  | .convert src dst _ => q1 vs fun s => convQ P src dst s h fun r => k r h nx
  | .extract _ i => q1 vs fun s => extractQ i s fun r => k r h nx
  | .field T _ f => q1 vs fun s => fieldQ P T f s fun r => k r h nx
  | .indexAddr T _ _ => q2 vs fun s t => match s with
    | .g n => indexG P T n t h nx k
    | s => indexAddrQ P T s t h fun r => k r h nx
  | .index T _ _ => q2 vs fun s t => indexQ P T s t fun r => k r h nx
  | .slice T _ lo hi mx => sliceOpQ P T lo.isSome hi.isSome mx.isSome vs h nx k
  | .makeFunc fn first _ => match fn with
    | .func f => k (.f f first.toList.length vs) h nx
    | _ => False
  | .lookup T _ _ ok => q2 vs fun s t => lookupQ P T ok s t h fun r => k r h nx
  | .build T parts => buildQ P T (parts.toList.map (·.1)) vs fun r => k r h nx
  | .call c => match c.callee with
    | .builtin .len => q1 vs fun s => lenQ P c.argTypes[0]? s h fun r => k r h nx
    | .builtin .cap => q1 vs fun s => capQ P c.argTypes[0]? s fun r => k r h nx
    | _ => False
  | _ => False
end Go.Z

/- The operations that only read: what 'stepQ' says is what the run does. -/
namespace Go.Z
open Go.RowKit

theorem V_c (θ : Th) (v : Value) : V θ (.c v) v := by simp only [V]
theorem V_b (θ : Th) (t : Bool) : V θ (.b t) (.bool t) := by simp only [V]

theorem run_ptr_nil {P : Program} {T e : Nat} (hT : P.underlying T = some (.pointer e)) (a : Addr) (w : World) :
    (binOp .eql T (.pointer (some a)) (.pointer none)).run P w = .ok (.bool false) w ∧ (binOp .neq T (.pointer (some a)) (.pointer none)).run P w = .ok (.bool true) w := by
  have h : (Op.equal T (.pointer (some a)) (.pointer none)).run P w = .ok false w := by
    show (Op.equalIn (9999 + 1) T (.pointer (some a)) (.pointer none)).run P w = .ok false w
    unfold Op.equalIn
    simp only [Sem.run_bind, run_underlying hT, Result.andThen]
    rfl
  have h1 : binOp .eql T (.pointer (some a)) (.pointer none) = (do pure (.bool (← Op.equal T (.pointer (some a)) (.pointer none)))) := rfl
  have h2 : binOp .neq T (.pointer (some a)) (.pointer none) = (do pure (.bool (!(← Op.equal T (.pointer (some a)) (.pointer none))))) := rfl
  rw [h1, h2]
  simp only [Sem.run_bind, h, Result.andThen]
  exact ⟨rfl, rfl⟩

section
variable {P : Program} {K : Ctx} {θ : Th} {h : List (Nat × R)} {nx : Nat} {w : World}

theorem fieldAddrQ_sound {S f : Nat} {s : SV} {v : Value} {k : SV → Prop} (hv : V θ s v) (hq : fieldAddrQ (fldT P S f) s k) :
    ∃ r v', k r ∧ V θ r v' ∧ ∀ w', (Instr.fieldAt S v f).run P w' = .ok v' w' := by
  unfold fieldAddrQ at hq
  split at hq
  · rename_i off n o hf
    simp only [V] at hv
    obtain ⟨L, hL, rfl⟩ := hv
    exact ⟨_, _, hq, by simp only [V]; exact ⟨L, hL, rfl⟩, fun w' => by rw [run_fieldAt hf]; congr 1; simp [Nat.add_assoc]⟩
  · rename_i off n es i o hf
    simp only [V] at hv
    obtain ⟨L, hL, hi, rfl⟩ := hv
    exact ⟨_, _, hq, by simp only [V]; exact ⟨L, hL, hi, rfl⟩, fun w' => by rw [run_fieldAt hf]; congr 1; simp [Nat.add_assoc]⟩
  · exact hq.elim

theorem ldBlk_sound {T : Nat} {l : List SV} {o : Nat} {r : SV} {cs : List Value} (hl : VL θ l cs) (hq : ldBlk P T l o = some r) :
    ∃ v, V θ r v ∧ ∀ (w' : World) (b : Nat), (∀ j u, cs[j]? = some u → w'.cell? ⟨b, j, none⟩ = some u) → (loadVar T ⟨b, o, none⟩).run P w' = .ok v w' := by
  unfold ldBlk at hq
  split at hq
  · rename_i s hT
    cases hc : Nat.ble (o + s) l.length with
    | false => rw [hc] at hq; cases hq
    | true =>
      rw [hc] at hq; cases hq
      have hlen := VL_length hl
      have hle := nble hc
      refine ⟨.agg ((cs.drop o).take s).toArray, by simp only [V]; exact ⟨_, rfl, VL_take s (VL_drop o hl)⟩, fun w' b hb => run_loadVar_agg hT w' b o _ (by simp; omega) fun j v hj => ?_⟩
      rw [List.getElem?_take] at hj
      split at hj <;> try (cases hj; done)
      rw [List.getElem?_drop] at hj
      exact hb _ _ hj
  · rename_i s hT
    obtain ⟨v, h1, h2⟩ := VL_get hl hq
    exact ⟨v, h2, fun w' b hb => run_loadVar_one hT w' b o v (hb _ _ h1)⟩
  · cases hq

/-- The blocks that a value's reading looks at are as they were. -/
def rdB (θ : Th) : SV → Nat → Prop
  | .p n _, b => ∃ L, θ n = some L ∧ L.b = b
  | .e n _ _ _, b => ∃ L, θ n = some L ∧ L.len ≠ 0 ∧ L.b = b
  | .a n, b => ∃ L, θ n = some L ∧ L.len ≠ 0 ∧ L.b = b
  | .m n, b => ∃ L, θ n = some L ∧ L.b = b
  | .q n, b => ∃ L, θ n = some L ∧ L.b = b
  | _, _ => False
def Rd (θ : Th) (s : SV) (w w' : World) : Prop := ∀ b, b < w.heap.size → rdB θ s b → w'.heap[b]? = w.heap[b]?
theorem Rd.of_below {w' : World} (hb : Below w.heap.size w w') (s : SV) : Rd θ s w w' := fun b h _ => hb.block b h

theorem loadQ_sound (hs : SatH K θ h nx w) {T : Nat} {s : SV} {v : Value} {k : HK} (hv : V θ s v) (hq : loadQ P T s h nx k) :
    ∃ r h' nx' θ' v', k r h' nx' ∧ Grows K θ θ' nx nx' h' w ∧ V θ' r v' ∧ ∀ w', Rd θ s w w' → (Instr.loadAt T v).run P w' = .ok v' w' := by
  unfold loadQ at hq
  split at hq
  · rename_i n o
    simp only [V] at hv
    obtain ⟨L, hL, rfl⟩ := hv
    have blk : ∀ {T' : Nat} {l : List SV} {r : SV} {cs : List Value}, ldBlk P T l o = some r → L.a = some ⟨L.b, 0, none⟩ → w.heap[L.b]? = some (.cells cs.toArray T' (0, 0)) → VL θ l cs → k r h nx →
        ∃ r h' nx' θ' v', k r h' nx' ∧ Grows K θ θ' nx nx' h' w ∧ V θ' r v' ∧ ∀ w', Rd θ (.p n o) w w' → (Instr.loadAt T (.pointer (some ⟨L.b, L.o + o, none⟩))).run P w' = .ok v' w' := by
      intro T' l r cs hr hb1 hb2 hb3 hk
      obtain ⟨v', h1, h2⟩ := ldBlk_sound hb3 hr
      refine ⟨_, _, _, θ, v', hk, .refl hs, h1, fun w' hw' => ?_⟩
      have ho : L.o = 0 := by unfold Loc.o; rw [hb1]
      have := h2 w' L.b (fun j u hj => by
        have hlt : L.b < w.heap.size := (Array.getElem?_eq_some_iff.1 hb2).1
        rw [cell_eq (hw' _ hlt ⟨L, hL, rfl⟩), cell_of_cells hb2]; exact hj)
      simpa [Instr.loadAt, Instr.sureAddr, ho] using this
    split at hq <;> try exact hq.elim
    · rename_i T' l hf
      split at hq <;> try exact hq.elim
      rename_i r hr
      obtain ⟨L', hL', cs, hb1, hb2, hb3⟩ := hs.res n _ hf
      obtain rfl := Option.some.inj (hL.symm.trans hL')
      exact blk hr hb1 hb2 hb3 hq
    · rename_i T' l hf
      split at hq <;> try exact hq.elim
      rename_i r hr
      obtain ⟨L', hL', cs, hb1, _, hb2, hb3⟩ := hs.res n _ hf
      obtain rfl := Option.some.inj (hL.symm.trans hL')
      exact blk hr hb1 hb2 hb3 hq
  · rename_i n
    split at hq <;> try exact hq.elim
    rename_i T' kk xs hf
    split at hq <;> try exact hq.elim
    rename_i s hT
    obtain ⟨hlen, hk⟩ := hq
    simp only [V] at hv
    obtain ⟨L, hL, hLL, rfl⟩ := hv
    have ho : L.o = 0 := by rw [hLL]; rfl
    obtain ⟨L', hL', hat, hw, _⟩ := hs.res n _ hf
    obtain rfl := Option.some.inj (hL.symm.trans hL')
    obtain ⟨e1, e2, e3⟩ := hat
    refine ⟨_, _, _, θ, .agg (xs.map (Value.int kk)).toArray, hk, .refl hs, by simp only [V], fun w' hw' => ?_⟩
    have := run_loadVar_agg (P := P) hT w' L.b 0 (xs.map (Value.int kk)) (by simp [hlen]) (fun j v hj => by
      rw [List.getElem?_map] at hj
      cases hx : xs[j]? with
      | none => rw [hx] at hj; simp at hj
      | some z =>
        rw [hx] at hj; simp at hj; subst hj
        have h3 := e3 j z hx
        rw [ho] at h3
        rw [cell_eq (hw' _ (lt_of_cell h3) ⟨L, hL, rfl⟩)]; exact h3)
    simpa [Instr.loadAt, Instr.sureAddr] using this
  · rename_i n es i o
    split at hq <;> try exact hq.elim
    rename_i d hd
    obtain ⟨r, h', nx', θ', v', a1, a2, a3, b, o', e1, hb, a4⟩ := ldArr_sound hs hd hv hq
    subst e1
    simp only [V] at hv
    obtain ⟨L, g1, g0, g2⟩ := hv
    simp at g2
    refine ⟨r, h', nx', θ', v', a1, a2, a3, fun w' hw' => ?_⟩
    have := a4 w' (hw' b hb ⟨L, g1, by omega, g2.1.symm⟩)
    simpa [Instr.loadAt, Instr.sureAddr] using this
  · exact hq.elim

theorem binQ_sound {op : BinOp} {T : Nat} {s t : SV} {u v : Value} {k : SV → Prop} (hu : V θ s u) (hv : V θ t v) (hq : binQ P op T s t k) :
    ∃ r v', k r ∧ V θ r v' ∧ ∀ (x y : Operand) w', (do eqGuard op T x y u v; binOp op T u v : Sem Value).run P w' = .ok v' w' := by
  unfold binQ at hq
  split at hq
  · rename_i u' v' e1 e2
    split at hq <;> try exact hq.elim
    rename_i c r hr
    obtain rfl := V_scal e1 hu
    obtain rfl := V_scal e2 hv
    exact ⟨_, _, hq.2, V_c _ _, fun x y w' => binV_sound hr hq.1 x y w'⟩
  · split at hq
    · rename_i hT _
      simp only [V] at hu hv
      obtain ⟨L, _, rfl⟩ := hu
      subst hv
      refine ⟨_, .bool false, hq, V_b _ _, fun x y w' => ?_⟩
      rw [eqGuard_at_pointer]
      exact (run_ptr_nil hT _ w').1
    · rename_i hT _
      simp only [V] at hu hv
      obtain ⟨L, _, rfl⟩ := hu
      subst hv
      refine ⟨_, .bool true, hq, V_b _ _, fun x y w' => ?_⟩
      rw [eqGuard_at_pointer]
      exact (run_ptr_nil hT _ w').2
    · rename_i hT _
      simp only [V] at hu hv
      obtain ⟨L, _, _, rfl⟩ := hu
      subst hv
      refine ⟨_, .bool false, hq, V_b _ _, fun x y w' => ?_⟩
      rw [eqGuard_at_pointer]
      exact (run_ptr_nil hT _ w').1
    · rename_i hT _
      simp only [V] at hu hv
      obtain ⟨L, _, _, rfl⟩ := hu
      subst hv
      refine ⟨_, .bool true, hq, V_b _ _, fun x y w' => ?_⟩
      rw [eqGuard_at_pointer]
      exact (run_ptr_nil hT _ w').2
    · exact hq.elim

theorem run_nil_nil {P : Program} {T e : Nat} (hT : P.underlying T = some (.pointer e)) (w : World) :
    (binOp .eql T (.pointer none) (.pointer none)).run P w = .ok (.bool true) w ∧ (binOp .neq T (.pointer none) (.pointer none)).run P w = .ok (.bool false) w := by
  have h : (Op.equal T (.pointer none) (.pointer none)).run P w = .ok true w := by
    show (Op.equalIn (9999 + 1) T (.pointer none) (.pointer none)).run P w = .ok true w
    unfold Op.equalIn
    simp only [Sem.run_bind, run_underlying hT, Result.andThen]
    rfl
  have h1 : binOp .eql T (.pointer none) (.pointer none) = (do pure (.bool (← Op.equal T (.pointer none) (.pointer none)))) := rfl
  have h2 : binOp .neq T (.pointer none) (.pointer none) = (do pure (.bool (!(← Op.equal T (.pointer none) (.pointer none))))) := rfl
  rw [h1, h2]
  simp only [Sem.run_bind, h, Result.andThen]
  exact ⟨rfl, rfl⟩

theorem run_slice_nil {P : Program} {T e : Nat} (hT : P.underlying T = some (.slice e)) (a : Option Addr) (n c : Nat) (w : World) :
    (binOp .eql T (.slice a n c) (.slice none 0 0)).run P w = .ok (.bool a.isNone) w ∧ (binOp .neq T (.slice a n c) (.slice none 0 0)).run P w = .ok (.bool (!a.isNone)) w := by
  have h : (Op.equal T (.slice a n c) (.slice none 0 0)).run P w = .ok a.isNone w := by
    show (Op.equalIn (9999 + 1) T (.slice a n c) (.slice none 0 0)).run P w = .ok a.isNone w
    unfold Op.equalIn
    simp only [Sem.run_bind, run_underlying hT, Result.andThen]
    cases a <;> rfl
  have h1 : binOp .eql T (.slice a n c) (.slice none 0 0) = (do pure (.bool (← Op.equal T (.slice a n c) (.slice none 0 0)))) := rfl
  have h2 : binOp .neq T (.slice a n c) (.slice none 0 0) = (do pure (.bool (!(← Op.equal T (.slice a n c) (.slice none 0 0))))) := rfl
  rw [h1, h2]
  simp only [Sem.run_bind, h, Result.andThen]
  exact ⟨rfl, rfl⟩

theorem eqGuard_at_slice' (op : BinOp) (t : TypeId) (x y : Operand) (a : Option Addr) (n c : Nat) (v : Value) : eqGuard op t x y (.slice a n c) v = pure () := by cases op <;> rfl

theorem len_of_nil {L : Loc} {d : D} {X : Nat → Prop} {w : World} (hat : d.at X w L) (hw : L.wf) (ha : L.a.isNone = true) : d.len = 0 := by
  obtain ⟨e1, e2⟩ := D.at_len hat
  rcases hw with h | h
  · omega
  · rw [h] at ha; cases ha

theorem run_part {P : Program} {t : Nat} (h : intT P t = true) {cs : Array Value} {i : Nat} {v : Value} (hv : cs[i]? = some v) (w : World) : (part t cs i).run P w = .ok v w := by
  unfold intT at h
  split at h
  · rename_i k hk
    unfold part isAgg
    simp only [Sem.run_bind, run_underlying hk, Result.andThen, hv]
    rfl
  · cases h
theorem run_prog {P : Program} (w : World) : (program : Sem Program).run P w = .ok P w := rfl
theorem run_int_eq {P : Program} {t : Nat} (h : intT P t = true) (n : Nat) (k : IntKind) (a b : Int) (w : World) : (Op.equalIn (n + 1) t (.int k a) (.int k b)).run P w = .ok (a == b) w := by
  unfold intT at h
  split at h
  · rename_i k hk
    unfold Op.equalIn
    simp only [Sem.run_bind, run_underlying hk, Result.andThen]
    simp
  · cases h
theorem run_two' (n : Nat) {P : Program} {T : Nat} (h : twoT P T = true) (k l : IntKind) (a b c d : Int) (w : World) :
    (Op.equalIn (n + 1 + 1) T (.agg #[.int k a, .int l b]) (.agg #[.int k c, .int l d])).run P w = .ok (decide (a = c) && decide (b = d)) w := by
  unfold twoT at h
  split at h
  · rename_i fs hf
    split at h
    · rename_i f g hl
      simp only [Bool.and_eq_true, Bool.not_eq_true', bne_iff_ne, ne_eq] at h
      obtain ⟨⟨⟨⟨h1, h2⟩, h3, h4⟩, h5, h6⟩, h7, h8⟩ := h
      have h1 := Nat.eq_of_beq_eq_true h1
      have h2 := Nat.eq_of_beq_eq_true h2
      obtain rfl : fs = #[f, g] := by cases fs; simp only at hl; rw [hl]
      rw [Op.equalIn]
      simp only [Sem.run_bind, run_underlying hf, Result.andThen, run_prog, h8, Bool.false_eq_true, if_false, ← Array.forIn_toList, List.forIn_cons, List.forIn_nil]
      have q1 : (Op.equalIn (n + 1) f.type (.int k a) (.int k c)).run P w = .ok (a == c) w := run_int_eq h5 n k a c w
      have q2 : (Op.equalIn (n + 1) g.type (.int l b) (.int l d)).run P w = .ok (b == d) w := run_int_eq h6 n l b d w
      have p1 : (part f.type #[Value.int k a, .int l b] 0).run P w = .ok (.int k a) w := run_part h5 rfl w
      have p2 : (part f.type #[Value.int k c, .int l d] 0).run P w = .ok (.int k c) w := run_part h5 rfl w
      have p3 : (part g.type #[Value.int k a, .int l b] 1).run P w = .ok (.int l b) w := run_part h6 rfl w
      have p4 : (part g.type #[Value.int k c, .int l d] 1).run P w = .ok (.int l d) w := run_part h6 rfl w
      rw [if_pos h3, h1]
      simp only [Sem.run_bind, Result.andThen, p1, p2, q1]
      by_cases e : a = c
      · subst e
        simp only [beq_self_eq_true, Bool.not_true, Bool.false_eq_true, if_false, Sem.run_pure, Sem.run_bind, Result.andThen, if_pos h4, h2, p3, p4, q2]
        by_cases e : b = d
        · subst e
          simp
        · simp [e]
      · simp [e]
    · cases h
  · cases h
theorem run_two {P : Program} {T : Nat} (h : twoT P T = true) (k l : IntKind) (a b c d : Int) (w : World) :
    (Op.equal T (.agg #[.int k a, .int l b]) (.agg #[.int k c, .int l d])).run P w = .ok (decide (a = c) && decide (b = d)) w := run_two' 9998 h k l a b c d w
theorem eqGuard_two {P : Program} {T : Nat} (h : twoT P T = true) (op : BinOp) (x y : Operand) (u v : Array Value) (w : World) : (eqGuard op T x y (.agg u) (.agg v)).run P w = .ok () w := by
  have hg : P.eqGuardType P.depth T = false := by
    unfold twoT at h
    split at h
    · split at h
      · simp only [Bool.and_eq_true, Bool.not_eq_true'] at h; exact h.2.1
      · cases h
    · cases h
  unfold eqGuard
  cases op <;> simp [Sem.run_bind, Result.andThen, hg]
theorem two_sound {P : Program} {T : Nat} (h : twoT P T = true) (k l : IntKind) (a b c d : Int) (x y : Operand) (w : World) :
    (do eqGuard .eql T x y (.agg #[.int k a, .int l b]) (.agg #[.int k c, .int l d]); binOp .eql T (.agg #[.int k a, .int l b]) (.agg #[.int k c, .int l d]) : Sem Value).run P w = .ok (.bool (decide (a = c) && decide (b = d))) w ∧
    (do eqGuard .neq T x y (.agg #[.int k a, .int l b]) (.agg #[.int k c, .int l d]); binOp .neq T (.agg #[.int k a, .int l b]) (.agg #[.int k c, .int l d]) : Sem Value).run P w = .ok (.bool (!(decide (a = c) && decide (b = d)))) w := by
  have h1 : ∀ u v : Array Value, binOp .eql T (.agg u) (.agg v) = (do pure (.bool (← Op.equal T (.agg u) (.agg v)))) := fun _ _ => rfl
  have h2 : ∀ u v : Array Value, binOp .neq T (.agg u) (.agg v) = (do pure (.bool (!(← Op.equal T (.agg u) (.agg v))))) := fun _ _ => rfl
  rw [h1, h2]
  simp only [Sem.run_bind, eqGuard_two h, run_two h, Result.andThen]
  exact ⟨rfl, rfl⟩
theorem V_two {θ : Th} {k l : IntKind} {a b : Int} {v : Value} (h : V θ (.agg [.c (.int k a), .c (.int l b)]) v) : v = .agg #[.int k a, .int l b] := by
  simp only [V] at h
  obtain ⟨cs, rfl, h⟩ := h
  match cs, h with
  | [x, y], h =>
    simp only [VL, V] at h
    obtain ⟨rfl, rfl, _⟩ := h
    rfl

def valI (x : IntKind × Int) : Value := .int x.1 x.2
theorem V_many {θ : Th} : ∀ {xs : List SV} {l : List (IntKind × Int)} {vs : List Value}, intsS xs = some l → VL θ xs vs → vs = l.map valI
  | [], l, vs, h, hv => by simp [intsS] at h; subst h; rw [VL_nil_left hv]; rfl
  | s :: xs, l, vs, h, hv => by
    obtain ⟨v, us, rfl, h1, h2⟩ := VL_cons_left hv
    unfold intsS at h
    split at h
    · rename_i h0; cases h0
    · rename_i k a xs' h0
      cases h0
      split at h
      · rename_i m hm
        cases h
        simp only [V] at h1
        subst h1
        rw [V_many hm h2]
        rfl
      · cases h
    · cases h
def fldB (n : Nat) (A B : Array Value) (f : Field) (_ : Option Bool × Unit) : Sem (ForInStep (Option Bool × Unit)) :=
  if f.name ≠ "_" then do
    let u ← part f.type A f.offset
    let v ← part f.type B f.offset
    let x ← Op.equalIn (n + 1) f.type u v
    if (!x) = true then pure (ForInStep.done (some false, ())) else pure (ForInStep.yield (none, ()))
  else pure (ForInStep.yield (none, ()))
theorem run_fields (n : Nat) {P : Program} (w : World) : ∀ (l : List Field) (xs ys : List (IntKind × Int)) (pre pre' : List Value) (r : Bool), fldsI P l pre.length = true → pre'.length = pre.length → l.length = xs.length → eqI xs ys = some r →
    (forIn (m := Sem) l ((none : Option Bool), ()) (fldB n (pre ++ xs.map valI).toArray (pre' ++ ys.map valI).toArray)).run P w = .ok (if r then none else some false, ()) w
  | [], xs, ys, pre, pre', r, _, _, hl, he => by
    have : xs = [] := List.eq_nil_of_length_eq_zero hl.symm
    subst this
    cases ys with
    | nil => simp [eqI] at he; subst he; simp
    | cons _ _ => simp [eqI] at he
  | f :: l, xs, ys, pre, pre', r, hf, hp, hl, he => by
    cases xs with
    | nil => cases hl
    | cons x xs =>
    cases ys with
    | nil => simp [eqI] at he
    | cons y ys =>
    obtain ⟨k, a⟩ := x
    obtain ⟨k', b⟩ := y
    simp only [eqI] at he
    split at he <;> try (cases he; done)
    rename_i hk
    subst hk
    split at he <;> try (cases he; done)
    rename_i r' hr
    cases he
    simp only [fldsI, Bool.and_eq_true, bne_iff_ne, ne_eq] at hf
    obtain ⟨h1, h2, h3, h4⟩ := hf
    have h1 := Nat.eq_of_beq_eq_true h1
    have p1 : (part f.type (pre ++ ((k, a) :: xs).map valI).toArray pre.length).run P w = .ok (.int k a) w := run_part h3 (by simp [valI]) w
    have p2 : (part f.type (pre' ++ ((k, b) :: ys).map valI).toArray pre.length).run P w = .ok (.int k b) w := run_part h3 (by rw [← hp]; simp [valI]) w
    have q := run_int_eq h3 n k a b w
    have ih := run_fields n w l xs ys (pre ++ [valI (k, a)]) (pre' ++ [valI (k, b)]) r' (by simpa using h4) (by simp [hp]) (by simpa using hl) hr
    rw [List.append_assoc, List.append_assoc] at ih
    rw [List.forIn_cons]
    simp only [fldB, h1, if_pos h2, Sem.run_bind, p1, p2, q, Result.andThen]
    by_cases e : a = b
    · subst e
      simp only [beq_self_eq_true, Bool.not_true, Bool.false_eq_true, if_false, Sem.run_pure, decide_true, Bool.true_and]
      exact ih
    · simp [e]
theorem run_many' (n : Nat) {P : Program} {T m : Nat} (h : manyT P T = some m) {xs ys : List (IntKind × Int)} (hl : m = xs.length) {r : Bool} (he : eqI xs ys = some r) (w : World) :
    (Op.equalIn (n + 1 + 1) T (.agg (xs.map valI).toArray) (.agg (ys.map valI).toArray)).run P w = .ok r w := by
  unfold manyT at h
  split at h <;> try (cases h; done)
  rename_i fs hf
  cases hc : (fldsI P fs.toList 0 && (!P.eqGuardType P.depth T && !P.stoodInHeld T)) with
  | false => rw [hc] at h; cases h
  | true =>
    rw [hc] at h
    cases h
    simp only [Bool.and_eq_true, Bool.not_eq_true'] at hc
    obtain ⟨h1, _, h8⟩ := hc
    have := run_fields n w fs.toList xs ys [] [] r h1 rfl hl he
    rw [Op.equalIn]
    simp only [Sem.run_bind, run_underlying hf, Result.andThen, run_prog, h8, Bool.false_eq_true, if_false, ← Array.forIn_toList]
    have e : (fun (f : Field) (s : Option Bool × Unit) =>
          if f.name ≠ "_" then do
            let u ← part f.type (xs.map valI).toArray f.offset
            let v ← part f.type (ys.map valI).toArray f.offset
            let x ← Op.equalIn (n + 1) f.type u v
            if (!x) = true then pure (ForInStep.done (some false, ())) else pure (ForInStep.yield (none, ()))
          else pure (ForInStep.yield (none, ()))) = fldB n (xs.map valI).toArray (ys.map valI).toArray := rfl
    rw [e]
    simp only [List.nil_append] at this
    rw [this]
    cases r <;> rfl
theorem eqGuard_many {P : Program} {T m : Nat} (h : manyT P T = some m) (op : BinOp) (x y : Operand) (u v : Array Value) (w : World) : (eqGuard op T x y (.agg u) (.agg v)).run P w = .ok () w := by
  have hg : P.eqGuardType P.depth T = false := by
    unfold manyT at h
    split at h <;> try (cases h; done)
    rename_i fs hf
    cases hc : (fldsI P fs.toList 0 && (!P.eqGuardType P.depth T && !P.stoodInHeld T)) with
    | false => rw [hc] at h; cases h
    | true =>
      simp only [Bool.and_eq_true, Bool.not_eq_true'] at hc
      exact hc.2.1
  unfold eqGuard
  cases op <;> simp [Sem.run_bind, Result.andThen, hg]
theorem many_sound {P : Program} {θ : Th} {T : Nat} {xs ys : List SV} {r : Bool} (hq : manyQ P T xs ys = some r) {u v : Value} (hu : V θ (.agg xs) u) (hv : V θ (.agg ys) v) (x y : Operand) (w : World) :
    (do eqGuard .eql T x y u v; binOp .eql T u v : Sem Value).run P w = .ok (.bool r) w ∧
    (do eqGuard .neq T x y u v; binOp .neq T u v : Sem Value).run P w = .ok (.bool (!r)) w := by
  unfold manyQ at hq
  split at hq <;> try (cases hq; done)
  rename_i l m n hx hy hT
  cases hc : Nat.beq n l.length with
  | false => rw [hc] at hq; cases hq
  | true =>
    rw [hc] at hq
    simp only [_root_.cond_true] at hq
    simp only [V] at hu hv
    obtain ⟨cs, rfl, hcs⟩ := hu
    obtain ⟨ds, rfl, hds⟩ := hv
    rw [V_many hx hcs, V_many hy hds]
    have h0 : (Op.equal T (.agg (l.map valI).toArray) (.agg (m.map valI).toArray)).run P w = .ok r w := run_many' 9998 hT (Nat.eq_of_beq_eq_true hc) hq w
    have h1 : ∀ u v : Array Value, binOp .eql T (.agg u) (.agg v) = (do pure (.bool (← Op.equal T (.agg u) (.agg v)))) := fun _ _ => rfl
    have h2 : ∀ u v : Array Value, binOp .neq T (.agg u) (.agg v) = (do pure (.bool (!(← Op.equal T (.agg u) (.agg v))))) := fun _ _ => rfl
    rw [h1, h2]
    simp only [Sem.run_bind, eqGuard_many hT, h0, Result.andThen]
    exact ⟨rfl, rfl⟩

theorem nilQ_sound (hs : SatH K θ h nx w) {op : BinOp} {T : Nat} {s t : SV} {u v : Value} {k : SV → Prop} {p : Prop} (hu : V θ s u) (hv : V θ t v) (hn : nilQ P op T s t h k = some p) (hq : p) :
    ∃ r v', k r ∧ V θ r v' ∧ ∀ (x y : Operand) w', (do eqGuard op T x y u v; binOp op T u v : Sem Value).run P w' = .ok v' w' := by
  unfold nilQ at hn
  split at hn <;> try (cases hn)
  · rename_i hT; simp only [V] at hu hv; subst hu hv
    refine ⟨_, .bool true, hq, V_b _ _, fun x y w' => ?_⟩
    rw [eqGuard_at_pointer]
    exact (run_nil_nil hT w').1
  · rename_i hT; simp only [V] at hu hv; subst hu hv
    refine ⟨_, .bool false, hq, V_b _ _, fun x y w' => ?_⟩
    rw [eqGuard_at_pointer]
    exact (run_nil_nil hT w').2
  · rename_i hT; simp only [V] at hu hv; subst hu hv
    refine ⟨_, .bool true, hq, V_b _ _, fun x y w' => ?_⟩
    rw [eqGuard_at_slice']
    exact (run_slice_nil hT none 0 0 w').1
  · rename_i hT; simp only [V] at hu hv; subst hu hv
    refine ⟨_, .bool false, hq, V_b _ _, fun x y w' => ?_⟩
    rw [eqGuard_at_slice']
    exact (run_slice_nil hT none 0 0 w').2
  · rename_i n hT; simp only [V] at hu hv; subst hv
    obtain ⟨L, hL, rfl⟩ := hu
    unfold nilA at hq
    split at hq <;> try exact hq.elim
    rename_i d hd
    obtain ⟨L', hL', hat, hw⟩ := arrOf_sound hs hd
    obtain rfl := Option.some.inj (hL.symm.trans hL')
    refine ⟨_, .bool L.a.isNone, hq L.a.isNone (len_of_nil hat hw), V_c _ _, fun x y w' => ?_⟩
    rw [show L.val = .slice L.a L.len L.cap from rfl, eqGuard_at_slice']
    exact (run_slice_nil hT _ _ _ w').1
  · rename_i n hT; simp only [V] at hu hv; subst hv
    obtain ⟨L, hL, rfl⟩ := hu
    unfold nilA at hq
    split at hq <;> try exact hq.elim
    rename_i d hd
    obtain ⟨L', hL', hat, hw⟩ := arrOf_sound hs hd
    obtain rfl := Option.some.inj (hL.symm.trans hL')
    refine ⟨_, .bool (!L.a.isNone), hq (!L.a.isNone) (fun ht => len_of_nil hat hw (by simpa using ht)), V_c _ _, fun x y w' => ?_⟩
    rw [show L.val = .slice L.a L.len L.cap from rfl, eqGuard_at_slice']
    exact (run_slice_nil hT _ _ _ w').2
  · split at hn
    · split at hn
      · split at hn
        · rename_i e1 e2 e3
          cases hn
          subst e1 e2
          obtain rfl := V_two hu
          obtain rfl := V_two hv
          exact ⟨_, _, hq, V_c _ _, fun x y w' => (two_sound e3 _ _ _ _ _ _ x y w').1⟩
        · cases hn
      · cases hn
    · cases hn
  · split at hn
    · split at hn
      · split at hn
        · rename_i e1 e2 e3
          cases hn
          subst e1 e2
          obtain rfl := V_two hu
          obtain rfl := V_two hv
          exact ⟨_, _, hq, V_c _ _, fun x y w' => (two_sound e3 _ _ _ _ _ _ x y w').2⟩
        · cases hn
      · cases hn
    · cases hn
  · split at hn
    · rename_i r hr
      cases hn
      exact ⟨_, _, hq, V_c _ _, fun x y w' => (many_sound hr hu hv x y w').1⟩
    · cases hn
  · split at hn
    · rename_i r hr
      cases hn
      exact ⟨_, _, hq, V_c _ _, fun x y w' => (many_sound hr hu hv x y w').2⟩
    · cases hn

theorem mapOf_sound (hs : SatH K θ h nx w) {n : Nat} {ks vs : Col} (hm : mapOf h n = some (ks, vs)) {u : Value} (hu : V θ (.m n) u) :
    ∃ b es clock, u = .map (some b) ∧ (∃ L, θ n = some L ∧ L.b = b) ∧ w.heap[b]? = some (.map es clock) ∧ MapIs es clock ks vs := by
  simp only [V] at hu
  obtain ⟨L, hL, rfl⟩ := hu
  unfold mapOf at hm
  split at hm <;> cases hm
  · rename_i hf
    obtain ⟨L', hL', _, es, clock, h1, h2⟩ := hs.res n _ hf
    obtain rfl := Option.some.inj (hL.symm.trans hL')
    exact ⟨L.b, es, clock, rfl, ⟨L, hL, rfl⟩, h1, h2⟩
  · rename_i hf
    obtain ⟨L', hL', _, _, es, clock, h1, h2⟩ := hs.res n _ hf
    obtain rfl := Option.some.inj (hL.symm.trans hL')
    exact ⟨L.b, es, clock, rfl, ⟨L, hL, rfl⟩, h1, h2⟩

theorem run_getObj_map {b : Nat} {es : Array MapEntry} {clock : Nat} {w' : World} (h : w'.heap[b]? = some (.map es clock)) : (getObj b).run P w' = .ok (.map es clock) w' := by
  show (Sem.getObj b Sem.pure).run P w' = _
  simp only [Sem.run, h]

theorem keyKind_cases {kt : Nat} {ks : Col} (hk : keyKind P kt ks = true) : ∃ d, P.underlying kt = some d ∧ (d = .bool ∨ d = .string ∨ ∃ k, d = .int k) := by
  unfold keyKind at hk
  cases hd : P.underlying kt with
  | none => rw [hd] at hk; cases hk
  | some d =>
    rw [hd] at hk
    cases d <;> cases ks <;> simp at hk
    · exact ⟨_, rfl, .inl rfl⟩
    · exact ⟨_, rfl, .inr (.inr ⟨_, rfl⟩)⟩
    · exact ⟨_, rfl, .inr (.inl rfl)⟩

theorem run_checkKey {e : Bool} {kt : Nat} {ks : Col} (hk : keyKind P kt ks = true) (key : Value) (w' : World) : (Instr.checkKey e 10000 kt key).run P w' = .ok () w' := by
  obtain ⟨d, hd, hcs⟩ := keyKind_cases hk
  show (Instr.checkKey e (9999 + 1) kt key).run P w' = _
  unfold Instr.checkKey
  simp only [Sem.run_bind, run_underlying hd, Result.andThen]
  rcases hcs with rfl | rfl | ⟨k, rfl⟩ <;> rfl

theorem run_findKey {kt : Nat} {ks vs : Col} {key : Value} {o : Option Nat} {es : Array MapEntry} {clock : Nat} (hk : keyKind P kt ks = true) (ho : ks.idx key = some o) (hm : MapIs es clock ks vs) (w' : World) :
    (Instr.findKey kt key es.toList).run P w' = .ok (eget es o) w' := by
  obtain ⟨d, hd, _⟩ := keyKind_cases hk
  unfold Instr.findKey
  simp only [Sem.run_bind, run_underlying hd, Result.andThen, (findNow_col hd hk ho hm).1]
  rfl

theorem find_place {kt : Nat} {ks vs : Col} {key : Value} {j : Nat} {es : Array MapEntry} {clock : Nat} (hk : keyKind P kt ks = true) (ho : ks.idx key = some (some j)) (hm : MapIs es clock ks vs) :
    ∃ e, es[j]? = some e ∧ e.key = key ∧ ks.get? j = some key := by
  obtain ⟨d, hd, _⟩ := keyKind_cases hk
  have hj := (findNow_col hd hk ho hm).2 j rfl
  have hjs : j < es.size := by
    rw [hm.size]
    cases ks <;> simp only [Col.get?, Option.map_eq_some_iff] at hj <;> obtain ⟨z, hz, _⟩ := hj <;> exact (List.getElem?_eq_some_iff.1 hz).1
  have he := Array.getElem?_eq_getElem hjs
  refine ⟨_, he, ?_, hj⟩
  have := (hm.at_ j _ he).1
  rw [hj] at this
  exact (Option.some.inj this).symm

theorem zeroOk_sound {vt : Nat} {vs : Col} (hz : zeroOk P vt vs = true) (w' : World) : (zeroValue vt).run P w' = .ok (vs.getAt none) w' := by
  unfold zeroOk at hz
  split at hz <;> try (cases hz; done)
  rename_i i hi
  split at hz <;> try (cases hz; done)
  · rename_i k k' m hzv
    have := of_decide_eq_true hz
    subst this
    simp [zeroValue, run_typeInfo hi, hzv, Col.getAt, oget]
  · rename_i m hzv
    simp [zeroValue, run_typeInfo hi, hzv, Col.getAt, oget]
  · rename_i s m hzv
    have h1 := of_decide_eq_true hz
    have : s = ⟨#[]⟩ := by
      obtain ⟨a⟩ := s
      have h2 : a.toList = [] := h1
      congr 1
      exact Array.ext' h2
    subst this
    simp [zeroValue, run_typeInfo hi, hzv, Col.getAt, oget]

theorem getAt_some {ks vs : Col} {es : Array MapEntry} {clock j : Nat} {e : MapEntry} (hm : MapIs es clock ks vs) (he : es[j]? = some e) : vs.getAt (some j) = e.val := by
  have := (hm.at_ j e he).2
  cases vs <;> simp only [Col.get?] at this <;> simp only [Col.getAt, oget]
  all_goals
    rename_i l
    cases hl : l[j]? with
    | none => rw [hl] at this; cases this
    | some z => rw [hl] at this; simp at this; simp [this]

theorem lookupQ_sound (hs : SatH K θ h nx w) {T : Nat} {ok : Bool} {s t : SV} {u v : Value} {k : SV → Prop} (hu : V θ s u) (hv : V θ t v) (hq : lookupQ P T ok s t h k) :
    ∃ r v', k r ∧ V θ r v' ∧ ∀ w', Rd θ s w w' → (Instr.lookup T u v ok).run P w' = .ok v' w' := by
  unfold lookupQ at hq
  split at hq <;> try exact hq.elim
  rename_i kt vt n key hT hsc
  obtain rfl := V_scal hsc hv
  split at hq <;> try exact hq.elim
  rename_i ks vs hmo
  split at hq <;> try exact hq.elim
  rename_i o ho
  obtain ⟨hc, hk⟩ := cond_false hq
  simp only [Bool.and_eq_true] at hc
  obtain ⟨b, es, clock, rfl, hb0, hb, hm⟩ := mapOf_sound hs hmo hu
  have hlt := (Array.getElem?_eq_some_iff.1 hb).1
  have main : ∀ w', w'.heap[b]? = some (.map es clock) → (Instr.lookup T (.map (some b)) v ok).run P w' = .ok (if ok then .tuple #[vs.getAt o, .bool o.isSome] else vs.getAt o) w' := by
    intro w' hb'
    simp only [Instr.lookup, Sem.run_bind, run_underlying hT, Result.andThen, run_getObj_map hb', Sem.run_pure, run_checkKey hc.1, run_findKey hc.1 ho hm]
    cases o with
    | none =>
      simp only [eget, Sem.run_bind, zeroOk_sound hc.2, Result.andThen, Sem.run_pure]
      cases ok <;> rfl
    | some j =>
      obtain ⟨e, he, _, _⟩ := find_place hc.1 ho hm
      simp only [eget, he, getAt_some hm he]
      cases ok <;> rfl
  cases ok with
  | false =>
    exact ⟨_, _, hk, V_c _ _, fun w' hw' => by rw [main w' (by rw [hw' b hlt (by simpa only [rdB] using hb0)]; exact hb)]; rfl⟩
  | true =>
    refine ⟨_, .tuple #[vs.getAt o, .bool o.isSome], hk, ?_, fun w' hw' => by rw [main w' (by rw [hw' b hlt (by simpa only [rdB] using hb0)]; exact hb)]; rfl⟩
    show V θ (.tup [.c (vs.getAt o), .c (.bool o.isSome)]) _
    simp only [V]
    exact ⟨[vs.getAt o, .bool o.isSome], rfl, by simp [VL, V]⟩

theorem unQ_sound {op : UnOp} {s : SV} {u : Value} {k : SV → Prop} (hu : V θ s u) (hq : unQ op s k) :
    ∃ r v', k r ∧ V θ r v' ∧ ∀ w', (Op.unary op u).run P w' = .ok v' w' := by
  unfold unQ at hq
  split at hq <;> (try simp only [V] at hu) <;> (try subst hu)
  · exact ⟨_, _, hq, V_b _ _, fun w' => rfl⟩
  · exact ⟨_, _, hq, V_c _ _, fun w' => rfl⟩
  · exact ⟨_, _, hq, V_c _ _, fun w' => rfl⟩
  · exact ⟨_, _, hq, V_c _ _, fun w' => rfl⟩
  · exact hq.elim

theorem convQ_sound (hs : SatH K θ h nx w) {src dst : Nat} {s : SV} {u : Value} {k : SV → Prop} (hu : V θ s u) (hq : convQ P src dst s h k) :
    ∃ r v', k r ∧ V θ r v' ∧ ∀ w', Rd θ s w w' → (convert src dst u).run P w' = .ok v' w' := by
  unfold convQ at hq
  split at hq
  · rename_i h1 h2
    simp only [V] at hu; subst hu
    exact ⟨_, _, hq, V_c _ _, fun w' _ => by simp [convert, run_underlying h1, run_underlying h2, Conv.intToInt]⟩
  · rename_i h1 h2
    simp only [V] at hu; subst hu
    exact ⟨_, _, hq, V_c _ _, fun w' _ => by simp [convert, run_underlying h1, run_underlying h2]⟩
  · rename_i e h1 h2
    split at hq <;> try exact hq.elim
    rename_i h3
    simp only [V] at hu; subst hu
    refine ⟨_, _, hq, V_c _ _, fun w' _ => ?_⟩
    rw [run_convert_bytes_string w' src dst e none 0 0 h1 h3 h2]
    rfl
  · rename_i e n h1 h2
    split at hq <;> try exact hq.elim
    rename_i xs h3 h4
    simp only [V] at hu
    obtain ⟨L, hL, rfl⟩ := hu
    obtain ⟨L', hL', hd, hw⟩ := arrOf_sound hs h4
    obtain rfl := Option.some.inj (hL.symm.trans hL')
    refine ⟨_, _, hq, V_c _ _, fun w' hb => ?_⟩
    obtain ⟨e1, e2, e3⟩ := hd
    rw [show L.val = .slice L.a L.len L.cap from rfl, run_convert_bytes_string w' src dst e _ _ _ h1 h3 h2]
    exact run_bytes_string hw e1 e2 (fun i z hz => by rw [cell_eq (hb _ (lt_of_cell (e3 i z hz)) ⟨L, hL, by have := (List.getElem?_eq_some_iff.1 hz).1; omega, rfl⟩)]; exact e3 i z hz)
  · exact hq.elim

theorem extractQ_sound {i : Nat} {s : SV} {u : Value} {k : SV → Prop} (hu : V θ s u) (hq : extractQ i s k) :
    ∃ r v', k r ∧ V θ r v' ∧ ∀ w', (Instr.extract u i).run P w' = .ok v' w' := by
  unfold extractQ at hq
  split at hq <;> try exact hq.elim
  split at hq <;> try exact hq.elim
  rename_i r hr
  simp only [V] at hu
  obtain ⟨cs, rfl, hl⟩ := hu
  obtain ⟨v, h1, h2⟩ := VL_get hl hr
  exact ⟨r, v, hq, h2, fun w' => by simp [Instr.extract, h1]⟩

theorem fieldQ_sound {T f : Nat} {s : SV} {u : Value} {k : SV → Prop} (hu : V θ s u) (hq : fieldQ P T f s k) :
    ∃ r v', k r ∧ V θ r v' ∧ ∀ w', (Instr.field T u f).run P w' = .ok v' w' := by
  unfold fieldQ at hq
  split at hq <;> try exact hq.elim
  rename_i fs l hT
  split at hq <;> try exact hq.elim
  rename_i fl hf
  split at hq <;> try exact hq.elim
  rename_i r hr
  simp only [V] at hu
  obtain ⟨cs, rfl, hl⟩ := hu
  unfold ldBlk at hr
  split at hr
  · rename_i s hk
    cases hc : Nat.ble (fl.offset + s) l.length with
    | false => rw [hc] at hr; cases hr
    | true =>
      rw [hc] at hr; cases hr
      refine ⟨_, .agg ((cs.drop fl.offset).take s).toArray, hq, by simp only [V]; exact ⟨_, rfl, VL_take s (VL_drop _ hl)⟩, fun w' => ?_⟩
      obtain ⟨k1, k2⟩ := run_kind hk w'
      simp [Instr.field, run_underlying hT, hf, asAgg, part, k1, k2]
  · rename_i s hk
    obtain ⟨v, h1, h2⟩ := VL_get hl hr
    refine ⟨_, v, hq, h2, fun w' => ?_⟩
    obtain ⟨k1, _⟩ := run_kind hk w'
    simp [Instr.field, run_underlying hT, hf, asAgg, part, k1, h1]
  · cases hr

theorem indexAddrQ_sound (hs : SatH K θ h nx w) {T : Nat} {s t : SV} {u v : Value} {k : SV → Prop} (hu : V θ s u) (hv : V θ t v) (hq : indexAddrQ P T s t h k) :
    ∃ r v', k r ∧ V θ r v' ∧ ∀ w', (Instr.indexAt T u v).run P w' = .ok v' w' := by
  unfold indexAddrQ at hq
  split at hq
  · rename_i e n kk z hT
    split at hq <;> try exact hq.elim
    rename_i d g es hd hk
    obtain ⟨hc, hq1⟩ := cond_false hq
    obtain ⟨⟨hz0, hz1⟩, hq2⟩ := hq1
    simp only [V] at hu hv
    obtain ⟨L, hL, rfl⟩ := hu
    subst hv
    obtain ⟨L', hL', hat, hw⟩ := arrOf_sound hs hd
    obtain rfl := Option.some.inj (hL.symm.trans hL')
    obtain ⟨l1, l2⟩ := D.at_len hat
    have hlt : z.toNat < L.len := by omega
    have ha : L.a = some ⟨L.b, L.o, none⟩ := hw.resolve_left (by omega)
    refine ⟨_, .pointer (some ⟨L.b, L.o + (z.toNat * es + 0), none⟩), hq2, by simp only [V]; exact ⟨L, hL, hlt, rfl⟩, fun w' => ?_⟩
    obtain ⟨_, k2⟩ := run_kind hk w'
    have hin : 0 ≤ z ∧ z < (L.len : Int) := ⟨hz0, by omega⟩
    simp only [Loc.val, ha]
    simp [Instr.indexAt, asIntOf, run_underlying hT, k2, hin, add_mk]
  · rename_i e n m kk z hT
    split at hq <;> try exact hq.elim
    rename_i g es hk
    simp only [V] at hu hv
    obtain ⟨L, hL, rfl⟩ := hu
    subst hv
    obtain ⟨⟨hz0, hz1⟩, hq2⟩ := hq
    refine ⟨_, _, hq2, by simp only [V]; exact ⟨L, hL, rfl⟩, fun w' => ?_⟩
    obtain ⟨_, k2⟩ := run_kind hk w'
    simp [Instr.indexAt, asIntOf, run_underlying hT, k2, hz0, hz1, add_mk]
  · rename_i len e n o kk z hT
    split at hq <;> try exact hq.elim
    rename_i g es hk
    simp only [V] at hu hv
    obtain ⟨L, hL, rfl⟩ := hu
    subst hv
    obtain ⟨⟨hz0, hz1⟩, hq2⟩ := hq
    refine ⟨_, _, hq2, by simp only [V]; exact ⟨L, hL, rfl⟩, fun w' => ?_⟩
    obtain ⟨_, k2⟩ := run_kind hk w'
    simp [Instr.indexAt, asIntOf, run_underlying hT, k2, hz0, hz1, Instr.sureAddr, add_mk, Nat.add_assoc]
  · rename_i len e n kk z hT
    split at hq <;> try exact hq.elim
    rename_i g es T' d hk hf
    obtain ⟨hc, hq1⟩ := cond_false hq
    obtain ⟨⟨hz0, hz1, hlen⟩, hq2⟩ := hq1
    have e1 := nbeq hc
    subst e1
    simp only [V] at hu hv
    obtain ⟨L, hL, hLL, rfl⟩ := hu
    subst hv
    have ho : L.o = 0 := by rw [hLL]; rfl
    obtain ⟨L', hL', hat, hw, _⟩ := hs.res n _ hf
    obtain rfl := Option.some.inj (hL.symm.trans hL')
    have l1 := (D.at_len hat).1
    refine ⟨_, .pointer (some ⟨L.b, L.o + (z.toNat * 1 + 0), none⟩), hq2, by simp only [V]; exact ⟨L, hL, by omega, rfl⟩, fun w' => ?_⟩
    obtain ⟨_, k2⟩ := run_kind hk w'
    simp [Instr.indexAt, asIntOf, run_underlying hT, k2, hz0, hz1, Instr.sureAddr, add_mk, ho]
  · exact hq.elim

theorem indexQ_sound {T : Nat} {s t : SV} {u v : Value} {k : SV → Prop} (hu : V θ s u) (hv : V θ t v) (hq : indexQ P T s t k) :
    ∃ r v', k r ∧ V θ r v' ∧ ∀ w', (Instr.index T u v).run P w' = .ok v' w' := by
  unfold indexQ at hq
  split at hq <;> try exact hq.elim
  rename_i str kk z hT
  obtain ⟨⟨hz0, hz1⟩, hq2⟩ := hq
  simp only [V] at hu hv
  subst hu hv
  refine ⟨_, _, hq2, V_c _ _, fun w' => ?_⟩
  have hlt : z.toNat < str.size := by omega
  have hlt' : z.toNat < str.data.toList.length := by simpa using hlt
  simp [Instr.index, asIntOf, run_underlying hT, hz0, ByteArray.getElem?_lt' str _ hlt, List.getD, List.getElem?_eq_getElem hlt']
  rfl

theorem lenQ_sound (hs : SatH K θ h nx w) {T : Option Nat} {s : SV} {u : Value} {k : SV → Prop} (hu : V θ s u) (hq : lenQ P T s h k) :
    ∃ r v', k r ∧ V θ r v' ∧ ∀ (ts : Array Nat) (ty : Nat) w', Rd θ s w w' ∨ (∀ n, s ≠ .m n) → ts[0]? = T → (Builtin.len_ ts ty #[u]).run P w' = .ok v' w' := by
  unfold lenQ at hq
  split at hq <;> try exact hq.elim
  rename_i t
  split at hq
  · rename_i hT
    simp only [V] at hu; subst hu
    exact ⟨_, _, hq, V_c _ _, fun ts ty w' hrd ht => by simp [Builtin.len_, ht, run_underlying hT, goInt]⟩
  · rename_i hT
    simp only [V] at hu; subst hu
    exact ⟨_, _, hq, V_c _ _, fun ts ty w' hrd ht => by simp [Builtin.len_, ht, run_underlying hT, goInt]⟩
  · rename_i n m hT
    simp only [V] at hu
    obtain ⟨L, hL, rfl⟩ := hu
    exact ⟨_, _, hq, V_c _ _, fun ts ty w' hrd ht => by simp [Builtin.len_, ht, run_underlying hT, goInt]⟩
  · rename_i hT
    simp only [V] at hu; subst hu
    exact ⟨_, _, hq, V_c _ _, fun ts ty w' _ ht => by simp [Builtin.len_, ht, run_underlying hT, goInt]⟩
  · rename_i n hT
    split at hq <;> try exact hq.elim
    rename_i ks vs hmo
    obtain ⟨b, es, clock, rfl, hb0, hb, hm⟩ := mapOf_sound hs hmo hu
    have hlt := (Array.getElem?_eq_some_iff.1 hb).1
    refine ⟨_, _, hq, V_c _ _, fun ts ty w' hrd ht => ?_⟩
    have hb' : w'.heap[b]? = some (.map es clock) := by
      rcases hrd with hrd | hrd
      · rw [hrd b hlt (by simpa only [rdB] using hb0)]; exact hb
      · exact absurd rfl (hrd n)
    simp [Builtin.len_, ht, run_underlying hT, run_getObj_map hb', goInt, hm.size]
  · rename_i n hT
    split at hq <;> try exact hq.elim
    rename_i d hd
    simp only [V] at hu
    obtain ⟨L, hL, rfl⟩ := hu
    obtain ⟨L', hL', hat, hw⟩ := arrOf_sound hs hd
    obtain rfl := Option.some.inj (hL.symm.trans hL')
    refine ⟨_, _, hq, V_c _ _, fun ts ty w' hrd ht => ?_⟩
    rw [← (D.at_len hat).1]
    simp [Builtin.len_, ht, run_underlying hT, goInt, Loc.val]
  · exact hq.elim
theorem capQ_sound {T : Option Nat} {s : SV} {u : Value} {k : SV → Prop} (hu : V θ s u) (hq : capQ P T s k) :
    ∃ r v', k r ∧ V θ r v' ∧ ∀ (ts : Array Nat) (ty : Nat) w', ts[0]? = T → (Builtin.cap_ ts ty #[u]).run P w' = .ok v' w' := by
  unfold capQ at hq
  split at hq <;> try exact hq.elim
  split at hq <;> try exact hq.elim
  rename_i hT
  simp only [V] at hu; subst hu
  exact ⟨_, _, hq, V_c _ _, fun ts ty w' ht => by simp [Builtin.cap_, ht, run_underlying hT, goInt]⟩
theorem glFind_sound (hs : SatH K θ h nx w) {n T : Nat} {kk : IntKind} {xs : List Int} (hq : glFind h n = some (T, kk, xs)) : Free K θ h n ∧ GCell w n kk xs := by
  unfold glFind at hq
  split at hq <;> try (cases hq; done)
  rename_i m _
  split at hq <;> try (cases hq; done)
  rename_i b T' k' xs' hf
  cases hb : Nat.beq b n with
  | false => rw [hb] at hq; cases hq
  | true =>
    rw [hb] at hq
    cases hq
    obtain rfl := Nat.eq_of_beq_eq_true hb
    obtain ⟨L, _, _, h1, h2⟩ := hs.res m _ hf
    exact ⟨h1, h2⟩
theorem indexG_sound (hs : SatH K θ h nx w) {T n : Nat} {t : SV} {u v : Value} {k : HK} (hu : V θ (.g n) u) (hv : V θ t v) (hq : indexG P T n t h nx k) :
    ∃ r h' nx' θ' v', k r h' nx' ∧ Grows K θ θ' nx nx' h' w ∧ V θ' r v' ∧ ∀ w', (Instr.indexAt T u v).run P w' = .ok v' w' := by
  unfold indexG at hq
  split at hq <;> try exact hq.elim
  rename_i len e kk z T' k' xs hT hg
  split at hq <;> try exact hq.elim
  rename_i g es hk
  obtain ⟨hc, hq1⟩ := cond_false hq
  obtain ⟨⟨hz0, hz1, hlen⟩, hq2⟩ := hq1
  have e1 := nbeq hc
  subst e1
  simp only [V] at hu hv
  subst hu hv
  obtain ⟨h1, h2⟩ := glFind_sound hs hg
  have hlt : n < w.heap.size := h2.1
  have hat : (D.ints k' xs).at (Free K θ h) w ⟨some ⟨n, 0, none⟩, xs.length, xs.length⟩ := ⟨rfl, Nat.le_refl _, fun i y hy => by
    show w.cell? ⟨n, 0 + i, none⟩ = _
    rw [Nat.zero_add]; exact h2.2 i y hy⟩
  refine ⟨_, _, _, _, .pointer (some ⟨n, 0 + (z.toNat * 1 + 0), none⟩), hq2, Grows.add_ro (L := ⟨some ⟨n, 0, none⟩, xs.length, xs.length⟩) hs hat (.inr rfl) (fun _ => ⟨h1, hlt⟩), by simp only [V]; exact ⟨_, Th.add_self _ _ _, by simp only; omega, rfl⟩, fun w' => ?_⟩
  obtain ⟨_, k2⟩ := run_kind hk w'
  simp [Instr.indexAt, asIntOf, run_underlying hT, k2, hz0, hz1, Instr.sureAddr, add_mk]
end
end Go.Z

/- Slices of slices, structs built; every operation that only reads. -/
namespace Go.Z
open Go.RowKit

section
variable {P : Program} {K : Ctx} {θ : Th} {h : List (Nat × R)} {nx : Nat} {w : World}

theorem freezeH_sound (hs : SatH K θ h nx w) {n : Nat} {d : D} (ha : arrOf h n = some d) :
    SatH K θ (freezeH h n) nx w ∧ ∃ L, θ n = some L ∧ d.at (Free K θ (freezeH h n)) w L ∧ L.wf ∧ L.inn (Free K θ (freezeH h n)) w := by
  unfold arrOf at ha
  split at ha <;> cases ha
  · rename_i hf
    have e : freezeH h n = h := by simp [freezeH, hf]
    rw [e]
    obtain ⟨L, h1, h2, h3, h4⟩ := hs.res n _ hf
    exact ⟨hs, L, h1, h2, h3, h4⟩
  · rename_i T hf
    have e : freezeH h n = (n, .ro d) :: h := by simp [freezeH, hf]
    rw [e]
    have hs' := hs.freeze hf
    obtain ⟨L, h1, h2, h3, h4⟩ := hs'.res n (.ro d) (by rw [hfind_cons, if_pos rfl])
    exact ⟨hs', L, h1, h2, h3, h4⟩

theorem run_sliceBounds_ok (w' : World) (len cap : Nat) (lo hi : Option Value) (l m : Nat) (hl : match lo with | none => l = 0 | some v => ∃ kk, v = .int kk (l : Int)) (hm : match hi with | none => m = len | some v => ∃ kk, v = .int kk (m : Int))
    (hlm : l ≤ m) (hmc : m ≤ cap) : (Instr.sliceBounds true len cap lo hi none).run P w' = .ok (l, m, cap) w' := by
  unfold Instr.sliceBounds
  cases lo with
  | none =>
    cases hi with
    | none => simp only at hl hm; subst hl hm; rfl
    | some v =>
      obtain ⟨kk, rfl⟩ := hm
      simp only at hl; subst hl
      simp [run_sliceBound, hmc]
  | some u =>
    obtain ⟨kk, rfl⟩ := hl
    cases hi with
    | none => simp only at hm; subst hm; simp [run_sliceBound, hlm]
    | some v => obtain ⟨kk', rfl⟩ := hm; simp [run_sliceBound, hlm, hmc]

theorem run_slice_sub {T e es : Nat} {g : Bool} (hT : P.underlying T = some (.slice e)) (hk : kindT P e = some (g, es)) (L : Loc) (lo hi : Option Value) (l m : Nat)
    (hl : match lo with | none => l = 0 | some v => ∃ kk, v = .int kk (l : Int)) (hm : match hi with | none => m = L.len | some v => ∃ kk, v = .int kk (m : Int))
    (hlm : l ≤ m) (hmc : m ≤ L.cap) (w' : World) : (Instr.sliceAt T L.val lo hi none).run P w' = .ok (L.sub l m L.cap es).val w' := by
  obtain ⟨_, k2⟩ := run_kind hk w'
  simp [Instr.sliceAt, run_underlying hT, Instr.slice, Loc.val, run_sliceBounds_ok w' L.len L.cap lo hi l m hl hm hlm hmc, k2, Loc.sub]

theorem run_slice_str {T : Nat} (hT : P.underlying T = some .string) (s : ByteArray) (lo hi : Option Value) (l m : Nat)
    (hl : match lo with | none => l = 0 | some v => ∃ kk, v = .int kk (l : Int)) (hm : match hi with | none => m = s.size | some v => ∃ kk, v = .int kk (m : Int))
    (hlm : l ≤ m) (hmc : m ≤ s.size) (w' : World) : (Instr.sliceAt T (.string s) lo hi none).run P w' = .ok (.string (s.extract l m)) w' := by
  have : (Instr.sliceBounds false s.size s.size lo hi none).run P w' = .ok (l, m, s.size) w' := by
    unfold Instr.sliceBounds
    cases lo with
    | none =>
      cases hi with
      | none => simp only at hl hm; subst hl hm; rfl
      | some v =>
        obtain ⟨kk, rfl⟩ := hm
        simp only at hl; subst hl
        simp [run_sliceBound, hmc]
    | some u =>
      obtain ⟨kk, rfl⟩ := hl
      cases hi with
      | none => simp only at hm; subst hm; simp [run_sliceBound, hlm]
      | some v => obtain ⟨kk', rfl⟩ := hm; simp [run_sliceBound, hlm, hmc]
  simp [Instr.sliceAt, run_underlying hT, Instr.slice, this]

theorem sliceQ_sound (hs : SatH K θ h nx w) {T : Nat} {s : SV} {u : Value} {lo hi : Option SV} {vlo vhi : Option Value} {k : HK} (hu : V θ s u)
    (hlo : match lo, vlo with | none, none => True | some s, some v => V θ s v | _, _ => False)
    (hhi : match hi, vhi with | none, none => True | some s, some v => V θ s v | _, _ => False) (hq : sliceQ P T s lo hi h nx k) :
    ∃ r h' nx' θ' v', k r h' nx' ∧ Grows K θ θ' nx nx' h' w ∧ V θ' r v' ∧ ∀ w', (Instr.sliceAt T u vlo vhi none).run P w' = .ok v' w' := by
  unfold sliceQ at hq
  split at hq
  · rename_i e n hT
    split at hq <;> try exact hq.elim
    rename_i d g es hd hk
    obtain ⟨hc, hq1⟩ := cond_false hq
    have hes := nbeq hc
    simp only [V] at hu
    obtain ⟨L, hL, rfl⟩ := hu
    obtain ⟨L1, hL1, hat1, hw1⟩ := arrOf_sound hs hd
    obtain rfl := Option.some.inj (hL.symm.trans hL1)
    obtain ⟨len1, len2⟩ := D.at_len hat1
    obtain ⟨hs', L2, hL2, hat, hw, hin⟩ := freezeH_sound hs hd
    obtain rfl := Option.some.inj (hL.symm.trans hL2)
    -- what is shown of each of the three forms
    have key : ∀ (l m : Nat) (d' : D), l ≤ m → m ≤ L.len → d'.at (Free K θ (freezeH h n)) w (L.sub l m L.cap es) →
        k (.a nx) ((nx, .ro d') :: freezeH h n) (nx + 1) →
        (∀ w', (Instr.sliceAt T L.val vlo vhi none).run P w' = .ok (L.sub l m L.cap es).val w') →
        ∃ r h' nx' θ' v', k r h' nx' ∧ Grows K θ θ' nx nx' h' w ∧ V θ' r v' ∧ ∀ w', (Instr.sliceAt T L.val vlo vhi none).run P w' = .ok v' w' := by
      intro l m d' hlm hml hd' hk' hrun
      refine ⟨_, _, _, _, _, hk', Grows.add_ro hs' hd' (Loc.sub_wf hw (Nat.le_refl _)) (Loc.sub_inn hw hin (Nat.le_refl _) (by omega) hml), ?_, hrun⟩
      simp only [V]
      exact ⟨_, Th.add_self _ _ _, rfl⟩
    split at hq1
    · cases vlo <;> cases vhi <;> simp only at hlo hhi
      refine ⟨_, _, _, θ, _, hq1, .refl hs, by simp only [V]; exact ⟨L, hL, rfl⟩, fun w' => ?_⟩
      rw [run_slice_sub hT hk L none none 0 L.len rfl rfl (by omega) len2 w']
      simp only [Loc.val]
      congr 2
      show (if L.cap = 0 then L.a else L.a.map (·.add (0 * es))) = L.a
      split
      · rfl
      · cases L.a <;> simp [Addr.add_zero']
    · rename_i kl l
      cases vlo <;> simp only at hlo
      cases vhi <;> simp only at hhi
      rename_i ul
      simp only [V] at hlo; subst hlo
      have hsw : (∃ T' kk xs, hfind h n = some (.own T' (.ints kk xs)) ∧ (0 ≤ l ∧ l ≤ (xs.length : Int)) ∧ k (.vw n l.toNat) h nx) ∨ ((0 ≤ l ∧ l ≤ (d.len : Int)) ∧ k (.a nx) ((nx, .ro (d.dropD l.toNat)) :: freezeH h n) (nx + 1)) := by
        unfold viewT at hq1
        split at hq1
        · rename_i T' kk xs hf
          exact hq1.imp (fun h => ⟨T', kk, xs, hf, h.1, h.2⟩) id
        · exact .inr hq1
      rcases hsw with ⟨T', kk, xs, hf, ⟨c1, c2⟩, hk'⟩ | hq1
      · have hdd : d = .ints kk xs := by unfold arrOf at hd; rw [hf] at hd; cases hd; rfl
        subst hdd
        have hes1 : es = 1 := hes
        subst hes1
        have hxl : L.len = xs.length := len1
        have hle : l.toNat ≤ L.len := by omega
        have hle' : l = (l.toNat : Int) := by omega
        refine ⟨_, _, _, θ, _, hk', .refl hs, by simp only [V]; exact ⟨L, hL, hle, rfl⟩, fun w' => ?_⟩
        have hr := run_slice_sub hT hk L (some (.int kl l)) none l.toNat L.len ⟨kl, by rw [← hle']⟩ rfl hle len2 w'
        rw [hr]
        simp [Loc.sub, Loc.val]
      obtain ⟨⟨c1, c2⟩, hq2⟩ := hq1
      have hle : l.toNat ≤ L.len := by omega
      have hle' : l = (l.toNat : Int) := by omega
      refine key l.toNat L.len _ hle (Nat.le_refl _) (D.dropD_at (by omega) (D.sub_at hw hat hes (Nat.le_refl _) hle len2 (Nat.le_refl _))) hq2 fun w' => ?_
      exact run_slice_sub hT hk L (some (.int kl l)) none l.toNat L.len ⟨kl, by rw [← hle']⟩ rfl hle len2 w'
    · rename_i km m
      cases vlo <;> simp only at hlo
      cases vhi <;> simp only at hhi
      rename_i um
      simp only [V] at hhi; subst hhi
      have own : ∀ T' d', hfind h n = some (.own T' d') → m = 0 → k (.a nx) ((nx, .own T' (d.takeD 0)) :: (n, .dead) :: h) (nx + 1) →
          ∃ r h' nx' θ' v', k r h' nx' ∧ Grows K θ θ' nx nx' h' w ∧ V θ' r v' ∧ ∀ w', (Instr.sliceAt T L.val none (some (.int km m)) none).run P w' = .ok v' w' := by
        intro T' d' hf hm hk'
        have hdd : d = d' := by unfold arrOf at hd; rw [hf] at hd; cases hd; rfl
        subst hdd
        have hnx := hs.fresh nx (Nat.le_refl _)
        have hrun := fun w' => run_slice_sub hT hk L none (some (.int km m)) 0 0 rfl ⟨km, by rw [hm]; rfl⟩ (Nat.le_refl _) (Nat.zero_le _) w'
        have hat0 : ∀ X', (d.takeD 0).at X' w (L.sub 0 0 L.cap es) := by
          intro X'
          cases d with
          | v x => exact hat1.elim
          | ptr _ _ _ => exact hat1.elim
          | fn _ _ _ _ => exact hat1.elim
          | map _ _ => exact hat1.elim
          | ints kk xs => exact ⟨by simp [Loc.sub], by simp [Loc.sub], fun i z hz => by simp at hz⟩
          | recs es n f => exact ⟨by simp [Loc.sub], by simp [Loc.sub], fun i hi => by omega⟩
        have hes0 : (d.takeD 0).es = d.es := by cases d <;> rfl
        have hwf := Loc.sub_wf (l := 0) (h := 0) (m := L.cap) (es := es) hw1 (Nat.le_refl _)
        refine ⟨_, _, _, θ.add nx (L.sub 0 0 L.cap es), _, hk', ⟨?_, Th.add_ext hnx _, by omega, fun m hm => Th.add_other _ _ (by omega)⟩, by simp only [V]; exact ⟨_, Th.add_self _ _ _, rfl⟩, hrun⟩
        by_cases hcap : L.cap = 0
        · exact (hs.kill ⟨L, hL⟩).add_new (Below.refl _ _) (fun ho => absurd (show (L.sub 0 0 L.cap es).cap = 0 by simp [Loc.sub, hcap]) ho) (fun θ' X' _ _ _ => ⟨hat0 X', hwf, fun hne => absurd (show (L.sub 0 0 L.cap es).cap = 0 by simp [Loc.sub, hcap]) hne⟩)
        · obtain ⟨a1, a2, a3⟩ := Loc.sub_ne (l := 0) (h := 0) (m := L.cap) (es := es) hw1 (Nat.le_refl _) (by omega)
          obtain ⟨L3, hL3, _, _, hown⟩ := hs.res n _ hf
          obtain rfl := Option.some.inj (hL.symm.trans hL3)
          obtain ⟨cs, c1, c2⟩ := hown hcap
          refine hs.move hf hL hcap a2 (by simpa [Loc.sub] using hcap) rfl rfl rfl rfl (fun _ _ => rfl) (fun X' _ => ⟨hat0 X', hwf, fun _ => ⟨cs, by rw [a2]; exact c1, ?_⟩⟩)
          rw [a3, hes0]
          simpa [Loc.sub] using c2
      have hsw : (∃ T' d', hfind h n = some (.own T' d') ∧ m = 0 ∧ k (.a nx) ((nx, .own T' (d.takeD 0)) :: (n, .dead) :: h) (nx + 1)) ∨ ((0 ≤ m ∧ m ≤ (d.len : Int)) ∧ k (.a nx) ((nx, .ro (d.takeD m.toNat)) :: freezeH h n) (nx + 1)) := by
        unfold ownT at hq1
        split at hq1
        · rename_i T' d' hf
          rw [sw_iff] at hq1
          by_cases hm : m = 0
          · exact .inl ⟨T', d', hf, hm, hq1.1 (by simpa using hm)⟩
          · exact .inr (hq1.2 (by simpa using hm))
        · exact .inr hq1
      rcases hsw with ⟨T', d', e1, e2, e3⟩ | hq1
      · exact own T' d' e1 e2 e3
      obtain ⟨⟨c1, c2⟩, hq2⟩ := hq1
      have hle : m.toNat ≤ L.len := by omega
      have hle' : m = (m.toNat : Int) := by omega
      refine key 0 m.toNat _ (Nat.zero_le _) hle (D.takeD_at (D.sub_at (h := m.toNat) hw hat hes (Nat.le_refl _) (Nat.zero_le _) (by omega) hle)) hq2 fun w' => ?_
      exact run_slice_sub hT hk L none (some (.int km m)) 0 m.toNat rfl ⟨km, by rw [← hle']⟩ (Nat.zero_le _) (by omega) w'
    · rename_i kl l km m
      cases vlo <;> simp only at hlo
      cases vhi <;> simp only at hhi
      rename_i ul um
      obtain ⟨⟨c1, c2, c3⟩, hq2⟩ := hq1
      simp only [V] at hlo hhi; subst hlo hhi
      have hle : m.toNat ≤ L.len := by omega
      have hle' : m = (m.toNat : Int) := by omega
      have hll' : l = (l.toNat : Int) := by omega
      have hlm : l.toNat ≤ m.toNat := by omega
      refine key l.toNat m.toNat _ hlm hle (D.sub_at hw hat hes (Nat.le_refl _) hlm (by omega) hle) hq2 fun w' => ?_
      exact run_slice_sub hT hk L (some (.int kl l)) (some (.int km m)) l.toNat m.toNat ⟨kl, by rw [← hll']⟩ ⟨km, by rw [← hle']⟩ hlm (by omega) w'
    · exact hq1.elim
  · rename_i e hT
    split at hq <;> try exact hq.elim
    rename_i gk km m hk
    obtain ⟨g, es⟩ := gk
    cases vlo <;> simp only at hlo
    cases vhi <;> simp only at hhi
    simp only [V] at hu hhi; subst hu hhi
    obtain ⟨rfl, hk'⟩ := hq
    refine ⟨_, _, _, θ, .slice none 0 0, hk', .refl hs, by simp only [V], fun w' => ?_⟩
    exact run_slice_sub hT hk ⟨none, 0, 0⟩ none (some (.int km 0)) 0 0 rfl ⟨km, rfl⟩ (Nat.le_refl _) (Nat.le_refl _) w'
  · rename_i str hT
    simp only [V] at hu; subst hu
    split at hq
    · cases vlo <;> cases vhi <;> simp only at hlo hhi
      exact ⟨_, _, _, θ, _, hq, .refl hs, V_c _ _, fun w' => run_slice_str hT str none none 0 str.size rfl rfl (Nat.zero_le _) (Nat.le_refl _) w'⟩
    · rename_i kl l
      cases vlo <;> simp only at hlo
      cases vhi <;> simp only at hhi
      obtain ⟨⟨c1, c2⟩, hq2⟩ := hq
      simp only [V] at hlo; subst hlo
      exact ⟨_, _, _, θ, _, hq2, .refl hs, V_c _ _, fun w' => run_slice_str hT str (some (.int kl l)) none l.toNat str.size ⟨kl, by rw [Int.toNat_of_nonneg c1]⟩ rfl (by omega) (Nat.le_refl _) w'⟩
    · rename_i km m
      cases vlo <;> simp only at hlo
      cases vhi <;> simp only at hhi
      obtain ⟨⟨c1, c2⟩, hq2⟩ := hq
      simp only [V] at hhi; subst hhi
      exact ⟨_, _, _, θ, _, hq2, .refl hs, V_c _ _, fun w' => run_slice_str hT str none (some (.int km m)) 0 m.toNat rfl ⟨km, by rw [Int.toNat_of_nonneg c1]⟩ (Nat.zero_le _) (by omega) w'⟩
    · rename_i kl l km m
      cases vlo <;> simp only at hlo
      cases vhi <;> simp only at hhi
      obtain ⟨⟨c1, c2, c3⟩, hq2⟩ := hq
      simp only [V] at hlo hhi; subst hlo hhi
      exact ⟨_, _, _, θ, _, hq2, .refl hs, V_c _ _, fun w' => run_slice_str hT str (some (.int kl l)) (some (.int km m)) l.toNat m.toNat ⟨kl, by rw [Int.toNat_of_nonneg c1]⟩ ⟨km, by rw [Int.toNat_of_nonneg (by omega)]⟩ (by omega) (by omega) w'⟩
    · exact hq.elim
  · exact hq.elim

theorem run_slice00 {T e es : Nat} {g : Bool} (hT : P.underlying T = some (.slice e)) (hk : kindT P e = some (g, es)) (a : Option Addr) (len cap : Nat) (k1 k2 : IntKind) (w' : World) :
    (Instr.sliceAt T (.slice a len cap) none (some (.int k1 0)) (some (.int k2 0))).run P w' = .ok (.slice a 0 0) w' := by
  obtain ⟨_, k3⟩ := run_kind hk w'
  have h1 : (Instr.sliceBounds true len cap none (some (.int k1 0)) (some (.int k2 0))).run P w' = .ok (0, 0, 0) w' := by
    simp [Instr.sliceBounds, run_sliceBound]
  simp [Instr.sliceAt, run_underlying hT, Instr.slice, h1, k3]

theorem slice0Q_sound (hs : SatH K θ h nx w) {T : Nat} {s m c : SV} {u vm vc : Value} {k : HK} (hu : V θ s u) (hm : V θ m vm) (hc : V θ c vc) (hq : slice0Q P T s m c h nx k) :
    ∃ r h' nx' θ' v', k r h' nx' ∧ Grows K θ θ' nx nx' h' w ∧ V θ' r v' ∧ ∀ w', (Instr.sliceAt T u none (some vm) (some vc)).run P w' = .ok v' w' := by
  unfold slice0Q at hq
  split at hq <;> try exact hq.elim
  rename_i e k1 k2 hT
  simp only [V] at hm hc
  subst hm hc
  split at hq
  · split at hq <;> try exact hq.elim
    rename_i gk hk
    obtain ⟨g, es⟩ := gk
    simp only [V] at hu; subst hu
    exact ⟨_, _, _, θ, _, hq, .refl hs, by simp only [V], fun w' => run_slice00 hT hk _ _ _ _ _ w'⟩
  · rename_i n
    split at hq <;> try exact hq.elim
    rename_i d gk hd hk
    obtain ⟨g, es⟩ := gk
    simp only [V] at hu
    obtain ⟨L, hL, rfl⟩ := hu
    obtain ⟨L1, hL1, hat, hw⟩ := arrOf_sound hs hd
    have hz : ∀ X', (d.takeD 0).at X' w { a := L.a, len := 0, cap := 0 } := by
      intro X'
      cases d with
      | v x => exact hat.elim
      | ptr _ _ _ => exact hat.elim
      | fn _ _ _ _ => exact hat.elim
      | map _ _ => exact hat.elim
      | ints kk xs => exact ⟨by simp, by simp, fun i z hz => by simp at hz⟩
      | recs es n f => exact ⟨by simp, by simp, fun i hi => by omega⟩
    refine ⟨_, _, _, θ.add nx { a := L.a, len := 0, cap := 0 }, _, hq, ⟨?_, Th.add_ext (hs.fresh nx (Nat.le_refl _)) _, by omega, fun n hn => Th.add_other _ _ (by omega)⟩,
      by simp only [V]; exact ⟨_, Th.add_self _ _ _, rfl⟩, fun w' => run_slice00 hT hk _ _ _ _ _ w'⟩
    refine hs.add_new (Below.refl _ _) (fun ho => absurd rfl ho) (fun θ' X' _ _ _ => ⟨hz X', .inl rfl, fun hne => absurd rfl hne⟩)
  · exact hq.elim

/-! Structs built of parts -/
theorem splice_foldl : ∀ (cs : List Value) (off : Nat) (arr : Array Value), off + cs.length ≤ arr.size →
    ((cs.zipIdx off).foldl (fun a (x : Value × Nat) => a.setIfInBounds x.2 x.1) arr).toList = arr.toList.take off ++ (cs ++ arr.toList.drop (off + cs.length))
  | [], off, arr, _ => by simp
  | c :: cs, off, arr, hle => by
    simp only [List.length_cons] at hle
    simp only [List.zipIdx_cons, List.foldl_cons]
    rw [splice_foldl cs (off + 1) _ (by simp; omega)]
    have hlt : off < arr.toList.length := by simp; omega
    have e1 : (arr.setIfInBounds off c).toList = arr.toList.set off c := by simp
    rw [e1]
    have hd : arr.toList.drop off = arr.toList[off] :: arr.toList.drop (off + 1) := (List.getElem_cons_drop hlt).symm
    have e2 : (arr.toList.set off c).take (off + 1) = arr.toList.take off ++ [c] := by
      rw [List.take_succ_eq_append_getElem (by simpa using hlt), List.take_set_of_le (Nat.le_refl _)]
      simp
    have e3 : (arr.toList.set off c).drop (off + 1 + cs.length) = arr.toList.drop (off + (cs.length + 1)) := by
      rw [List.drop_set_of_lt (by omega)]
      congr 1; omega
    rw [e2, e3]
    simp
end
end Go.Z

/- Structs built; every operation that only reads: 'stepQ' is sound. -/
namespace Go.Z
open Go.RowKit

section
variable {P : Program} {K : Ctx} {θ : Th} {h : List (Nat × R)} {nx : Nat} {w : World}

theorem splice_zip (cs : List Value) (off : Nat) : ∀ (n : Nat) (arr : Array Value), (cs.zipIdx n).foldl (fun a (x : Value × Nat) => a.setIfInBounds (off + x.2) x.1) arr = (cs.zipIdx (off + n)).foldl (fun a (x : Value × Nat) => a.setIfInBounds x.2 x.1) arr := by
  induction cs with
  | nil => intro n arr; rfl
  | cons c cs ih =>
    intro n arr
    simp only [List.zipIdx_cons, List.foldl_cons]
    rw [ih (n + 1)]
    rfl

theorem fill_step (cells : Array Value) (off : Nat) (cs : Array Value) (hle : off + cs.size ≤ cells.size) :
    (cs.zipIdx.foldl (fun a (x : Value × Nat) => a.setIfInBounds (off + x.2) x.1) cells).toList = cells.toList.take off ++ (cs.toList ++ cells.toList.drop (off + cs.size)) := by
  rw [← Array.foldl_toList, Array.toList_zipIdx, splice_zip cs.toList off 0]
  simpa using splice_foldl cs.toList off cells (by simpa using hle)

def PV (θ : Th) : List (Nat × SV) → List (Nat × Value) → Prop
  | [], [] => True
  | x :: l, y :: m => (x.1 = y.1 ∧ V θ x.2 y.2) ∧ PV θ l m
  | _, _ => False

theorem fillS_sound {placeV placeS : Nat → Option (Nat × Nat)} (hp : ∀ i r, placeS i = some r → placeV i = some r) :
    ∀ (parts : List (Nat × SV)) (vparts : List (Nat × Value)) (cells : List SV) (vcells : Array Value) (r : List SV),
      PV θ parts vparts → VL θ cells vcells.toList → fillS placeS cells parts = some r →
      ∃ out : Array Value, Instr.fill placeV vcells vparts = some out ∧ VL θ r out.toList
  | [], _ :: _, _, _, _, hf, _, _ => hf.elim
  | _ :: _, [], _, _, _, hf, _, _ => hf.elim
  | [], [], cells, vcells, r, hf, hv, hr => by
    simp [fillS] at hr; subst hr
    exact ⟨vcells, rfl, hv⟩
  | (i, s) :: rest, (j, v) :: ys, cells, vcells, r, hf, hv, hr => by
      obtain ⟨⟨hj, hvv⟩, ht⟩ := hf
      simp only at hj hvv
      subst hj
      unfold fillS at hr
      split at hr <;> try (cases hr; done)
      rename_i off size cs hpl hcs
      cases hc : (Nat.beq cs.length size && Nat.ble (off + size) cells.length) with
      | false => rw [hc] at hr; cases hr
      | true =>
        rw [hc] at hr
        simp only [cond_true] at hr
        simp only [Bool.and_eq_true] at hc
        have e1 := nbeq hc.1
        have e2 := nble hc.2
        have hcv := V_cellsS hcs hvv
        have l1 := VL_length hcv
        have l2 := VL_length hv
        have hsz : v.cells.size = size := by have : v.cells.toList.length = v.cells.size := by simp
                                             omega
        have hsz2 : vcells.toList.length = vcells.size := by simp
        have hst := fill_step vcells off v.cells (by omega)
        have hvl : VL θ (cells.take off ++ (cs ++ cells.drop (off + size))) (v.cells.zipIdx.foldl (fun a (x : Value × Nat) => a.setIfInBounds (off + x.2) x.1) vcells).toList := by
          rw [hst, hsz]
          exact VL_append (VL_take off hv) (VL_append hcv (VL_drop _ hv))
        obtain ⟨out, h1, h2⟩ := fillS_sound hp rest ys _ _ r ht hvl hr
        refine ⟨out, ?_, h2⟩
        unfold Instr.fill
        rw [hp i _ hpl]
        simp only
        rw [if_neg (by simp only [Bool.or_eq_true, decide_eq_true_eq, not_or]; exact ⟨fun hne => hne hsz, by omega⟩)]
        exact h1

theorem run_mapM_list {α β : Type} (f : α → Sem β) (g : α → β) (w' : World) : ∀ (l : List α), (∀ a ∈ l, (f a).run P w' = .ok (g a) w') → (l.mapM f).run P w' = .ok (l.map g) w'
  | [], _ => by simp
  | a :: l, hl => by
    have h1 := hl a (by simp)
    have h2 := run_mapM_list f g w' l (fun b hb => hl b (by simp [hb]))
    simp [List.mapM_cons, h1, h2]

theorem run_mapM_array {α β : Type} (f : α → Sem β) (g : α → β) (w' : World) (xs : Array α) (hl : ∀ a ∈ xs.toList, (f a).run P w' = .ok (g a) w') : (xs.mapM f).run P w' = .ok (xs.map g) w' := by
  rw [Array.mapM_eq_mapM_toList]
  simp only [Sem.run_map, run_mapM_list f g w' xs.toList hl, Result.andThen]
  congr 1
  apply Array.ext'
  simp

theorem run_zero {T : Nat} {i : TypeInfo} {z : Value} (hi : P.info? T = some i) (hz : i.zero = some z) (w' : World) : (zeroValue T).run P w' = .ok z w' := by
  simp [zeroValue, run_typeInfo hi, hz]

theorem buildQ0_sound {T : Nat} {parts : List (Nat × Value)} {ixs : List Nat} {vs : List SV} {k : SV → Prop}
    (hix : parts.map (·.1) = ixs) (hvs : VL θ vs (parts.map (·.2))) (hq : buildQ0 P T ixs vs k) :
    ∃ r v', k r ∧ V θ r v' ∧ ∀ w', (Instr.build T parts.toArray).run P w' = .ok v' w' := by
  unfold buildQ0 at hq
  split at hq <;> try exact hq.elim
  rename_i z pl hz hpl hall
  split at hq <;> try exact hq.elim
  rename_i cs hcs
  unfold zeroS at hz
  split at hz <;> try (cases hz; done)
  rename_i ti hti
  split at hz <;> cases hz
  rename_i zv hzv
  have hf2 : PV θ (ixs.zip vs) parts := by
    subst hix
    clear hcs hq
    induction parts generalizing vs with
    | nil => simp [PV]
    | cons p ps ih =>
      cases vs with
      | nil => simp [VL] at hvs
      | cons s ss =>
        simp only [List.map_cons, VL] at hvs
        simp only [List.map_cons, List.zip_cons_cons]
        exact ⟨⟨rfl, hvs.1⟩, ih hvs.2⟩
  have hz0 : VL θ (zv.cells.toList.map liftK1) zv.cells.toList := VL_liftK1 θ _
  unfold placesT at hpl
  split at hpl
  · rename_i fs hu
    cases hpl
    obtain ⟨out, h1, h2⟩ := fillS_sound (θ := θ) (placeV := fun i => (fs.map fun f => (f.offset, P.cellsOf f.type))[i]?) (fun i r hr => by
      cases hfi : fs[i]? with
      | none => rw [hfi] at hr; cases hr
      | some f =>
        rw [hfi] at hr
        simp only at hr
        cases hti' : P.info? f.type with
        | none => rw [hti'] at hr; cases hr
        | some t =>
          rw [hti'] at hr; cases hr
          simp [hfi, Program.cellsOf, hti']) _ _ _ _ _ hf2 hz0 hcs
    refine ⟨.agg cs, .agg out, hq, by simp only [V]; exact ⟨out.toList, by simp, h2⟩, fun w' => ?_⟩
    have hm : (fs.mapM fun f => (do pure (f.offset, ← sizeOf f.type) : Sem (Nat × Nat))).run P w' = .ok (fs.map fun f => (f.offset, P.cellsOf f.type)) w' := by
      refine run_mapM_array _ _ w' fs (fun f hf => ?_)
      unfold allInfo at hall
      rw [hu] at hall
      have := List.all_eq_true.1 hall f hf
      obtain ⟨t, ht⟩ := Option.isSome_iff_exists.1 this
      simp [run_sizeOf ht, Program.cellsOf, ht]
    simp only [Instr.build, Sem.run_bind, run_zero hti hzv, Result.andThen, run_underlying hu, hm]
    rw [h1]
    rfl
  · rename_i n e hu
    split at hpl <;> cases hpl
    rename_i t ht
    obtain ⟨out, h1, h2⟩ := fillS_sound (θ := θ) (placeV := fun i => some (i * t.size, t.size)) (fun i r hr => hr) _ _ _ _ _ hf2 hz0 hcs
    refine ⟨.agg cs, .agg out, hq, by simp only [V]; exact ⟨out.toList, by simp, h2⟩, fun w' => ?_⟩
    simp only [Instr.build, Sem.run_bind, run_zero hti hzv, Result.andThen, run_underlying hu, run_sizeOf ht]
    rw [h1]
    rfl
  · cases hpl

theorem q1_spec {vs : List SV} {k : SV → Prop} (hq : q1 vs k) : ∃ s, vs = [s] ∧ k s := by
  unfold q1 at hq; split at hq
  · exact ⟨_, rfl, hq⟩
  · exact hq.elim
theorem q2_spec {vs : List SV} {k : SV → SV → Prop} (hq : q2 vs k) : ∃ s t, vs = [s, t] ∧ k s t := by
  unfold q2 at hq; split at hq
  · exact ⟨_, _, rfl, hq⟩
  · exact hq.elim

/-- Of which values does an operation read the memory? -/
theorem intsOf_sound {kk : IntKind} : ∀ {cs : List SV} {zs : List Int} {us : List Value}, intsOf kk cs = some zs → VL θ cs us → us = zs.map (Value.int kk)
  | [], zs, us, h1, h2 => by simp [intsOf] at h1; subst h1; rw [VL_nil_left h2]; rfl
  | c :: cs, zs, us, h1, h2 => by
    obtain ⟨v, vs, rfl, hv, hvs⟩ := VL_cons_left h2
    unfold intsOf at h1
    split at h1 <;> try (cases h1; done)
    · rename_i heq; cases heq
    · rename_i k' z l heq
      cases heq
      split at h1 <;> try (cases h1; done)
      rename_i zs' hz
      split at h1 <;> cases h1
      rename_i hk; subst hk
      simp only [V] at hv
      rw [hv, intsOf_sound hz hvs]; rfl

theorem arrS_sound {T : Nat} {s : SV} {v : Value} (hv : V θ s v) : V θ (arrS P T s) v := by
  unfold arrS
  split
  · split
    · split
      · rename_i zs hz
        simp only [V] at hv ⊢
        obtain ⟨cs, rfl, h⟩ := hv
        rw [intsOf_sound hz h]
      · exact hv
    · exact hv
  · exact hv
theorem buildQ_sound {T : Nat} {parts : List (Nat × Value)} {ixs : List Nat} {vs : List SV} {k : SV → Prop}
    (hix : parts.map (·.1) = ixs) (hvs : VL θ vs (parts.map (·.2))) (hq : buildQ P T ixs vs k) :
    ∃ r v', k r ∧ V θ r v' ∧ ∀ w', (Instr.build T parts.toArray).run P w' = .ok v' w' := by
  obtain ⟨r, v', h1, h2, h3⟩ := buildQ0_sound hix hvs hq
  exact ⟨_, v', h1, arrS_sound h2, h3⟩

def readsOf : Op → List SV → List SV
  | .load .., vs => vs
  | .convert .., vs => vs
  | .lookup .., vs => vs
  | .call _, vs => vs.filter isMapS
  | _, _ => []
where
  isMapS : SV → Bool
    | .m _ => true
    | _ => false

/-- What a quiet step gives. -/
def QOut (P : Program) (K : Ctx) (θ : Th) (nx : Nat) (w : World) (rd : List SV) (k : HK) (o : Oper) (ρ : Operand → Value) : Prop :=
  ∃ r h' nx' θ' v', k r h' nx' ∧ Grows K θ θ' nx nx' h' w ∧ V θ' r v' ∧ ∀ w', (∀ s, s ∈ rd → Rd θ s w w') → (execOp ρ o).run P w' = .ok (.value v') w'

theorem QOut.pure {rd : List SV} {k : HK} {o : Oper} {ρ : Operand → Value} {r : SV} {v : Value} (hs : SatH K θ h nx w) (hk : k r h nx) (hv : V θ r v) (hrun : ∀ w', (∀ s, s ∈ rd → Rd θ s w w') → (execOp ρ o).run P w' = .ok (.value v) w') :
    QOut P K θ nx w rd k o ρ := ⟨r, h, nx, θ, v, hk, .refl hs, hv, hrun⟩

theorem run_v {s : Sem Value} {v : Value} {w' : World} (hrun : s.run P w' = .ok v w') : (do pure (Next.value (← s)) : Sem Next).run P w' = .ok (.value v) w' := by
  simp [hrun]

theorem sliceOpQ_sound (hs : SatH K θ h nx w) {T : Nat} {ρ : Operand → Value} {x : Operand} {lo hi mx : Option Operand} {vs : List SV} {k : HK}
    (hvs : VL θ vs ((#[x] ++ lo.toArray ++ hi.toArray ++ mx.toArray).toList.map ρ)) (hq : sliceOpQ P T lo.isSome hi.isSome mx.isSome vs h nx k) :
    ∃ r h' nx' θ' v', k r h' nx' ∧ Grows K θ θ' nx nx' h' w ∧ V θ' r v' ∧ ∀ w', (Instr.sliceAt T (ρ x) (lo.map ρ) (hi.map ρ) (mx.map ρ)).run P w' = .ok v' w' := by
  unfold sliceOpQ at hq
  split at hq <;> rename_i e1 e2 e3 <;> (try exact hq.elim) <;> cases lo <;> cases hi <;> cases mx <;> (try simp at e1) <;> (try simp at e2) <;> (try simp at e3) <;> simp [VL] at hvs
  · exact sliceQ_sound (vlo := none) (vhi := none) hs hvs trivial trivial hq
  · exact sliceQ_sound (vlo := some _) (vhi := none) hs hvs.1 hvs.2 trivial hq
  · exact sliceQ_sound (vlo := none) (vhi := some _) hs hvs.1 trivial hvs.2 hq
  · exact sliceQ_sound (vlo := some _) (vhi := some _) hs hvs.1 hvs.2.1 hvs.2.2 hq
  · exact slice0Q_sound hs hvs.1 hvs.2.1 hvs.2.2 hq

theorem stepQ_sound (hs : SatH K θ h nx w) {o : Oper} {ρ : Operand → Value} {vs : List SV} {k : HK} (hvs : VL θ vs (o.op.operands.toList.map ρ))
    (hq : stepQ P o.op vs h nx k) : QOut P K θ nx w (readsOf o.op vs) k o ρ := by
  obtain ⟨dst, op, type, pos, after, guard⟩ := o
  simp only at hvs hq
  unfold stepQ at hq
  split at hq
  · obtain ⟨s, rfl, hk⟩ := q1_spec hq
    simp [Op.operands, VL] at hvs
    exact .pure hs hk hvs fun w' _ => rfl
  · obtain ⟨s, rfl, hk⟩ := q1_spec hq
    simp [Op.operands, VL] at hvs
    exact .pure hs hk hvs fun w' _ => rfl
  · obtain ⟨s, rfl, hk⟩ := q1_spec hq
    simp [Op.operands, VL] at hvs
    obtain ⟨r, v', h1, h2, h3⟩ := fieldAddrQ_sound hvs hk
    exact .pure hs h1 h2 fun w' _ => run_v (h3 w')
  · obtain ⟨s, rfl, hk⟩ := q1_spec hq
    simp [Op.operands, VL] at hvs
    obtain ⟨r, h', nx', θ', v', h1, h2, h3, h4⟩ := loadQ_sound hs hvs hk
    exact ⟨r, h', nx', θ', v', h1, h2, h3, fun w' hw' => run_v (h4 w' (hw' s (by simp [readsOf])))⟩
  · obtain ⟨s, rfl, hk⟩ := q1_spec hq
    simp [Op.operands, VL] at hvs
    unfold nilCheckQ at hk
    rename_i x
    split at hk
    · refine .pure hs hk hvs fun w' _ => ?_
      simp only [V] at hvs
      obtain ⟨L, _, hv⟩ := hvs
      simp [execOp, hv]
    · refine .pure hs hk hvs fun w' _ => ?_
      simp only [V] at hvs
      obtain ⟨L, _, _, hv⟩ := hvs
      simp [execOp, hv]
    · refine .pure hs hk hvs fun w' _ => ?_
      simp only [V] at hvs
      obtain ⟨L, hv, _⟩ := hvs
      simp [execOp, hv]
    · refine .pure hs hk hvs fun w' _ => ?_
      simp only [V] at hvs
      obtain ⟨L, _, _, hv⟩ := hvs
      simp [execOp, hv]
    · exact hk.elim
  · obtain ⟨s, t, rfl, hk⟩ := q2_spec hq
    simp [Op.operands, VL] at hvs
    split at hk
    · rename_i p hp
      obtain ⟨r, v', h1, h2, h3⟩ := nilQ_sound hs hvs.1 hvs.2 hp hk
      exact .pure hs h1 h2 fun w' _ => run_v (h3 _ _ w')
    · obtain ⟨r, v', h1, h2, h3⟩ := binQ_sound hvs.1 hvs.2 hk
      exact .pure hs h1 h2 fun w' _ => run_v (h3 _ _ w')
  · obtain ⟨s, rfl, hk⟩ := q1_spec hq
    simp [Op.operands, VL] at hvs
    obtain ⟨r, v', h1, h2, h3⟩ := unQ_sound (P := P) hvs hk
    exact .pure hs h1 h2 fun w' _ => run_v (h3 w')
  · obtain ⟨s, rfl, hk⟩ := q1_spec hq
    simp [Op.operands, VL] at hvs
    obtain ⟨r, v', h1, h2, h3⟩ := convQ_sound hs hvs hk
    exact .pure hs h1 h2 fun w' hw' => run_v (h3 w' (hw' s (by simp [readsOf])))
  · obtain ⟨s, rfl, hk⟩ := q1_spec hq
    simp [Op.operands, VL] at hvs
    obtain ⟨r, v', h1, h2, h3⟩ := extractQ_sound (P := P) hvs hk
    exact .pure hs h1 h2 fun w' _ => run_v (h3 w')
  · obtain ⟨s, rfl, hk⟩ := q1_spec hq
    simp [Op.operands, VL] at hvs
    obtain ⟨r, v', h1, h2, h3⟩ := fieldQ_sound hvs hk
    exact .pure hs h1 h2 fun w' _ => run_v (h3 w')
  · obtain ⟨s, t, rfl, hk⟩ := q2_spec hq
    simp [Op.operands, VL] at hvs
    split at hk
    · obtain ⟨r, h', nx', θ', v', h1, h2, h3, h4⟩ := indexG_sound hs hvs.1 hvs.2 hk
      exact ⟨r, h', nx', θ', v', h1, h2, h3, fun w' _ => run_v (h4 w')⟩
    · obtain ⟨r, v', h1, h2, h3⟩ := indexAddrQ_sound hs hvs.1 hvs.2 hk
      exact .pure hs h1 h2 fun w' _ => run_v (h3 w')
  · obtain ⟨s, t, rfl, hk⟩ := q2_spec hq
    simp [Op.operands, VL] at hvs
    obtain ⟨r, v', h1, h2, h3⟩ := indexQ_sound hvs.1 hvs.2 hk
    exact .pure hs h1 h2 fun w' _ => run_v (h3 w')
  · rename_i T x lo hi mx
    obtain ⟨r, h', nx', θ', v', h1, h2, h3, h4⟩ := sliceOpQ_sound (ρ := ρ) hs (by simpa [Op.operands] using hvs) hq
    exact ⟨r, h', nx', θ', v', h1, h2, h3, fun w' _ => run_v (h4 w')⟩
  · rename_i fn first captured
    split at hq <;> try exact hq.elim
    rename_i f
    refine .pure hs hq (v := .func (.func f) (first.map ρ) (captured.map ρ)) ?_ fun w' _ => by simp [execOp, Instr.makeFunc]
    simp only [V]
    refine ⟨(first ++ captured).toList.map ρ, ?_, hvs⟩
    have e1 : ((first ++ captured).toList.map ρ).take first.toList.length = first.toList.map ρ := by
      simp
    have e2 : ((first ++ captured).toList.map ρ).drop first.toList.length = captured.toList.map ρ := by
      simp
    rw [e1, e2, ← Array.toList_map, ← Array.toList_map]
  · obtain ⟨s, t, rfl, hk⟩ := q2_spec hq
    simp [Op.operands, VL] at hvs
    obtain ⟨r, v', h1, h2, h3⟩ := lookupQ_sound hs hvs.1 hvs.2 hk
    exact .pure hs h1 h2 fun w' hw' => run_v (h3 w' (hw' s (by simp [readsOf])))
  · rename_i T parts
    obtain ⟨r, v', h1, h2, h3⟩ := buildQ_sound (θ := θ) (parts := parts.toList.map fun (i, x) => (i, ρ x)) (by simp [Function.comp_def]) (by simpa [Op.operands, Function.comp_def] using hvs) hq
    have e : parts.map (fun (x : Nat × Operand) => (x.1, ρ x.2)) = (parts.toList.map fun (x : Nat × Operand) => (x.1, ρ x.2)).toArray := by apply Array.ext'; simp
    exact .pure hs h1 h2 fun w' _ => run_v (by
      show (Instr.build T (parts.map (fun (x : Nat × Operand) => (x.1, ρ x.2)))).run P w' = _
      rw [e]; exact h3 w')
  · rename_i c
    split at hq <;> try exact hq.elim
    · rename_i hcal
      obtain ⟨callee, args, ts⟩ := c
      simp only at hcal
      subst hcal
      obtain ⟨s, rfl, hk⟩ := q1_spec hq
      obtain ⟨r, v', h1, h2, h3⟩ := lenQ_sound (u := ρ (args.toList.headD (.const undef))) hs (by
        simp [Op.operands, Call.operands] at hvs
        cases hl : args.toList with
        | nil => rw [hl] at hvs; simp [VL] at hvs
        | cons y ys => rw [hl] at hvs; simp only [List.map_cons, VL] at hvs; exact hvs.1) hk
      refine .pure hs h1 h2 fun w' hw' => ?_
      have ha : args.map ρ = #[ρ (args.toList.headD (.const undef))] := by
        simp [Op.operands, Call.operands] at hvs
        apply Array.ext'
        cases hl : args.toList with
        | nil => rw [hl] at hvs; simp [VL] at hvs
        | cons y ys =>
          rw [hl] at hvs; simp only [List.map_cons, VL] at hvs
          have := VL_nil_left hvs.2
          have hys : ys = [] := by simpa using this
          subst hys
          simp [hl]
      have := h3 ts type w' (by
        cases s with
        | m n => exact .inl (hw' _ (by simp [readsOf, readsOf.isMapS]))
        | _ => exact .inr (fun n h => by cases h)) rfl
      generalize ρ (args.toList.headD (.const undef)) = u at ha this
      simp [execOp, resolve, invoke, builtin, ha, this]
    · rename_i hcal
      obtain ⟨callee, args, ts⟩ := c
      simp only at hcal
      subst hcal
      obtain ⟨s, rfl, hk⟩ := q1_spec hq
      obtain ⟨r, v', h1, h2, h3⟩ := capQ_sound (u := ρ (args.toList.headD (.const undef))) (by
        simp [Op.operands, Call.operands] at hvs
        cases hl : args.toList with
        | nil => rw [hl] at hvs; simp [VL] at hvs
        | cons y ys => rw [hl] at hvs; simp only [List.map_cons, VL] at hvs; exact hvs.1) hk
      refine .pure hs h1 h2 fun w' _ => ?_
      have ha : args.map ρ = #[ρ (args.toList.headD (.const undef))] := by
        simp [Op.operands, Call.operands] at hvs
        apply Array.ext'
        cases hl : args.toList with
        | nil => rw [hl] at hvs; simp [VL] at hvs
        | cons y ys =>
          rw [hl] at hvs; simp only [List.map_cons, VL] at hvs
          have := VL_nil_left hvs.2
          have hys : ys = [] := by simpa using this
          subst hys
          simp [hl]
      have := h3 ts type w' rfl
      generalize ρ (args.toList.headD (.const undef)) = u at ha this
      simp [execOp, resolve, invoke, builtin, ha, this]
  · exact hq.elim
end
end Go.Z

/- Trees of what is owned: arguments, results, what a loop carries; given names, and read off the state. -/
namespace Go.Z
open Go.RowKit

inductive O where
  | any
  | d (x : D)
  | own (T : Nat) (x : D)
  | ptr (T : Nat) (l : List O)
  | arr (T : Nat) (k : IntKind) (xs : List Int)
  | map (ks vs : Col)
  | agg (l : List O)
  | va (k : IntKind) (xs : List Int)

mutual
/-- A value is this; the blocks that go with it. -/
def O.holds (X : Nat → Prop) (w : World) : O → Value → List Nat → Prop
  | .any, _, fp => fp = []
  | .d x, c, fp => x.holds X w c ∧ fp = []
  | .own T x, c, fp => ∃ L : Loc, c = L.val ∧ L.wf ∧ x.at X w L ∧ ((L.cap = 0 ∧ fp = []) ∨ (L.cap ≠ 0 ∧ fp = [L.b] ∧ ∃ cs : Array Value, w.heap[L.b]? = some (.cells cs T (0, 0)) ∧ L.o + L.cap * x.es ≤ cs.size))
  | .ptr T l, c, fp => ∃ (b : Nat) (us : List Value) (f : List Nat), c = .pointer (some ⟨b, 0, none⟩) ∧ fp = b :: f ∧ w.heap[b]? = some (.cells us.toArray T (0, 0)) ∧ OL.holds X w l us f
  | .arr T k xs, c, fp => ∃ L : Loc, c = .pointer (some ⟨L.b, 0, none⟩) ∧ L = ⟨some ⟨L.b, 0, none⟩, xs.length, xs.length⟩ ∧ (D.ints k xs).at X w L ∧ ((L.cap = 0 ∧ fp = []) ∨ (L.cap ≠ 0 ∧ fp = [L.b] ∧ ∃ cs : Array Value, w.heap[L.b]? = some (.cells cs T (0, 0)) ∧ L.o + L.cap * 1 ≤ cs.size))
  | .map ks vs, c, fp => ∃ (b : Nat) (es : Array MapEntry) (clock : Nat), c = .map (some b) ∧ fp = [b] ∧ w.heap[b]? = some (.map es clock) ∧ MapIs es clock ks vs
  | .agg l, c, fp => ∃ us : List Value, c = .agg us.toArray ∧ OL.holds X w l us fp
  | .va k xs, c, fp => c = .agg (xs.map (Value.int k)).toArray ∧ fp = []
def OL.holds (X : Nat → Prop) (w : World) : List O → List Value → List Nat → Prop
  | [], [], fp => fp = []
  | o :: l, v :: vs, fp => ∃ f g, fp = f ++ g ∧ O.holds X w o v f ∧ OL.holds X w l vs g
  | _, _, _ => False
end

/-- From w to w', X to X': what lies in X or in the tree's own blocks is kept. -/
def KeepsF (fp : List Nat) (w w' : World) : Prop := ∀ b ∈ fp, w'.heap[b]? = w.heap[b]?

mutual
theorem O.holds_mono {X X' : Nat → Prop} {w w' : World} (hk : Keeps X X' w w') : ∀ (o : O) (v : Value) (fp : List Nat), KeepsF fp w w' → O.holds X w o v fp → O.holds X' w' o v fp
  | .any, v, fp, _, h => by simpa only [O.holds] using h
  | .d x, v, fp, _, h => by simp only [O.holds] at *; exact ⟨D.holds_mono hk x v h.1, h.2⟩
  | .own T x, v, fp, hf, h => by
    simp only [O.holds] at *
    obtain ⟨L, h1, h2, h3, h4⟩ := h
    refine ⟨L, h1, h2, ?_, ?_⟩
    · refine D.at_mono hk (fun hne => ?_) h3
      rcases h4 with ⟨h5, _⟩ | ⟨_, rfl, _⟩
      · have := (D.at_len' h3).2; omega
      · exact hf _ (by simp)
    · rcases h4 with h5 | ⟨h5, rfl, cs, h6, h7⟩
      · exact .inl h5
      · exact .inr ⟨h5, rfl, cs, by rw [hf _ (by simp)]; exact h6, h7⟩
  | .ptr T l, v, fp, hf, h => by
    simp only [O.holds] at *
    obtain ⟨b, us, f, h1, rfl, h2, h3⟩ := h
    exact ⟨b, us, f, h1, rfl, by rw [hf b (by simp)]; exact h2, OL.holds_mono hk l us f (fun c hc => hf c (by simp [hc])) h3⟩
  | .arr T k xs, v, fp, hf, h => by
    simp only [O.holds] at *
    obtain ⟨L, h1, h2, h3, h4⟩ := h
    refine ⟨L, h1, h2, ?_, ?_⟩
    · refine D.at_mono hk (fun hne => ?_) h3
      rcases h4 with ⟨h5, _⟩ | ⟨_, rfl, _⟩
      · have := (D.at_len' h3).2; omega
      · exact hf _ (by simp)
    · rcases h4 with h5 | ⟨h5, rfl, cs, h6, h7⟩
      · exact .inl h5
      · exact .inr ⟨h5, rfl, cs, by rw [hf _ (by simp)]; exact h6, h7⟩
  | .map ks vs, v, fp, hf, h => by
    simp only [O.holds] at *
    obtain ⟨b, es, clock, h1, rfl, h2, h3⟩ := h
    exact ⟨b, es, clock, h1, rfl, by rw [hf b (by simp)]; exact h2, h3⟩
  | .agg l, v, fp, hf, h => by
    simp only [O.holds] at *
    obtain ⟨us, h1, h2⟩ := h
    exact ⟨us, h1, OL.holds_mono hk l us fp hf h2⟩
  | .va k xs, v, fp, _, h => by simpa only [O.holds] using h
theorem OL.holds_mono {X X' : Nat → Prop} {w w' : World} (hk : Keeps X X' w w') : ∀ (l : List O) (vs : List Value) (fp : List Nat), KeepsF fp w w' → OL.holds X w l vs fp → OL.holds X' w' l vs fp
  | [], [], fp, _, h => by simpa only [OL.holds] using h
  | [], _ :: _, _, _, h => by simp [OL.holds] at h
  | _ :: _, [], _, _, h => by simp [OL.holds] at h
  | o :: l, v :: vs, fp, hf, h => by
    simp only [OL.holds] at *
    obtain ⟨f, g, rfl, h1, h2⟩ := h
    exact ⟨f, g, rfl, O.holds_mono hk o v f (fun b hb => hf b (by simp [hb])) h1, OL.holds_mono hk l vs g (fun b hb => hf b (by simp [hb])) h2⟩
end

theorem OL.length {X : Nat → Prop} {w : World} : ∀ {l : List O} {vs : List Value} {fp : List Nat}, OL.holds X w l vs fp → l.length = vs.length
  | [], [], _, _ => rfl
  | [], _ :: _, _, h => by simp [OL.holds] at h
  | _ :: _, [], _, h => by simp [OL.holds] at h
  | o :: l, v :: vs, fp, h => by
    simp only [OL.holds] at h
    obtain ⟨f, g, _, _, h2⟩ := h
    simp [OL.length h2]

/-! Given names -/
mutual
def instO : O → List (Nat × R) → Nat → (SV → List (Nat × R) → Nat → Prop) → Prop
  | .any, h, nx, k => k .unk h nx
  | .d x, h, nx, k => instD x h nx k
  | .own T x, h, nx, k => k (.a nx) ((nx, .own T x) :: h) (nx + 1)
  | .ptr T l, h, nx, k => instOs l h nx fun ss h' nx' => k (.p nx' 0) ((nx', .blk T ss) :: h') (nx' + 1)
  | .arr T kk xs, h, nx, k => k (.q nx) ((nx, .own T (.ints kk xs)) :: h) (nx + 1)
  | .map ks vs, h, nx, k => k (.m nx) ((nx, .map ks vs) :: h) (nx + 1)
  | .agg l, h, nx, k => instOs l h nx fun ss => k (.agg ss)
  | .va kk xs, h, nx, k => k (.arr kk xs) h nx
def instOs : List O → List (Nat × R) → Nat → (List SV → List (Nat × R) → Nat → Prop) → Prop
  | [], h, nx, k => k [] h nx
  | o :: l, h, nx, k => instO o h nx fun s h' nx' => instOs l h' nx' fun ss h'' nx'' => k (s :: ss) h'' nx''
end

/-- Blocks that may be owned from now on. -/
def FpOk (K : Ctx) (X : Nat → Prop) (θ : Th) (h : List (Nat × R)) (fp : List Nat) : Prop :=
  fp.Nodup ∧ ∀ b ∈ fp, ¬ X b ∧ (∀ n, ¬ OwnsAt θ h n b) ∧ (K.w0.heap.size ≤ b ∨ K.M b)

structure GivesX (K : Ctx) (X : Nat → Prop) (fp : List Nat) (θ θ' : Th) (h h' : List (Nat × R)) (nx nx' : Nat) (w : World) : Prop where
  sat : SatX K X θ' h' nx' w
  ext : θ.ext θ'
  le : nx ≤ nx'
  agree : ∀ n, n < nx → θ' n = θ n
  find : ∀ n, n < nx → hfind h' n = hfind h n
  own : ∀ n b, OwnsAt θ' h' n b → OwnsAt θ h n b ∨ b ∈ fp

section
variable {K : Ctx} {X : Nat → Prop} {w : World}

theorem AddsX.gives {θ θ' : Th} {h h' : List (Nat × R)} {nx nx' : Nat} (a : AddsX K X θ θ' h h' nx nx' w) (fp : List Nat) : GivesX K X fp θ θ' h h' nx nx' w :=
  ⟨a.sat, a.ext, a.le, a.agree, a.find, fun n b ho => .inl (a.own n b ho)⟩
theorem GivesX.refl {θ : Th} {h : List (Nat × R)} {nx : Nat} (hs : SatX K X θ h nx w) (fp : List Nat) : GivesX K X fp θ θ h h nx nx w := (AddsX.refl hs).gives fp
theorem GivesX.trans {f g : List Nat} {θ θ' θ'' : Th} {h h' h'' : List (Nat × R)} {nx nx' nx'' : Nat} (a : GivesX K X f θ θ' h h' nx nx' w) (b : GivesX K X g θ' θ'' h' h'' nx' nx'' w) :
    GivesX K X (f ++ g) θ θ'' h h'' nx nx'' w :=
  ⟨b.sat, Th.ext_trans a.ext b.ext, Nat.le_trans a.le b.le, fun n hn => (b.agree n (Nat.lt_of_lt_of_le hn a.le)).trans (a.agree n hn),
    fun n hn => (b.find n (Nat.lt_of_lt_of_le hn a.le)).trans (a.find n hn), fun n b' ho => by
      rcases b.own n b' ho with h1 | h1
      · rcases a.own n b' h1 with h2 | h2
        · exact .inl h2
        · exact .inr (by simp [h2])
      · exact .inr (by simp [h1])⟩
theorem GivesX.weaken {f g : List Nat} {θ θ' : Th} {h h' : List (Nat × R)} {nx nx' : Nat} (a : GivesX K X f θ θ' h h' nx nx' w) (hs : ∀ b ∈ f, b ∈ g) : GivesX K X g θ θ' h h' nx nx' w :=
  ⟨a.sat, a.ext, a.le, a.agree, a.find, fun n b ho => (a.own n b ho).imp id (hs b)⟩

theorem FpOk.left {θ : Th} {h : List (Nat × R)} {f g : List Nat} (hf : FpOk K X θ h (f ++ g)) : FpOk K X θ h f :=
  ⟨(List.nodup_append.1 hf.1).1, fun b hb => hf.2 b (by simp [hb])⟩
theorem FpOk.right {θ θ' : Th} {h h' : List (Nat × R)} {nx nx' : Nat} {f g : List Nat} (hf : FpOk K X θ h (f ++ g)) (a : GivesX K X f θ θ' h h' nx nx' w) : FpOk K X θ' h' g := by
  obtain ⟨n1, n2, n3⟩ := List.nodup_append.1 hf.1
  refine ⟨n2, fun b hb => ?_⟩
  obtain ⟨h1, h2, h3⟩ := hf.2 b (by simp [hb])
  refine ⟨h1, fun n hn => ?_, h3⟩
  rcases a.own n b hn with h4 | h4
  · exact h2 n h4
  · exact n3 b h4 b hb rfl

/-- The newest name owns what nobody owned. -/
theorem SatX.give_new {θ : Th} {h : List (Nat × R)} {nx : Nat} (hs : SatX K X θ h nx w) {r : R} {L : Loc} {fp : List Nat} (hh : r.holds (θ.add nx L) X w L)
    (hf : FpOk K X θ h fp) (ho : r.owns L → L.b ∈ fp) : GivesX K X fp θ (θ.add nx L) h ((nx, r) :: h) nx (nx + 1) w := by
  have hnx := hs.fresh nx (Nat.le_refl _)
  obtain ⟨g1, g2⟩ := hs.give (Th.add_ext hnx L) (nx' := nx + 1) (fun n hn => by rw [Th.add_other _ _ (by omega)]; exact hs.fresh n (by omega)) (n := nx) (r := r) (L := L) (Th.add_self _ _ _)
    (fun m hm => Th.add_other _ _ hm) hh (fun h1 => (hf.2 _ (ho h1)).1) (fun h1 => (hf.2 _ (ho h1)).2.1) (fun h1 => (hf.2 _ (ho h1)).2.2)
  refine ⟨g1, Th.add_ext hnx L, by omega, fun n hn => Th.add_other _ _ (by omega), fun n hn => by rw [hfind_cons, if_neg (by omega)], fun n b hn => ?_⟩
  rcases g2 n b hn with h1 | ⟨_, h1, rfl⟩
  · exact .inl h1
  · exact .inr (ho h1)

def ptrLoc (b : Nat) : Loc := ⟨some ⟨b, 0, none⟩, 0, 0⟩
def arrLoc (b n : Nat) : Loc := ⟨some ⟨b, 0, none⟩, n, n⟩

theorem arr_own {θ : Th} {b T : Nat} {k : IntKind} {xs : List Int} (h : w.heap[b]? = some (.cells (xs.map (Value.int k)).toArray T (0, 0))) : (R.own T (.ints k xs)).holds θ X w (arrLoc b xs.length) := by
  refine ⟨⟨rfl, Nat.le_refl _, fun i z hz => ?_⟩, .inr rfl, fun _ => ⟨_, h, ?_⟩⟩
  · show w.cell? ⟨b, 0 + i, none⟩ = _
    rw [Nat.zero_add, cell_of_cells h, List.getElem?_map, hz]; rfl
  · simp [D.es, arrLoc, Loc.o]

mutual
theorem instO_sound : ∀ (o : O) {θ : Th} {h : List (Nat × R)} {nx : Nat} {v : Value} {fp : List Nat} {k : SV → List (Nat × R) → Nat → Prop}, SatX K X θ h nx w → O.holds X w o v fp → FpOk K X θ h fp → instO o h nx k →
    ∃ s h' nx' θ', k s h' nx' ∧ GivesX K X fp θ θ' h h' nx nx' w ∧ V θ' s v
  | .any, θ, h, nx, v, fp, k, hs, hh, hf, hk => by
    simp only [instO] at hk
    exact ⟨_, _, _, θ, hk, .refl hs _, by simp [V]⟩
  | .d x, θ, h, nx, v, fp, k, hs, hh, hf, hk => by
    simp only [instO] at hk
    simp only [O.holds] at hh
    obtain ⟨s, h', nx', θ', a1, a2, a3⟩ := instD_soundX x hs hh.1 hk
    exact ⟨s, h', nx', θ', a1, a2.gives _, a3⟩
  | .own T x, θ, h, nx, v, fp, k, hs, hh, hf, hk => by
    simp only [instO] at hk
    simp only [O.holds] at hh
    obtain ⟨L, rfl, h2, h3, h4⟩ := hh
    refine ⟨_, _, _, θ.add nx L, hk, hs.give_new (r := .own T x) ⟨h3, h2, fun hc => ?_⟩ hf (fun ho => ?_), by simp only [V]; exact ⟨L, Th.add_self _ _ _, rfl⟩⟩
    · rcases h4 with ⟨h5, _⟩ | ⟨_, _, h5⟩
      · exact absurd h5 hc
      · exact h5
    · rcases h4 with ⟨h5, _⟩ | ⟨_, rfl, _⟩
      · exact absurd h5 ho
      · simp
  | .ptr T l, θ, h, nx, v, fp, k, hs, hh, hf, hk => by
    simp only [instO] at hk
    simp only [O.holds] at hh
    obtain ⟨b, us, f, rfl, rfl, h2, h3⟩ := hh
    have hf' : FpOk K X θ h (f ++ [b]) := ⟨by
      have := hf.1
      simp only [List.nodup_cons] at this
      rw [List.nodup_append]
      exact ⟨this.2, by simp, fun x hx y hy => by simp at hy; subst hy; intro e; subst e; exact this.1 hx⟩, fun c hc => hf.2 c (by simp at hc ⊢; exact hc.symm)⟩
    obtain ⟨ss, h1, nx1, θ1, a1, a2, a3⟩ := instOs_sound l hs h3 hf'.left hk
    have g := a2.sat.give_new (r := .blk T ss) (L := ptrLoc b) (fp := [b]) ⟨us, rfl, h2, VL_mono (Th.add_ext (a2.sat.fresh nx1 (Nat.le_refl _)) _) _ _ a3⟩ (hf'.right a2) (fun _ => by simp [ptrLoc, Loc.b])
    refine ⟨_, _, _, _, a1, (a2.trans g).weaken (fun c hc => by simp at hc ⊢; exact hc.symm), ?_⟩
    simp only [V]
    exact ⟨_, Th.add_self _ _ _, rfl⟩
  | .arr T kk xs, θ, h, nx, v, fp, k, hs, hh, hf, hk => by
    simp only [instO] at hk
    simp only [O.holds] at hh
    obtain ⟨L, rfl, h2, h3, h4⟩ := hh
    refine ⟨_, _, _, θ.add nx L, hk, hs.give_new (r := .own T (.ints kk xs)) ⟨h3, .inr (by rw [h2]; rfl), fun hc => ?_⟩ hf (fun ho => ?_), by simp only [V]; exact ⟨L, Th.add_self _ _ _, by rw [h2]; rfl, rfl⟩⟩
    · rcases h4 with ⟨h5, _⟩ | ⟨_, _, h5⟩
      · exact absurd h5 hc
      · exact h5
    · rcases h4 with ⟨h5, _⟩ | ⟨_, rfl, _⟩
      · exact absurd h5 ho
      · simp
  | .map ks vs, θ, h, nx, v, fp, k, hs, hh, hf, hk => by
    simp only [instO] at hk
    simp only [O.holds] at hh
    obtain ⟨b, es, clock, rfl, rfl, h2, h3⟩ := hh
    refine ⟨_, _, _, θ.add nx (ptrLoc b), hk, hs.give_new (r := .map ks vs) ⟨rfl, es, clock, h2, h3⟩ hf (fun _ => by simp [ptrLoc, Loc.b]), ?_⟩
    simp only [V]
    exact ⟨_, Th.add_self _ _ _, rfl⟩
  | .agg l, θ, h, nx, v, fp, k, hs, hh, hf, hk => by
    simp only [instO] at hk
    simp only [O.holds] at hh
    obtain ⟨us, rfl, h2⟩ := hh
    obtain ⟨ss, h1, nx1, θ1, a1, a2, a3⟩ := instOs_sound l hs h2 hf hk
    exact ⟨_, _, _, _, a1, a2, by simp only [V]; exact ⟨us, rfl, a3⟩⟩
  | .va kk xs, θ, h, nx, v, fp, k, hs, hh, hf, hk => by
    simp only [instO] at hk
    simp only [O.holds] at hh
    exact ⟨_, _, _, θ, hk, .refl hs _, by simp only [V]; exact hh.1⟩
theorem instOs_sound : ∀ (l : List O) {θ : Th} {h : List (Nat × R)} {nx : Nat} {vs : List Value} {fp : List Nat} {k : List SV → List (Nat × R) → Nat → Prop}, SatX K X θ h nx w → OL.holds X w l vs fp → FpOk K X θ h fp → instOs l h nx k →
    ∃ ss h' nx' θ', k ss h' nx' ∧ GivesX K X fp θ θ' h h' nx nx' w ∧ VL θ' ss vs
  | [], θ, h, nx, [], fp, k, hs, hh, hf, hk => by
    simp only [instOs] at hk
    exact ⟨_, _, _, θ, hk, .refl hs _, by simp [VL]⟩
  | [], _, _, _, _ :: _, _, _, _, hh, _, _ => by simp [OL.holds] at hh
  | _ :: _, _, _, _, [], _, _, _, hh, _, _ => by simp [OL.holds] at hh
  | o :: l, θ, h, nx, v :: vs, fp, k, hs, hh, hf, hk => by
    simp only [instOs] at hk
    simp only [OL.holds] at hh
    obtain ⟨f, g, rfl, h1, h2⟩ := hh
    obtain ⟨s, h', nx', θ', a1, a2, a3⟩ := instO_sound o hs h1 hf.left hk
    obtain ⟨ss, h'', nx'', θ'', b1, b2, b3⟩ := instOs_sound l a2.sat h2 (hf.right a2) a1
    exact ⟨_, _, _, _, b1, a2.trans b2, by simp only [VL]; exact ⟨V_mono b2.ext _ _ a3, b3⟩⟩
end
end
end Go.Z

/- Trees read off the state: data that is only read; what is owned. -/
namespace Go.Z
open Go.RowKit

/-- The type of cell number i of a type. -/
def cellT (P : Program) : Nat → Nat → Nat → Option Nat
  | 0, _, _ => none
  | f + 1, T, i => match P.underlying T with
    | some (.struct fs) => match pickF fs.toList i none with
      | some (U, o) => cellT P f U (i - o)
      | none => none
    | some (.array _ e) => match P.info? e with
      | some inf => cellT P f e (i % inf.size)
      | none => none
    | some _ => some T
    | none => none
where
  pickF : List Field → Nat → Option (Nat × Nat) → Option (Nat × Nat)
    | [], _, r => r
    | fl :: l, i, r => cond (Nat.ble fl.offset i) (pickF l i (some (fl.type, fl.offset))) r

/-- A nil slice, as data of its type. -/
def nilD (P : Program) (T : Option (Nat × Nat)) : D :=
  match T with
  | some (t, i) => match cellT P 8 t i with
    | some u => match P.underlying u with
      | some (.slice e) => match P.underlying e, P.info? e with
        | some (.int kk), _ => .ints kk []
        | _, some inf => .recs inf.size 0 (fun _ _ => .v undef)
        | _, _ => .v (.slice none 0 0)
      | _ => .v (.slice none 0 0)
    | none => .v (.slice none 0 0)
  | none => .v (.slice none 0 0)

def arrR (ro : Bool) (h : List (Nat × R)) (n : Nat) : Option (D × List Nat) :=
  match hfind h n with
  | some (.ro d) => some (d, [])
  | some (.own _ d) => cond ro none (some (d, [n]))
  | _ => none

def ptrD (T : Nat) (ds : List D) : D := .ptr T ds.length (fun i => ds.getD i (.v undef))
def fnD (g m : Nat) (ds : List D) : D := .fn g m ds.length (fun i => ds.getD i (.v undef))

def dsF (f : Option (Nat × Nat) → SV → Option (D × List Nat)) (T : Option Nat) : Nat → List SV → Option (List D × List Nat)
  | _, [] => some ([], [])
  | i, s :: l => match f (match T with | some t => some (t, i) | none => none) s, dsF f T (i + 1) l with
    | some (d, ns), some (ds, ms) => some (d :: ds, ns ++ ms)
    | _, _ => none

/-- Data that is only read; which owned names it leads to. -/
def dOf (P : Program) (ro : Bool) (h : List (Nat × R)) : Nat → Option (Nat × Nat) → SV → Option (D × List Nat)
  | 0, _, _ => none
  | f + 1, T, s => match s with
    | .b t => some (.v (.bool t), [])
    | .c x => cond x.oneCell' (some (.v x, [])) none
    | .nil => some (nilD P T, [])
    | .a n => arrR ro h n
    | .p n 0 => match hfind h n with
      | some (.rblk U l) => match dsF (dOf P ro h f) (some U) 0 l with
        | some (ds, ns) => some (ptrD U ds, ns)
        | none => none
      | some (.blk U l) => cond ro none (match dsF (dOf P ro h f) (some U) 0 l with
        | some (ds, ns) => some (ptrD U ds, n :: ns)
        | none => none)
      | _ => none
    | .f g m l => match dsF (dOf P ro h f) none 0 l with
      | some (ds, ns) => some (fnD g m ds, ns)
      | none => none
    | .m n => match hfind h n with
      | some (.rmap ks vs) => some (.map ks vs, [])
      | some (.map ks vs) => cond ro none (some (.map ks vs, [n]))
      | _ => none
    | _ => none

def dsOf (P : Program) (T : Nat) (h : List (Nat × R)) (l : List SV) : Option (List D) :=
  match dsF (dOf P true h 8) (some T) 0 l with
  | some (ds, _) => some ds
  | none => none

/-- What is owned; its names. -/
def treesF (f : Option (Nat × Nat) → SV → Option (O × List Nat)) (T : Option Nat) : Nat → List SV → Option (List O × List Nat)
  | _, [] => some ([], [])
  | i, s :: l => match f (match T with | some t => some (t, i) | none => none) s, treesF f T (i + 1) l with
    | some (d, ns), some (ds, ms) => some (d :: ds, ns ++ ms)
    | _, _ => none

def toD (r : Option (D × List Nat)) : Option (O × List Nat) :=
  match r with
  | some (d, _) => some (.d d, [])
  | none => none

/-- A nil slice in a struct that is owned. -/
def nilO (P : Program) (T : Option (Nat × Nat)) : O :=
  match T with
  | some (t, i) => match cellT P 8 t i with
    | some u => match P.underlying u with
      | some (.slice e) => match P.underlying e, P.info? e with
        | some (.int kk), _ => .own e (.ints kk [])
        | _, some inf => .own e (.recs inf.size 0 (fun _ _ => .v undef))
        | _, _ => .d (.v (.slice none 0 0))
      | _ => .d (.v (.slice none 0 0))
    | none => .d (.v (.slice none 0 0))
  | none => .d (.v (.slice none 0 0))
def treeN (P : Program) (f : Option (Nat × Nat) → SV → Option (O × List Nat)) (T : Option (Nat × Nat)) (s : SV) : Option (O × List Nat) :=
  match s with
  | .nil => some (nilO P T, [])
  | s => f T s

def treeOf (P : Program) (h : List (Nat × R)) : Nat → Option (Nat × Nat) → SV → Option (O × List Nat)
  | 0, _, _ => none
  | f + 1, T, s => match s with
    | .a n => match hfind h n with
      | some (.own U d) => some (.own U d, [n])
      | some (.ro d) => some (.d d, [])
      | _ => none
    | .p n 0 => match hfind h n with
      | some (.blk U l) => match treesF (treeN P (treeOf P h f)) (some U) 0 l with
        | some (os, ns) => some (.ptr U os, n :: ns)
        | none => none
      | some (.rblk _ _) => toD (dOf P true h f T s)
      | _ => none
    | .q n => match hfind h n with
      | some (.own U (.ints kk xs)) => some (.arr U kk xs, [n])
      | _ => none
    | .m n => match hfind h n with
      | some (.map ks vs) => some (.map ks vs, [n])
      | some (.rmap ks vs) => some (.d (.map ks vs), [])
      | _ => none
    | .agg l => match treesF (treeOf P h f) (match T with | some (t, _) => some t | none => none) 0 l with
      | some (os, ns) => some (.agg os, ns)
      | none => none
    | .arr kk xs => some (.va kk xs, [])
    | .unk => some (.any, [])
    | s => toD (dOf P true h f T s)

/-- An argument that is only read. -/
def readOf (P : Program) (ro : Bool) (h : List (Nat × R)) (T : Option (Nat × Nat)) (s : SV) : Option (O × List Nat) :=
  match s with
  | .agg l => match dsF (dOf P ro h 8) (match T with | some (t, _) => some t | none => none) 0 l with
    | some (ds, ns) => some (.agg (ds.map .d), ns)
    | none => none
  | .arr kk xs => some (.va kk xs, [])
  | s => match dOf P ro h 8 T s with
    | some (d, ns) => some (.d d, ns)
    | none => none

section
variable {P : Program} {K : Ctx} {θ : Th} {h : List (Nat × R)} {nx : Nat} {w : World}

def nilLoc : Loc := ⟨none, 0, 0⟩
theorem nilD_holds {X : Nat → Prop} (T : Option (Nat × Nat)) : (nilD P T).holds X w (.slice none 0 0) := by
  have hv : (D.v (.slice none 0 0)).holds X w (.slice none 0 0) := ⟨rfl, rfl⟩
  unfold nilD
  split
  · split
    · split
      · split
        · exact ⟨nilLoc, rfl, .inl rfl, fun hne => absurd rfl hne, rfl, Nat.le_refl _, fun i z hz => by simp at hz⟩
        · exact ⟨nilLoc, rfl, .inl rfl, fun hne => absurd rfl hne, rfl, Nat.le_refl _, fun i hi => absurd hi (by omega)⟩
        · exact hv
      · exact hv
    · exact hv
  · exact hv

theorem holds_of_at {X : Nat → Prop} {L : Loc} {d : D} (hd : d.at X w L) (hw : L.wf) (hi : L.inn X w) : d.holds X w L.val := by
  cases d with
  | v _ => exact hd.elim
  | ptr _ _ _ => exact hd.elim
  | fn _ _ _ _ => exact hd.elim
  | map _ _ => exact hd.elim
  | ints k xs => exact D.holds_ints.2 ⟨L, rfl, hw, hi, hd⟩
  | recs es n f => exact D.holds_recs.2 ⟨L, rfl, hw, hi, hd⟩

/-- X takes in what is free, and what these names own. -/
def Takes (K : Ctx) (θ : Th) (h : List (Nat × R)) (ns : List Nat) (X : Nat → Prop) : Prop := (∀ b, Free K θ h b → X b) ∧ ∀ n ∈ ns, ∀ b, OwnsAt θ h n b → X b

theorem Takes.keeps {ns : List Nat} {X : Nat → Prop} (t : Takes K θ h ns X) : Keeps (Free K θ h) X w w := fun b _ hf => ⟨t.1 b hf, rfl⟩
theorem Takes.left {ns ms : List Nat} {X : Nat → Prop} (t : Takes K θ h (ns ++ ms) X) : Takes K θ h ns X := ⟨t.1, fun n hn => t.2 n (by simp [hn])⟩
theorem Takes.right {ns ms : List Nat} {X : Nat → Prop} (t : Takes K θ h (ns ++ ms) X) : Takes K θ h ms X := ⟨t.1, fun n hn => t.2 n (by simp [hn])⟩

theorem arrR_sound (hs : SatH K θ h nx w) {ro : Bool} {n : Nat} {d : D} {ns : List Nat} (ha : arrR ro h n = some (d, ns)) :
    ∃ L, θ n = some L ∧ L.wf ∧ (ro = true → ns = []) ∧ ∀ X, Takes K θ h ns X → d.at X w L ∧ L.inn X w := by
  unfold arrR at ha
  split at ha
  · rename_i hf
    cases ha
    obtain ⟨L, h1, h2, h3, h4⟩ := hs.res n _ hf
    exact ⟨L, h1, h3, fun _ => rfl, fun X t => ⟨D.at_mono t.keeps (fun _ => rfl) h2, Loc.inn_mono t.keeps h4⟩⟩
  · rename_i T d' hf
    cases ro with
    | true => cases ha
    | false =>
      cases ha
      obtain ⟨L, h1, h2, h3, h4⟩ := hs.res n _ hf
      have hcap : L.len ≠ 0 → L.cap ≠ 0 := by have := D.at_len h2; omega
      refine ⟨L, h1, h3, fun h => (by cases h), fun X t => ⟨D.at_mono t.keeps (fun _ => rfl) h2, fun hne => ?_⟩⟩
      have ho : OwnsAt θ h n L.b := ⟨_, L, hf, h1, hcap hne, rfl⟩
      exact ⟨t.2 n (by simp) _ ho, OwnsAt.lt hs ho⟩
  · cases ha

def DSound (K : Ctx) (θ : Th) (h : List (Nat × R)) (w : World) (ro : Bool) (f : Option (Nat × Nat) → SV → Option (D × List Nat)) : Prop :=
  ∀ (T : Option (Nat × Nat)) (s : SV) (u : Value) (d : D) (ns : List Nat), V θ s u → f T s = some (d, ns) → (ro = true → ns = []) ∧ ∀ X, Takes K θ h ns X → d.holds X w u

theorem dsF_sound {ro : Bool} {f : Option (Nat × Nat) → SV → Option (D × List Nat)} (hf : DSound K θ h w ro f) {T : Option Nat} : ∀ {l : List SV} {i : Nat} {us : List Value} {ds : List D} {ns : List Nat}, VL θ l us → dsF f T i l = some (ds, ns) →
    (ro = true → ns = []) ∧ ∀ X, Takes K θ h ns X → DL.holds X w ds us
  | [], i, [], ds, ns, _, ha => by simp [dsF] at ha; obtain ⟨rfl, rfl⟩ := ha; exact ⟨fun _ => rfl, fun _ _ => trivial⟩
  | [], _, _ :: _, _, _, hv, _ => by simp [VL] at hv
  | _ :: _, _, [], _, _, hv, _ => by simp [VL] at hv
  | s :: l, i, u :: us, ds, ns, hv, ha => by
    simp only [VL] at hv
    unfold dsF at ha
    split at ha <;> cases ha
    rename_i d ns' ds' ms' h1 h2
    obtain ⟨a1, a2⟩ := hf _ _ _ _ _ hv.1 h1
    obtain ⟨b1, b2⟩ := dsF_sound hf hv.2 h2
    exact ⟨fun hr => by rw [a1 hr, b1 hr]; rfl, fun X t => ⟨a2 X t.left, b2 X t.right⟩⟩

theorem DL.length {X : Nat → Prop} : ∀ {l : List D} {us : List Value}, DL.holds X w l us → l.length = us.length
  | [], [], _ => rfl
  | [], _ :: _, h => h.elim
  | _ :: _, [], h => h.elim
  | _ :: _, _ :: _, h => by simp [DL.length h.2]
theorem DL.getD {X : Nat → Prop} : ∀ {l : List D} {us : List Value}, DL.holds X w l us → ∀ i, i < l.length → ∃ c, us[i]? = some c ∧ (l.getD i (.v undef)).holds X w c
  | [], _, _, i, hi => by simp at hi
  | _ :: _, [], h, _, _ => h.elim
  | d :: l, u :: us, h, 0, _ => ⟨u, rfl, by simpa using h.1⟩
  | d :: l, u :: us, h, i + 1, hi => by
    obtain ⟨c, h1, h2⟩ := DL.getD h.2 i (by simpa using hi)
    exact ⟨c, by simpa using h1, by simpa using h2⟩

theorem ptr_zero {n : Nat} {u : Value} {L : Loc} (hv : V θ (.p n 0) u) (hL : θ n = some L) (ha : L.a = some ⟨L.b, 0, none⟩) : u = .pointer (some ⟨L.b, 0, none⟩) := by
  simp only [V] at hv
  obtain ⟨L', hL', rfl⟩ := hv
  obtain rfl := Option.some.inj (hL.symm.trans hL')
  have : L.o = 0 := by unfold Loc.o; rw [ha]
  rw [this]

theorem dOf_sound (hs : SatH K θ h nx w) {ro : Bool} : ∀ (f : Nat), DSound K θ h w ro (dOf P ro h f)
  | 0 => fun _ _ _ _ _ _ ha => by simp [dOf] at ha
  | f + 1 => fun T s u d ns hv ha => by
    have ih : DSound K θ h w ro (dOf P ro h f) := dOf_sound hs f
    unfold dOf at ha
    split at ha
    · cases ha
      simp only [V] at hv; subst hv
      exact ⟨fun _ => rfl, fun _ _ => ⟨rfl, rfl⟩⟩
    · rename_i x
      cases hx : x.oneCell' with
      | false => rw [hx] at ha; cases ha
      | true => rw [hx] at ha; cases ha; simp only [V] at hv; subst hv; exact ⟨fun _ => rfl, fun _ _ => ⟨rfl, hx⟩⟩
    · cases ha
      simp only [V] at hv; subst hv
      exact ⟨fun _ => rfl, fun _ _ => nilD_holds T⟩
    · simp only [V] at hv
      obtain ⟨L, hL, rfl⟩ := hv
      obtain ⟨L', hL', h1, h2, h3⟩ := arrR_sound hs ha
      obtain rfl := Option.some.inj (hL.symm.trans hL')
      exact ⟨h2, fun X t => holds_of_at (h3 X t).1 h1 (h3 X t).2⟩
    · rename_i n
      split at ha
      · rename_i U l hf
        split at ha <;> cases ha
        rename_i ds ns' hd
        obtain ⟨L, hL, us, e1, e2, e3, e4⟩ := hs.res n _ hf
        obtain ⟨a1, a2⟩ := dsF_sound ih e4 hd
        refine ⟨a1, fun X t => ⟨L.b, us, ptr_zero hv hL e1, t.1 _ e2, e3, (DL.length (a2 X t)).symm, fun i hi => DL.getD (a2 X t) i hi⟩⟩
      · rename_i U l hf
        cases ro with
        | true => cases ha
        | false =>
          simp only [cond] at ha
          split at ha <;> cases ha
          rename_i ds ns' hd
          obtain ⟨L, hL, us, e1, e3, e4⟩ := hs.res n _ hf
          obtain ⟨a1, a2⟩ := dsF_sound ih e4 hd
          refine ⟨fun h => (by cases h), fun X t => ?_⟩
          have t' : Takes K θ h ns' X := ⟨t.1, fun m hm => t.2 m (by simp [hm])⟩
          exact ⟨L.b, us, ptr_zero hv hL e1, t.2 n (by simp) _ ⟨_, L, hf, hL, trivial, rfl⟩, e3, (DL.length (a2 X t')).symm, fun i hi => DL.getD (a2 X t') i hi⟩
      · cases ha
    · rename_i g m l
      split at ha <;> cases ha
      rename_i ds ns' hd
      simp only [V] at hv
      obtain ⟨us, rfl, e4⟩ := hv
      obtain ⟨a1, a2⟩ := dsF_sound ih e4 hd
      exact ⟨a1, fun X t => ⟨us, rfl, (DL.length (a2 X t)).symm, fun i hi => DL.getD (a2 X t) i hi⟩⟩
    · rename_i n
      simp only [V] at hv
      obtain ⟨L, hL, rfl⟩ := hv
      split at ha
      · cases ha
        rename_i ks vs hf
        obtain ⟨L', hL', e1, e2, es, clock, e3, e4⟩ := hs.res n _ hf
        obtain rfl := Option.some.inj (hL.symm.trans hL')
        exact ⟨fun _ => rfl, fun X t => ⟨L.b, es, clock, rfl, t.1 _ e2, e3, e4⟩⟩
      · rename_i ks vs hf
        cases ro with
        | true => cases ha
        | false =>
          cases ha
          obtain ⟨L', hL', e1, es, clock, e3, e4⟩ := hs.res n _ hf
          obtain rfl := Option.some.inj (hL.symm.trans hL')
          exact ⟨fun h => (by cases h), fun X t => ⟨L.b, es, clock, rfl, t.2 n (by simp) _ ⟨_, L, hf, hL, trivial, rfl⟩, e3, e4⟩⟩
      · cases ha
    · cases ha

theorem dsOf_sound (hs : SatH K θ h nx w) {T : Nat} {l : List SV} {us : List Value} {ds : List D} (hv : VL θ l us) (ha : dsOf P T h l = some ds) : DL.holds (Free K θ h) w ds us := by
  unfold dsOf at ha
  split at ha <;> cases ha
  rename_i ns hd
  obtain ⟨a1, a2⟩ := dsF_sound (dOf_sound (P := P) (ro := true) hs 8) hv hd
  rw [a1 rfl] at a2
  exact a2 _ ⟨fun b hb => hb, fun n hn => (by cases hn)⟩

/-! What is owned -/
/-- A tree's blocks are those of its names. -/
def NamesFp (θ : Th) (h : List (Nat × R)) (ns fp : List Nat) : Prop := (∀ b ∈ fp, ∃ n ∈ ns, OwnsAt θ h n b) ∧ (ns.Nodup → fp.Nodup) ∧ ∀ n ∈ ns, ∃ L, θ n = some L

theorem NamesFp.nil : NamesFp θ h [] [] := ⟨fun b hb => (by cases hb), fun _ => List.nodup_nil, fun b hb => (by cases hb)⟩
theorem NamesFp.append (hs : SatH K θ h nx w) {ns ms f g : List Nat} (a : NamesFp θ h ns f) (b : NamesFp θ h ms g) : NamesFp θ h (ns ++ ms) (f ++ g) := by
  refine ⟨fun c hc => ?_, fun hn => ?_, fun n hn => (List.mem_append.1 hn).elim (a.2.2 n) (b.2.2 n)⟩
  · rcases List.mem_append.1 hc with hc | hc
    · obtain ⟨n, h1, h2⟩ := a.1 c hc; exact ⟨n, by simp [h1], h2⟩
    · obtain ⟨n, h1, h2⟩ := b.1 c hc; exact ⟨n, by simp [h1], h2⟩
  · obtain ⟨n1, n2, n3⟩ := List.nodup_append.1 hn
    rw [List.nodup_append]
    refine ⟨a.2.1 n1, b.2.1 n2, fun x hx y hy e => ?_⟩
    subst e
    obtain ⟨n, h1, h2⟩ := a.1 x hx
    obtain ⟨m, h3, h4⟩ := b.1 x hy
    exact n3 n h1 m h3 (hs.dis n m x h2 h4)
theorem NamesFp.one {n b : Nat} (ho : OwnsAt θ h n b) : NamesFp θ h [n] [b] :=
  ⟨fun c hc => by simp at hc; subst hc; exact ⟨n, by simp, ho⟩, fun _ => by simp, fun m hm => by simp at hm; subst hm; obtain ⟨_, L, _, hL, _⟩ := ho; exact ⟨L, hL⟩⟩
theorem NamesFp.none {n : Nat} {L : Loc} (hL : θ n = some L) : NamesFp θ h [n] [] := ⟨fun b hb => (by cases hb), fun _ => List.nodup_nil, fun m hm => by simp at hm; subst hm; exact ⟨L, hL⟩⟩

def TSound (K : Ctx) (θ : Th) (h : List (Nat × R)) (w : World) (f : Option (Nat × Nat) → SV → Option (O × List Nat)) : Prop :=
  ∀ (T : Option (Nat × Nat)) (s : SV) (u : Value) (o : O) (ns : List Nat), V θ s u → f T s = some (o, ns) → ∃ fp, NamesFp θ h ns fp ∧ ∀ X, (∀ b, Free K θ h b → X b) → O.holds X w o u fp

theorem treesF_sound (hs : SatH K θ h nx w) {f : Option (Nat × Nat) → SV → Option (O × List Nat)} (hf : TSound K θ h w f) {T : Option Nat} : ∀ {l : List SV} {i : Nat} {us : List Value} {os : List O} {ns : List Nat}, VL θ l us → treesF f T i l = some (os, ns) →
    ∃ fp, NamesFp θ h ns fp ∧ ∀ X, (∀ b, Free K θ h b → X b) → OL.holds X w os us fp
  | [], i, [], os, ns, _, ha => by simp [treesF] at ha; obtain ⟨rfl, rfl⟩ := ha; exact ⟨[], .nil, fun _ _ => by simp [OL.holds]⟩
  | [], _, _ :: _, _, _, hv, _ => by simp [VL] at hv
  | _ :: _, _, [], _, _, hv, _ => by simp [VL] at hv
  | s :: l, i, u :: us, os, ns, hv, ha => by
    simp only [VL] at hv
    unfold treesF at ha
    split at ha <;> cases ha
    rename_i o ns' os' ms' h1 h2
    obtain ⟨f1, a1, a2⟩ := hf _ _ _ _ _ hv.1 h1
    obtain ⟨f2, b1, b2⟩ := treesF_sound hs hf hv.2 h2
    exact ⟨f1 ++ f2, a1.append hs b1, fun X hX => by simp only [OL.holds]; exact ⟨f1, f2, rfl, a2 X hX, b2 X hX⟩⟩

theorem own_holds (hs : SatH K θ h nx w) {n T : Nat} {d : D} (hf : hfind h n = some (.own T d)) {u : Value} (hv : V θ (.a n) u) :
    ∃ fp, NamesFp θ h [n] fp ∧ ∀ X, (∀ b, Free K θ h b → X b) → O.holds X w (.own T d) u fp := by
  simp only [V] at hv
  obtain ⟨L, hL, rfl⟩ := hv
  obtain ⟨L', hL', h2, h3, h4⟩ := hs.res n _ hf
  obtain rfl := Option.some.inj (hL.symm.trans hL')
  by_cases hc : L.cap = 0
  · refine ⟨[], .none hL, fun X hX => ?_⟩
    simp only [O.holds]
    exact ⟨L, rfl, h3, D.at_mono (fun b _ hb => ⟨hX b hb, rfl⟩) (fun _ => rfl) h2, .inl ⟨hc, trivial⟩⟩
  · refine ⟨[L.b], .one ⟨_, L, hf, hL, hc, rfl⟩, fun X hX => ?_⟩
    simp only [O.holds]
    exact ⟨L, rfl, h3, D.at_mono (fun b _ hb => ⟨hX b hb, rfl⟩) (fun _ => rfl) h2, .inr ⟨hc, rfl, h4 hc⟩⟩

theorem toD_sound (hs : SatH K θ h nx w) {f : Nat} {T : Option (Nat × Nat)} {s : SV} {u : Value} {o : O} {ns : List Nat} (hv : V θ s u) (ha : toD (dOf P true h f T s) = some (o, ns)) :
    ∃ fp, NamesFp θ h ns fp ∧ ∀ X, (∀ b, Free K θ h b → X b) → O.holds X w o u fp := by
  unfold toD at ha
  split at ha <;> cases ha
  rename_i d ns' hd
  obtain ⟨a1, a2⟩ := dOf_sound (P := P) (ro := true) hs f _ _ _ _ _ hv hd
  rw [a1 rfl] at a2
  exact ⟨[], .nil, fun X hX => by simp only [O.holds]; exact ⟨a2 X ⟨hX, fun n hn => (by cases hn)⟩, trivial⟩⟩

theorem arr_holds (hs : SatH K θ h nx w) {n T : Nat} {k : IntKind} {xs : List Int} (hf : hfind h n = some (.own T (.ints k xs))) {u : Value} (hv : V θ (.q n) u) :
    ∃ fp, NamesFp θ h [n] fp ∧ ∀ X, (∀ b, Free K θ h b → X b) → O.holds X w (.arr T k xs) u fp := by
  simp only [V] at hv
  obtain ⟨L, hL, hLL, rfl⟩ := hv
  obtain ⟨L', hL', h2, h3, h4⟩ := hs.res n _ hf
  obtain rfl := Option.some.inj (hL.symm.trans hL')
  have hl := h2.1
  have hLL' : L = ⟨some ⟨L.b, 0, none⟩, xs.length, xs.length⟩ := by rw [← hl]; exact hLL
  by_cases hc : L.cap = 0
  · refine ⟨[], .none hL, fun X hX => ?_⟩
    simp only [O.holds]
    exact ⟨L, rfl, hLL', D.at_mono (fun b _ hb => ⟨hX b hb, rfl⟩) (fun _ => rfl) h2, .inl ⟨hc, trivial⟩⟩
  · refine ⟨[L.b], .one ⟨_, L, hf, hL, hc, rfl⟩, fun X hX => ?_⟩
    simp only [O.holds]
    exact ⟨L, rfl, hLL', D.at_mono (fun b _ hb => ⟨hX b hb, rfl⟩) (fun _ => rfl) h2, .inr ⟨hc, rfl, h4 hc⟩⟩

theorem nilO_holds {X : Nat → Prop} (T : Option (Nat × Nat)) : O.holds X w (nilO P T) (.slice none 0 0) [] := by
  have hv : O.holds X w (.d (.v (.slice none 0 0))) (.slice none 0 0) [] := by
    simp only [O.holds]
    exact ⟨⟨rfl, rfl⟩, trivial⟩
  unfold nilO
  split
  · split
    · split
      · split
        · simp only [O.holds]
          exact ⟨nilLoc, rfl, .inl rfl, ⟨rfl, Nat.le_refl _, fun i z hz => by simp at hz⟩, .inl ⟨rfl, trivial⟩⟩
        · simp only [O.holds]
          exact ⟨nilLoc, rfl, .inl rfl, ⟨rfl, Nat.le_refl _, fun i hi => absurd hi (by omega)⟩, .inl ⟨rfl, trivial⟩⟩
        · exact hv
      · exact hv
    · exact hv
  · exact hv
theorem treeN_sound {f : Option (Nat × Nat) → SV → Option (O × List Nat)} (hf : TSound K θ h w f) : TSound K θ h w (treeN P f) := by
  intro T s u o ns hv ha
  unfold treeN at ha
  split at ha
  · cases ha
    simp only [V] at hv
    subst hv
    exact ⟨[], .nil, fun X _ => nilO_holds T⟩
  · exact hf T s u o ns hv ha

theorem treeOf_sound (hs : SatH K θ h nx w) : ∀ (f : Nat), TSound K θ h w (treeOf P h f)
  | 0 => fun _ _ _ _ _ _ ha => by simp [treeOf] at ha
  | f + 1 => fun T s u o ns hv ha => by
    have ih : TSound K θ h w (treeOf P h f) := treeOf_sound hs f
    unfold treeOf at ha
    split at ha
    · rename_i n
      split at ha
      · cases ha
        rename_i hf
        exact own_holds hs hf hv
      · cases ha
        rename_i d hf
        simp only [V] at hv
        obtain ⟨L, hL, rfl⟩ := hv
        obtain ⟨L', hL', h2, h3, h4⟩ := hs.res n _ hf
        obtain rfl := Option.some.inj (hL.symm.trans hL')
        refine ⟨[], .nil, fun X hX => ?_⟩
        simp only [O.holds]
        have hk : Keeps (Free K θ h) X w w := fun b _ hb => ⟨hX b hb, rfl⟩
        exact ⟨holds_of_at (D.at_mono hk (fun _ => rfl) h2) h3 (Loc.inn_mono hk h4), trivial⟩
      · cases ha
    · rename_i n
      split at ha
      · rename_i U l hf
        split at ha <;> cases ha
        rename_i os ns' hd
        obtain ⟨L, hL, us, e1, e3, e4⟩ := hs.res n _ hf
        obtain ⟨fp, a1, a2⟩ := treesF_sound hs (treeN_sound ih) e4 hd
        have h1 := NamesFp.append hs (.one (⟨_, L, hf, hL, trivial, rfl⟩ : OwnsAt θ h n L.b)) a1
        refine ⟨L.b :: fp, by simpa using h1, fun X hX => ?_⟩
        simp only [O.holds]
        exact ⟨L.b, us, fp, ptr_zero hv hL e1, rfl, e3, a2 X hX⟩
      · exact toD_sound hs hv ha
      · cases ha
    · rename_i n
      split at ha <;> cases ha
      rename_i hf
      exact arr_holds hs hf hv
    · rename_i n
      split at ha
      · cases ha
        rename_i ks vs hf
        simp only [V] at hv
        obtain ⟨L, hL, rfl⟩ := hv
        obtain ⟨L', hL', e1, es, clock, e3, e4⟩ := hs.res n _ hf
        obtain rfl := Option.some.inj (hL.symm.trans hL')
        refine ⟨[L.b], .one ⟨_, L, hf, hL, trivial, rfl⟩, fun X hX => ?_⟩
        simp only [O.holds]
        exact ⟨L.b, es, clock, rfl, rfl, e3, e4⟩
      · cases ha
        rename_i ks vs hf
        simp only [V] at hv
        obtain ⟨L, hL, rfl⟩ := hv
        obtain ⟨L', hL', e1, e2, es, clock, e3, e4⟩ := hs.res n _ hf
        obtain rfl := Option.some.inj (hL.symm.trans hL')
        refine ⟨[], .nil, fun X hX => ?_⟩
        simp only [O.holds]
        exact ⟨⟨L.b, es, clock, rfl, hX _ e2, e3, e4⟩, trivial⟩
      · cases ha
    · rename_i l
      split at ha <;> cases ha
      rename_i os ns' hd
      simp only [V] at hv
      obtain ⟨us, rfl, e4⟩ := hv
      obtain ⟨fp, a1, a2⟩ := treesF_sound hs ih e4 hd
      exact ⟨fp, a1, fun X hX => by simp only [O.holds]; exact ⟨us, rfl, a2 X hX⟩⟩
    · cases ha
      simp only [V] at hv
      exact ⟨[], .nil, fun X hX => by simp only [O.holds]; exact ⟨hv, trivial⟩⟩
    · cases ha
      exact ⟨[], .nil, fun X hX => by simp only [O.holds]⟩
    · exact toD_sound hs hv ha

theorem readOf_sound (hs : SatH K θ h nx w) {ro : Bool} {T : Option (Nat × Nat)} {s : SV} {u : Value} {o : O} {ns : List Nat} (hv : V θ s u) (ha : readOf P ro h T s = some (o, ns)) :
    (ro = true → ns = []) ∧ ∀ X, Takes K θ h ns X → O.holds X w o u [] := by
  have dl : ∀ {X : Nat → Prop} {ds : List D} {us : List Value}, DL.holds X w ds us → OL.holds X w (ds.map .d) us [] := by
    intro X ds
    induction ds with
    | nil => intro us h; cases us with
      | nil => simp [OL.holds]
      | cons _ _ => exact h.elim
    | cons d ds ih => intro us h; cases us with
      | nil => exact h.elim
      | cons u us =>
        simp only [List.map_cons, OL.holds, O.holds]
        exact ⟨[], [], rfl, ⟨h.1, rfl⟩, ih h.2⟩
  unfold readOf at ha
  split at ha
  · rename_i l
    split at ha <;> cases ha
    rename_i ds ns' hd
    simp only [V] at hv
    obtain ⟨us, rfl, e4⟩ := hv
    obtain ⟨a1, a2⟩ := dsF_sound (dOf_sound (P := P) hs 8) e4 hd
    exact ⟨a1, fun X t => by simp only [O.holds]; exact ⟨us, rfl, dl (a2 X t)⟩⟩
  · cases ha
    simp only [V] at hv
    exact ⟨fun _ => rfl, fun X t => by simp only [O.holds]; exact ⟨hv, trivial⟩⟩
  · split at ha <;> cases ha
    rename_i d ns' hd
    obtain ⟨a1, a2⟩ := dOf_sound (P := P) hs 8 _ _ _ _ _ hv hd
    exact ⟨a1, fun X t => by simp only [O.holds]; exact ⟨a2 X t, trivial⟩⟩
end
end Go.Z
