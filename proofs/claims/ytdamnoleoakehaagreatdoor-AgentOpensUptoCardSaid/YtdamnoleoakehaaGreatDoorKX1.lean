/- Part 1 of what the closing text rests on. -/
import Derived.WalkKit
import Derived.WalkLawsBesides
import Derived.Deep.QuietTactic
namespace Go.Z
open Go.RowKit

structure Loc where
  a : Option Addr
  len : Nat
  cap : Nat

def Loc.b (L : Loc) : Nat := match L.a with | some a => a.block | none => 0
def Loc.o (L : Loc) : Nat := match L.a with | some a => a.off | none => 0
def Loc.wf (L : Loc) : Prop := L.cap = 0 ∨ L.a = some ⟨L.b, L.o, none⟩
def Loc.val (L : Loc) : Value := .slice L.a L.len L.cap

inductive Col where
  | ints (k : IntKind) (l : List Int)
  | bools (l : List Bool)
  | strs (l : List ByteArray)
  | prs (k : IntKind) (l : List (Int × Int))
def Col.len : Col → Nat
  | .ints _ l => l.length
  | .bools l => l.length
  | .strs l => l.length
  | .prs _ l => l.length
def Col.get? : Col → Nat → Option Value
  | .ints k l, i => (l[i]?).map (Value.int k)
  | .bools l, i => (l[i]?).map Value.bool
  | .strs l, i => (l[i]?).map Value.string
  | .prs k l, i => (l[i]?).map fun p => Value.agg #[.int k p.1, .int k p.2]

inductive D where
  | v (x : Value)
  | ints (k : IntKind) (xs : List Int)
  | recs (es n : Nat) (f : Nat → Nat → D)
  | ptr (T n : Nat) (f : Nat → D)
  | fn (g m n : Nat) (f : Nat → D)
  | map (ks vs : Col)
  | keys (ks : Col)

def D.es : D → Nat
  | .recs es _ _ => es
  | _ => 1
def D.len : D → Nat
  | .ints _ xs => xs.length
  | .recs _ n _ => n
  | _ => 0

structure MapIs (es : Array MapEntry) (clock : Nat) (ks vs : Col) : Prop where
  size : es.size = ks.len
  vals : vs.len = ks.len
  at_ : ∀ (i : Nat) (e : MapEntry), es[i]? = some e → ks.get? i = some e.key ∧ vs.get? i = some e.val
  born : ∀ (i : Nat) (e : MapEntry), es[i]? = some e → e.born < clock
  order : ∀ (i j : Nat) (e e' : MapEntry), i < j → es[i]? = some e → es[j]? = some e' → e.born < e'.born

structure MapK (es : Array MapEntry) (clock : Nat) (ks : Col) : Prop where
  size : es.size = ks.len
  key : ∀ (i : Nat) (e : MapEntry), es[i]? = some e → ks.get? i = some e.key
  born : ∀ (i : Nat) (e : MapEntry), es[i]? = some e → e.born < clock
  order : ∀ (i j : Nat) (e e' : MapEntry), i < j → es[i]? = some e → es[j]? = some e' → e.born < e'.born
def Loc.inn (L : Loc) (X : Nat → Prop) (w : World) : Prop := L.len ≠ 0 → X L.b ∧ L.b < w.heap.size

def D.holds (X : Nat → Prop) (w : World) : D → Value → Prop
  | .ptr T n f, c => ∃ (b : Nat) (us : List Value), c = .pointer (some ⟨b, 0, none⟩) ∧ X b ∧ w.heap[b]? = some (.cells us.toArray T (0, 0)) ∧ us.length = n ∧
      ∀ i, i < n → ∃ c', us[i]? = some c' ∧ (f i).holds X w c'
  | .fn g m n f, c => ∃ us : List Value, c = .func (.func g) (us.take m).toArray (us.drop m).toArray ∧ us.length = n ∧
      ∀ i, i < n → ∃ c', us[i]? = some c' ∧ (f i).holds X w c'
  | .map ks vs, c => ∃ (b : Nat) (es : Array MapEntry) (clock : Nat), c = .map (some b) ∧ X b ∧ w.heap[b]? = some (.map es clock) ∧ MapIs es clock ks vs
  | .keys ks, c => ∃ (b : Nat) (es : Array MapEntry) (clock : Nat), c = .map (some b) ∧ X b ∧ w.heap[b]? = some (.map es clock) ∧ MapK es clock ks
  | .v x, c => c = x ∧ x.oneCell' = true
  | .ints k xs, c => ∃ L : Loc, c = L.val ∧ L.wf ∧ L.inn X w ∧ L.len = xs.length ∧ L.len ≤ L.cap ∧
      ∀ i z, xs[i]? = some z → w.cell? ⟨L.b, L.o + i, none⟩ = some (.int k z)
  | .recs es n f, c => ∃ L : Loc, c = L.val ∧ L.wf ∧ L.inn X w ∧ L.len = n ∧ L.len ≤ L.cap ∧
      ∀ i, i < n → ∀ j, j < es → ∃ c', w.cell? ⟨L.b, L.o + (i * es + j), none⟩ = some c' ∧ (f i j).holds X w c'

def D.at (X : Nat → Prop) (w : World) (L : Loc) : D → Prop
  | .ints k xs => L.len = xs.length ∧ L.len ≤ L.cap ∧ ∀ i z, xs[i]? = some z → w.cell? ⟨L.b, L.o + i, none⟩ = some (.int k z)
  | .recs es n f => L.len = n ∧ L.len ≤ L.cap ∧
      ∀ i, i < n → ∀ j, j < es → ∃ c', w.cell? ⟨L.b, L.o + (i * es + j), none⟩ = some c' ∧ (f i j).holds X w c'
  | _ => False

theorem D.holds_ints {X w k xs c} : (D.ints k xs).holds X w c ↔ ∃ L : Loc, c = L.val ∧ L.wf ∧ L.inn X w ∧ (D.ints k xs).at X w L := by
  simp [D.holds, D.at]
theorem D.holds_recs {X w es n f c} : (D.recs es n f).holds X w c ↔ ∃ L : Loc, c = L.val ∧ L.wf ∧ L.inn X w ∧ (D.recs es n f).at X w L := by
  simp [D.holds, D.at]

theorem lt_of_cell {w : World} {b o : Nat} {v : Value} (h : w.cell? ⟨b, o, none⟩ = some v) : b < w.heap.size :=
  World.block_lt_of_cell? w _ h

theorem cell_eq {w w' : World} {b o : Nat} (h : w'.heap[b]? = w.heap[b]?) : w'.cell? ⟨b, o, none⟩ = w.cell? ⟨b, o, none⟩ := by
  simp [World.cell?, h]

theorem lt_of_heap_eq {w w' : World} {b : Nat} (hb : b < w.heap.size) (h : w'.heap[b]? = w.heap[b]?) : b < w'.heap.size := by
  rw [Array.getElem?_eq_getElem hb] at h
  exact (Array.getElem?_eq_some_iff.1 h).1

def Keeps (X X' : Nat → Prop) (w w' : World) : Prop := ∀ b, b < w.heap.size → X b → X' b ∧ w'.heap[b]? = w.heap[b]?

theorem Loc.inn_mono {L : Loc} {X X' : Nat → Prop} {w w' : World} (h : Keeps X X' w w') (hi : L.inn X w) : L.inn X' w' := fun hne =>
  let ⟨h1, h2⟩ := hi hne
  ⟨(h _ h2 h1).1, lt_of_heap_eq h2 (h _ h2 h1).2⟩

theorem D.holds_mono {X X' : Nat → Prop} {w w' : World} (h : Keeps X X' w w') :
    ∀ (d : D) (c : Value), d.holds X w c → d.holds X' w' c := by
  intro d
  induction d with
  | v x => intro c hc; exact hc
  | ints k xs =>
    intro c hc
    obtain ⟨L, h1, h2, h3, h4, h5, h6⟩ := hc
    refine ⟨L, h1, h2, h3 |> Loc.inn_mono h, h4, h5, fun i z hz => ?_⟩
    have hl := (List.getElem?_eq_some_iff.1 hz).1
    obtain ⟨hx, hb⟩ := h3 (by omega)
    rw [cell_eq (h _ hb hx).2]; exact h6 i z hz
  | recs es n f ih =>
    intro c hc
    obtain ⟨L, h1, h2, h3, h4, h5, h6⟩ := hc
    refine ⟨L, h1, h2, h3 |> Loc.inn_mono h, h4, h5, fun i hi j hj => ?_⟩
    obtain ⟨c', hc1, hc2⟩ := h6 i hi j hj
    obtain ⟨hx, hb⟩ := h3 (by omega)
    exact ⟨c', by rw [cell_eq (h _ hb hx).2]; exact hc1, ih i j c' hc2⟩
  | ptr T n f ih =>
    intro c hc
    obtain ⟨b, us, h1, h2, h3, h4, h5⟩ := hc
    have hb := (Array.getElem?_eq_some_iff.1 h3).1
    exact ⟨b, us, h1, (h _ hb h2).1, by rw [(h _ hb h2).2]; exact h3, h4, fun i hi => let ⟨c', e1, e2⟩ := h5 i hi; ⟨c', e1, ih i c' e2⟩⟩
  | fn g m n f ih =>
    intro c hc
    obtain ⟨us, h1, h4, h5⟩ := hc
    exact ⟨us, h1, h4, fun i hi => let ⟨c', e1, e2⟩ := h5 i hi; ⟨c', e1, ih i c' e2⟩⟩
  | map ks vs =>
    intro c hc
    obtain ⟨b, es, clock, h1, h2, h3, h4⟩ := hc
    have hb := (Array.getElem?_eq_some_iff.1 h3).1
    exact ⟨b, es, clock, h1, (h _ hb h2).1, by rw [(h _ hb h2).2]; exact h3, h4⟩
  | keys ks =>
    intro c hc
    obtain ⟨b, es, clock, h1, h2, h3, h4⟩ := hc
    have hb := (Array.getElem?_eq_some_iff.1 h3).1
    exact ⟨b, es, clock, h1, (h _ hb h2).1, by rw [(h _ hb h2).2]; exact h3, h4⟩

theorem D.at_mono {X X' : Nat → Prop} {w w' : World} {L : Loc} (h : Keeps X X' w w') {d : D}
    (hb : L.len ≠ 0 → w'.heap[L.b]? = w.heap[L.b]?) (hd : d.at X w L) : d.at X' w' L := by
  cases d with
  | v _ => exact hd.elim
  | ptr _ _ _ => exact hd.elim
  | fn _ _ _ _ => exact hd.elim
  | map _ _ => exact hd.elim
  | keys _ => exact hd.elim
  | ints k xs =>
    obtain ⟨h4, h5, h6⟩ := hd
    refine ⟨h4, h5, fun i z hz => ?_⟩
    have hl := (List.getElem?_eq_some_iff.1 hz).1
    rw [cell_eq (hb (by omega))]; exact h6 i z hz
  | recs es n f =>
    obtain ⟨h4, h5, h6⟩ := hd
    refine ⟨h4, h5, fun i hi j hj => ?_⟩
    obtain ⟨c', hc1, hc2⟩ := h6 i hi j hj
    exact ⟨c', by rw [cell_eq (hb (by omega))]; exact hc1, D.holds_mono h _ _ hc2⟩

inductive SV where
  | unk
  | b (t : Bool)
  | c (v : Value)
  | p (n o : Nat)
  | e (n es i o : Nat)
  | a (n : Nat)
  | nil
  | agg (l : List SV)
  | tup (l : List SV)
  | f (fn nf : Nat) (l : List SV)
  | arr (k : IntKind) (xs : List Int)
  | q (n : Nat)
  | m (n : Nat)
  | sl (n len : Nat)
  | g (n : Nat)
  | vw (n l : Nat)
  | px (S i b o : Nat)
  | hv (n k : Nat)
  | i (t : Nat) (v : SV)
  | w (ts : List Bool) (v : SV)

abbrev Th := Nat → Option Loc

mutual
def V (θ : Th) : SV → Value → Prop
  | .unk, _ => True
  | .b t, v => v = .bool t
  | .c y, v => v = y
  | .p n o, v => ∃ L, θ n = some L ∧ v = .pointer (some ⟨L.b, L.o + o, none⟩)
  | .e n es i o, v => ∃ L, θ n = some L ∧ i < L.len ∧ v = .pointer (some ⟨L.b, L.o + (i * es + o), none⟩)
  | .a n, v => ∃ L, θ n = some L ∧ v = L.val
  | .nil, v => v = .slice none 0 0
  | .agg l, v => ∃ cs : List Value, v = .agg cs.toArray ∧ VL θ l cs
  | .tup l, v => ∃ cs : List Value, v = .tuple cs.toArray ∧ VL θ l cs
  | .f fn nf l, v => ∃ cs : List Value, v = .func (.func fn) (cs.take nf).toArray (cs.drop nf).toArray ∧ VL θ l cs
  | .arr k xs, v => v = .agg (xs.map (Value.int k)).toArray
  | .q n, v => ∃ L : Loc, θ n = some L ∧ L = ⟨some ⟨L.b, 0, none⟩, L.len, L.len⟩ ∧ v = .pointer (some ⟨L.b, 0, none⟩)
  | .m n, v => ∃ L, θ n = some L ∧ v = .map (some L.b)
  | .sl n len, v => ∃ L, θ n = some L ∧ v = .slice (some ⟨L.b, L.o, none⟩) len len
  | .g n, v => v = .pointer (some ⟨n, 0, none⟩)
  | .vw n l, v => ∃ L, θ n = some L ∧ l ≤ L.len ∧ v = .slice (if L.cap = l then L.a else L.a.map (·.add l)) (L.len - l) (L.cap - l)
  | .px _ _ b o, v => v = .pointer (some ⟨b, o, none⟩)
  | .hv n l, v => ∃ L, θ n = some L ∧ l ≤ L.len ∧ v = .slice L.a l L.cap
  | .i t s, v => ∃ u, v = .iface t u ∧ V θ s u
  | .w ts s, v => ((∀ t, t ∈ ts → t = true) → V θ s v) ∧ ((¬ ∀ t, t ∈ ts → t = true) → v = undef)
def VL (θ : Th) : List SV → List Value → Prop
  | [], [] => True
  | s :: l, v :: vs => V θ s v ∧ VL θ l vs
  | _, _ => False
end

def Th.ext (θ θ' : Th) : Prop := ∀ n L, θ n = some L → θ' n = some L
theorem Th.ext_refl (θ : Th) : θ.ext θ := fun _ _ h => h
theorem Th.ext_trans {a b c : Th} (h : a.ext b) (k : b.ext c) : a.ext c := fun n L hn => k n L (h n L hn)

mutual
theorem V_mono {θ θ' : Th} (h : θ.ext θ') : ∀ (s : SV) (v : Value), V θ s v → V θ' s v
  | .unk, _, _ => by simp [V]
  | .b _, _, hv => by simpa [V] using hv
  | .c _, _, hv => by simpa [V] using hv
  | .p n o, v, hv => by
    simp only [V] at *
    obtain ⟨L, h1, h2⟩ := hv
    exact ⟨L, h _ _ h1, h2⟩
  | .e n es i o, v, hv => by
    simp only [V] at *
    obtain ⟨L, h1, h2⟩ := hv
    exact ⟨L, h _ _ h1, h2⟩
  | .a n, v, hv => by
    simp only [V] at *
    obtain ⟨L, h1, h2⟩ := hv
    exact ⟨L, h _ _ h1, h2⟩
  | .nil, v, hv => by simpa [V] using hv
  | .agg l, v, hv => by
    simp only [V] at *
    obtain ⟨cs, h1, h2⟩ := hv
    exact ⟨cs, h1, VL_mono h l cs h2⟩
  | .tup l, v, hv => by
    simp only [V] at *
    obtain ⟨cs, h1, h2⟩ := hv
    exact ⟨cs, h1, VL_mono h l cs h2⟩
  | .arr _ _, _, hv => by simpa [V] using hv
  | .q n, v, hv => by
    simp only [V] at *
    obtain ⟨L, h1, h2⟩ := hv
    exact ⟨L, h _ _ h1, h2⟩
  | .f fn nf l, v, hv => by
    simp only [V] at *
    obtain ⟨cs, h1, h2⟩ := hv
    exact ⟨cs, h1, VL_mono h l cs h2⟩
  | .m n, v, hv => by
    simp only [V] at *
    obtain ⟨L, h1, h2⟩ := hv
    exact ⟨L, h _ _ h1, h2⟩
  | .sl n _, v, hv => by
    simp only [V] at *
    obtain ⟨L, h1, h2⟩ := hv
    exact ⟨L, h _ _ h1, h2⟩
  | .g _, _, hv => by simpa [V] using hv
  | .vw n _, v, hv => by
    simp only [V] at *
    obtain ⟨L, h1, h2⟩ := hv
    exact ⟨L, h _ _ h1, h2⟩
  | .px _ _ _ _, _, hv => by simpa [V] using hv
  | .hv n _, v, hv => by
    simp only [V] at *
    obtain ⟨L, h1, h2⟩ := hv
    exact ⟨L, h _ _ h1, h2⟩
  | .i t s, v, hv => by
    simp only [V] at *
    obtain ⟨u, h1, h2⟩ := hv
    exact ⟨u, h1, V_mono h s u h2⟩
  | .w ts s, v, hv => by
    simp only [V] at *
    exact ⟨fun ht => V_mono h s v (hv.1 ht), hv.2⟩
theorem VL_mono {θ θ' : Th} (h : θ.ext θ') : ∀ (l : List SV) (vs : List Value), VL θ l vs → VL θ' l vs
  | [], [], _ => by simp [VL]
  | [], _ :: _, hv => by simp [VL] at hv
  | _ :: _, [], hv => by simp [VL] at hv
  | s :: l, v :: vs, hv => by
    simp only [VL] at *
    exact ⟨V_mono h s v hv.1, VL_mono h l vs hv.2⟩
end

end Go.Z

namespace Go.Z
open Go.RowKit

inductive PC where
  | sl (T : Nat)
  | mp (ks : Col)

inductive R where
  | dead
  | ro (d : D)
  | own (T : Nat) (d : D)
  | blk (T : Nat) (l : List SV)
  | rblk (T : Nat) (l : List SV)
  | map (ks vs : Col)
  | rmap (ks vs : Col)
  | gl (b T : Nat) (k : IntKind) (xs : List Int)
  | pown (c : PC) (S m : Nat) (bs : List Nat) (n : Nat) (f : Nat → Nat → D)
  | mapE (ks vs : Col) (st : List (Nat × Int))
  | mapR (ks : Col) (m : Nat) (f : Nat → Nat → D)
  | mapS (ks : Col) (l : List SV) (bn : List Nat) (clock : Nat)
  | mit (n since : Nat) (seen : List Nat) (last : Nat)

def Elem (X : Nat → Prop) (w : World) (S m : Nat) (g : Nat → D) (b : Nat) : Prop :=
  ∃ us : List Value, w.heap[b]? = some (.cells us.toArray S (0, 0)) ∧ us.length = m ∧ ∀ j, j < m → ∃ c, us[j]? = some c ∧ (g j).holds X w c
theorem Elem.mono {X X' : Nat → Prop} {w w' : World} {S m b : Nat} {g : Nat → D} (hk : Keeps X X' w w') (hb : w'.heap[b]? = w.heap[b]?) (h : Elem X w S m g b) : Elem X' w' S m g b := by
  obtain ⟨us, h1, h2, h3⟩ := h
  exact ⟨us, by rw [hb]; exact h1, h2, fun j hj => let ⟨c, e1, e2⟩ := h3 j hj; ⟨c, e1, D.holds_mono hk _ _ e2⟩⟩

def mapLoc (b : Nat) : Loc := ⟨some ⟨b, 0, none⟩, 0, 1⟩
def PtrsAre (es : Array MapEntry) (bs : List Nat) : Prop := ∀ (i : Nat) (e : MapEntry), es[i]? = some e → ∃ b, bs[i]? = some b ∧ e.val = .pointer (some ⟨b, 0, none⟩)

def POwn (X : Nat → Prop) (w : World) (L : Loc) (c : PC) (S m : Nat) (bs : List Nat) (n : Nat) (f : Nat → Nat → D) : Prop :=
  match c with
  | .sl T => L.wf ∧ L.len = n ∧ L.len ≤ L.cap ∧ bs.length = n ∧ bs.Nodup ∧ (L.cap ≠ 0 → L.b ∉ bs ∧ ∃ cs : Array Value, w.heap[L.b]? = some (.cells cs T (0, 0)) ∧ L.o + L.cap ≤ cs.size) ∧
    ∀ i b, bs[i]? = some b → w.cell? ⟨L.b, L.o + i, none⟩ = some (.pointer (some ⟨b, 0, none⟩)) ∧ Elem X w S m (f i) b
  | .mp ks => L = mapLoc L.b ∧ ks.len = n ∧ bs.length = n ∧ bs.Nodup ∧ L.b ∉ bs ∧ (∃ es clock, w.heap[L.b]? = some (.map es clock) ∧ MapK es clock ks ∧ PtrsAre es bs) ∧
    ∀ i b, bs[i]? = some b → Elem X w S m (f i) b

theorem POwn.len {X : Nat → Prop} {w : World} {L : Loc} {c : PC} {S m n : Nat} {bs : List Nat} {f : Nat → Nat → D} (h : POwn X w L c S m bs n f) : bs.length = n := by
  cases c with
  | sl T => exact h.2.2.2.1
  | mp ks => exact h.2.2.1
theorem POwn.nodup {X : Nat → Prop} {w : World} {L : Loc} {c : PC} {S m n : Nat} {bs : List Nat} {f : Nat → Nat → D} (h : POwn X w L c S m bs n f) : bs.Nodup := by
  cases c with
  | sl T => exact h.2.2.2.2.1
  | mp ks => exact h.2.2.2.1
theorem POwn.elem {X : Nat → Prop} {w : World} {L : Loc} {c : PC} {S m n i b : Nat} {bs : List Nat} {f : Nat → Nat → D} (h : POwn X w L c S m bs n f) (hb : bs[i]? = some b) : Elem X w S m (f i) b := by
  cases c with
  | sl T => exact (h.2.2.2.2.2.2 i b hb).2
  | mp ks => exact h.2.2.2.2.2.2 i b hb
theorem POwn.out {X : Nat → Prop} {w : World} {L : Loc} {c : PC} {S m n : Nat} {bs : List Nat} {f : Nat → Nat → D} (h : POwn X w L c S m bs n f) (hc : L.cap ≠ 0) : L.b ∉ bs := by
  cases c with
  | sl T => exact (h.2.2.2.2.2.1 hc).1
  | mp ks => exact h.2.2.2.2.1
theorem POwn.ext {X : Nat → Prop} {w : World} {L : Loc} {c : PC} {S m n : Nat} {bs : List Nat} {f g : Nat → Nat → D} (h : POwn X w L c S m bs n f) (he : ∀ i, i < n → ∀ j, j < m → f i j = g i j) : POwn X w L c S m bs n g := by
  have elem : ∀ i b, bs[i]? = some b → Elem X w S m (f i) b → Elem X w S m (g i) b := fun i b hi ⟨us, g2, g3, g4⟩ => by
    have hlt := (List.getElem?_eq_some_iff.1 hi).1
    have hl := h.len
    exact ⟨us, g2, g3, fun j hj => by rw [← he i (by omega) j hj]; exact g4 j hj⟩
  cases c with
  | sl T =>
    obtain ⟨p1, p2, p3, p4, p5, p6, p7⟩ := h
    exact ⟨p1, p2, p3, p4, p5, p6, fun i b hi => ⟨(p7 i b hi).1, elem i b hi (p7 i b hi).2⟩⟩
  | mp ks =>
    obtain ⟨p1, p2, p3, p4, p5, p6, p7⟩ := h
    exact ⟨p1, p2, p3, p4, p5, p6, fun i b hi => elem i b hi (p7 i b hi)⟩

def RecsAre (X : Nat → Prop) (w : World) (es : Array MapEntry) (m : Nat) (f : Nat → Nat → D) : Prop :=
  ∀ (i : Nat) (e : MapEntry), es[i]? = some e → ∃ us : List Value, e.val = .agg us.toArray ∧ us.length = m ∧ ∀ j, j < m → ∃ c, us[j]? = some c ∧ (f i j).holds X w c
theorem RecsAre.mono {X X' : Nat → Prop} {w w' : World} {es : Array MapEntry} {m : Nat} {f : Nat → Nat → D} (hk : Keeps X X' w w') (h : RecsAre X w es m f) : RecsAre X' w' es m f := fun i e he =>
  let ⟨us, h1, h2, h3⟩ := h i e he
  ⟨us, h1, h2, fun j hj => let ⟨c, e1, e2⟩ := h3 j hj; ⟨c, e1, D.holds_mono hk _ _ e2⟩⟩
def MapR (X : Nat → Prop) (w : World) (b : Nat) (ks : Col) (m : Nat) (f : Nat → Nat → D) : Prop :=
  ∃ es clock, w.heap[b]? = some (.map es clock) ∧ MapK es clock ks ∧ RecsAre X w es m f
theorem MapR.mono {X X' : Nat → Prop} {w w' : World} {b : Nat} {ks : Col} {m : Nat} {f : Nat → Nat → D} (hk : Keeps X X' w w') (hb : w'.heap[b]? = w.heap[b]?) (h : MapR X w b ks m f) : MapR X' w' b ks m f :=
  let ⟨es, clock, h1, h2, h3⟩ := h
  ⟨es, clock, by rw [hb]; exact h1, h2, h3.mono hk⟩

def GCell (w : World) (b : Nat) (k : IntKind) (xs : List Int) : Prop := b < w.heap.size ∧ ∀ i z, xs[i]? = some z → w.cell? ⟨b, i, none⟩ = some (.int k z)
theorem GCell.mono {w w' : World} {b : Nat} {k : IntKind} {xs : List Int} (h : GCell w b k xs) (hb : w'.heap[b]? = w.heap[b]?) : GCell w' b k xs :=
  ⟨lt_of_heap_eq h.1 hb, fun i z hz => by rw [cell_eq hb]; exact h.2 i z hz⟩

def R.has (L : Loc) (b : Nat) : R → Prop
  | .own _ _ => L.cap ≠ 0 ∧ L.b = b
  | .blk _ _ => L.b = b
  | .map _ _ => L.b = b
  | .mapE _ _ _ => L.b = b
  | .mapR _ _ _ => L.b = b
  | .mapS _ _ _ _ => L.b = b
  | .mit _ _ _ _ => L.b = b
  | .pown _ _ _ bs _ _ => (L.cap ≠ 0 ∧ L.b = b) ∨ b ∈ bs
  | _ => False

def R.holds (θ : Th) (X : Nat → Prop) (w : World) (L : Loc) : R → Prop
  | .dead => True
  | .ro d => d.at X w L ∧ L.wf ∧ L.inn X w
  | .own T d => d.at X w L ∧ L.wf ∧ (L.cap ≠ 0 → ∃ cs : Array Value, w.heap[L.b]? = some (.cells cs T (0, 0)) ∧ L.o + L.cap * d.es ≤ cs.size)
  | .blk T l => ∃ cs : List Value, L.a = some ⟨L.b, 0, none⟩ ∧ w.heap[L.b]? = some (.cells cs.toArray T (0, 0)) ∧ VL θ l cs
  | .rblk T l => ∃ cs : List Value, L.a = some ⟨L.b, 0, none⟩ ∧ X L.b ∧ w.heap[L.b]? = some (.cells cs.toArray T (0, 0)) ∧ VL θ l cs
  | .map ks vs => L.a = some ⟨L.b, 0, none⟩ ∧ ∃ es clock, w.heap[L.b]? = some (.map es clock) ∧ MapIs es clock ks vs
  | .gl b _ k xs => L = ⟨some ⟨b, 0, none⟩, xs.length, xs.length⟩ ∧ X b ∧ GCell w b k xs
  | .rmap ks vs => L.a = some ⟨L.b, 0, none⟩ ∧ X L.b ∧ ∃ es clock, w.heap[L.b]? = some (.map es clock) ∧ MapIs es clock ks vs
  | .pown c S m bs n f => POwn X w L c S m bs n f
  | .mapE ks vs st => L.a = some ⟨L.b, 0, none⟩ ∧ ∃ es clock, w.heap[L.b]? = some (.map es clock) ∧ MapIs es clock ks vs ∧ ∀ p, p ∈ st → ∃ e : MapEntry, es[p.1]? = some e ∧ (e.born : Int) = p.2
  | .mapR ks m f => L.a = some ⟨L.b, 0, none⟩ ∧ MapR X w L.b ks m f
  | .mapS ks l bn clock => L.a = some ⟨L.b, 0, none⟩ ∧ ∃ es, w.heap[L.b]? = some (.map es clock) ∧ MapK es clock ks ∧ VL θ l (es.toList.map (·.val)) ∧ es.toList.map (·.born) = bn
  | .mit n since seen last => L.a = some ⟨L.b, 0, none⟩ ∧ ∃ Lm, θ n = some Lm ∧ w.heap[L.b]? = some (.mapIter (some Lm.b) since seen.reverse.toArray last)

def hfind : List (Nat × R) → Nat → Option R
  | [], _ => none
  | (m, r) :: t, n => cond (Nat.beq m n) (some r) (hfind t n)

def efind : List (Nat × SV) → Nat → Option SV
  | [], _ => none
  | (m, r) :: t, n => cond (Nat.beq m n) (some r) (efind t n)

theorem hfind_cons (m n : Nat) (r : R) (t : List (Nat × R)) : hfind ((m, r) :: t) n = if m = n then some r else hfind t n := by
  show cond (Nat.beq m n) (some r) (hfind t n) = _
  by_cases h : m = n
  · subst h; simp
  · have : Nat.beq m n = false := by
      cases hb : Nat.beq m n with
      | false => rfl
      | true => exact absurd (Nat.eq_of_beq_eq_true hb) h
    rw [this, if_neg h]; rfl

theorem efind_cons (m n : Nat) (r : SV) (t : List (Nat × SV)) : efind ((m, r) :: t) n = if m = n then some r else efind t n := by
  show cond (Nat.beq m n) (some r) (efind t n) = _
  by_cases h : m = n
  · subst h; simp
  · have : Nat.beq m n = false := by
      cases hb : Nat.beq m n with
      | false => rfl
      | true => exact absurd (Nat.eq_of_beq_eq_true hb) h
    rw [this, if_neg h]; rfl

structure St where
  env : List (Nat × SV)
  h : List (Nat × R)
  nx : Nat

structure Ctx where
  w0 : World
  M : Nat → Prop
  A : Nat → Prop
  N : Nat
  ma : ∀ b, M b → A b

structure Fr (M : Nat → Prop) (w0 w : World) : Prop where
  os : w.os = w0.os
  tape : w.tape = w0.tape
  output : w.output = w0.output
  size : w0.heap.size ≤ w.heap.size
  block : ∀ b, b < w0.heap.size → ¬ M b → w.heap[b]? = w0.heap[b]?

theorem Fr.refl (M : Nat → Prop) (w : World) : Fr M w w := ⟨rfl, rfl, rfl, Nat.le_refl _, fun _ _ _ => rfl⟩

theorem Fr.below {w0 w : World} (h : Fr (fun _ => False) w0 w) : Below w0.heap.size w0 w := ⟨h.os, h.tape, h.output, h.size, fun b hb => h.block b hb (fun h => h)⟩
def OwnsAt (θ : Th) (h : List (Nat × R)) (n b : Nat) : Prop := ∃ r L, hfind h n = some r ∧ θ n = some L ∧ r.has L b
def Free (K : Ctx) (θ : Th) (h : List (Nat × R)) (b : Nat) : Prop := (∀ n, ¬ OwnsAt θ h n b) ∧ (K.w0.heap.size ≤ b ∨ K.A b)

structure SatX (K : Ctx) (X : Nat → Prop) (θ : Th) (h : List (Nat × R)) (nx : Nat) (w : World) : Prop where
  fresh : ∀ n, nx ≤ n → θ n = none
  res : ∀ n r, hfind h n = some r → ∃ L, θ n = some L ∧ r.holds θ X w L
  dis : ∀ n m b, OwnsAt θ h n b → OwnsAt θ h m b → n = m
  new : ∀ n b, OwnsAt θ h n b → K.w0.heap.size ≤ b ∨ K.M b
  frame : Fr K.M K.w0 w
  sub : ∀ b, X b → Free K θ h b

structure SatH (K : Ctx) (θ : Th) (h : List (Nat × R)) (nx : Nat) (w : World) : Prop where
  fresh : ∀ n, nx ≤ n → θ n = none
  res : ∀ n r, hfind h n = some r → ∃ L, θ n = some L ∧ r.holds θ (Free K θ h) w L
  dis : ∀ n m b, OwnsAt θ h n b → OwnsAt θ h m b → n = m
  new : ∀ n b, OwnsAt θ h n b → K.w0.heap.size ≤ b ∨ K.M b
  frame : Fr K.M K.w0 w

theorem SatH.toX {K : Ctx} {θ : Th} {h : List (Nat × R)} {nx : Nat} {w : World} (hs : SatH K θ h nx w) : SatX K (Free K θ h) θ h nx w :=
  ⟨hs.fresh, hs.res, hs.dis, hs.new, hs.frame, fun _ hb => hb⟩

structure SatE (K : Ctx) (θ : Th) (env : List (Nat × SV)) (a : Act) : Prop where
  size : a.tmps.size = K.N
  defers : a.defers = []
  val : ∀ t s, efind env t = some s → ∃ v, a.tmps[t]? = some v ∧ V θ s v

theorem SatE.mono {K : Ctx} {θ θ' : Th} {env : List (Nat × SV)} {a : Act} (h : SatE K θ env a) (hθ : θ.ext θ') : SatE K θ' env a :=
  ⟨h.size, h.defers, fun t s hs => let ⟨v, h1, h2⟩ := h.val t s hs; ⟨v, h1, V_mono hθ s v h2⟩⟩

theorem SatE.put {K : Ctx} {θ : Th} {env : List (Nat × SV)} {a : Act} (h : SatE K θ env a) {d : Nat} {s : SV} {v : Value} (hd : d < K.N) (hv : V θ s v) :
    SatE K θ ((d, s) :: env) (a.put (some d) v) := by
  refine ⟨by simp [Act.put, h.size], by simp [Act.put, h.defers], fun t s' hs => ?_⟩
  rw [efind_cons] at hs
  split at hs
  · rename_i e; subst e; simp at hs; subst hs
    exact ⟨v, by simp [Act.put, h.size, hd], hv⟩
  · rename_i e
    obtain ⟨v', h1, h2⟩ := h.val t s' hs
    exact ⟨v', by simp [Act.put, e]; exact h1, h2⟩

theorem SatE.eval {K : Ctx} {θ : Th} {env : List (Nat × SV)} {a : Act} (h : SatE K θ env a) {t : Nat} {s : SV} (hs : efind env t = some s) :
    V θ s (a.eval (.tmp t)) := by
  obtain ⟨v, h1, h2⟩ := h.val t s hs
  have : a.eval (.tmp t) = v := by
    simp only [Act.eval, Array.getD_eq_getD_getElem?, h1]; rfl
  rw [this]; exact h2

theorem D.at_len' {X : Nat → Prop} {w : World} {L : Loc} {d : D} (h : d.at X w L) : L.len = d.len ∧ L.len ≤ L.cap := by
  cases d with
  | ints k xs => exact ⟨h.1, h.2.1⟩
  | recs es n f => exact ⟨h.1, h.2.1⟩
  | v _ => exact h.elim
  | ptr _ _ _ => exact h.elim
  | fn _ _ _ _ => exact h.elim
  | map _ _ => exact h.elim
  | keys _ => exact h.elim

theorem POwn.lt {X : Nat → Prop} {w : World} {L : Loc} {c : PC} {S m n b : Nat} {bs : List Nat} {f : Nat → Nat → D} (h : POwn X w L c S m bs n f) (ho : (L.cap ≠ 0 ∧ L.b = b) ∨ b ∈ bs) : b < w.heap.size := by
  rcases ho with ⟨h1, rfl⟩ | h1
  · cases c with
    | sl T =>
      obtain ⟨_, cs, hc, _⟩ := h.2.2.2.2.2.1 h1
      exact (Array.getElem?_eq_some_iff.1 hc).1
    | mp ks =>
      obtain ⟨es, clock, hc, _⟩ := h.2.2.2.2.2.1
      exact (Array.getElem?_eq_some_iff.1 hc).1
  · obtain ⟨i, hi, rfl⟩ := List.getElem_of_mem h1
    obtain ⟨us, hc, _⟩ := h.elem (List.getElem?_eq_getElem hi)
    exact (Array.getElem?_eq_some_iff.1 hc).1
theorem POwn.mono {X X' : Nat → Prop} {w w' : World} {L : Loc} {c : PC} {S m n : Nat} {bs : List Nat} {f : Nat → Nat → D} (hk : Keeps X X' w w') (hb : ∀ b, (L.cap ≠ 0 ∧ L.b = b) ∨ b ∈ bs → w'.heap[b]? = w.heap[b]?) (h : POwn X w L c S m bs n f) : POwn X' w' L c S m bs n f := by
  cases c with
  | sl T =>
    obtain ⟨h1, h2, h3, h4, h5, h6, h7⟩ := h
    refine ⟨h1, h2, h3, h4, h5, fun hc => ?_, fun i b hi => ?_⟩
    · obtain ⟨g1, cs, g2, g3⟩ := h6 hc
      exact ⟨g1, cs, by rw [hb _ (.inl ⟨hc, rfl⟩)]; exact g2, g3⟩
    · obtain ⟨g1, g2⟩ := h7 i b hi
      have hlt := (List.getElem?_eq_some_iff.1 hi).1
      exact ⟨by rw [cell_eq (hb _ (.inl ⟨by omega, rfl⟩))]; exact g1, g2.mono hk (hb b (.inr (List.mem_of_getElem? hi)))⟩
  | mp ks =>
    obtain ⟨h1, h2, h3, h4, h5, ⟨es, clock, h6, h6', h6''⟩, h7⟩ := h
    have hcap : L.cap ≠ 0 := by rw [h1]; simp [mapLoc]
    exact ⟨h1, h2, h3, h4, h5, ⟨es, clock, by rw [hb _ (.inl ⟨hcap, rfl⟩)]; exact h6, h6', h6''⟩, fun i b hi => (h7 i b hi).mono hk (hb b (.inr (List.mem_of_getElem? hi)))⟩

theorem R.owned_lt {θ : Th} {X : Nat → Prop} {w : World} {L : Loc} {r : R} {b : Nat} (h : r.holds θ X w L) (ho : r.has L b) : b < w.heap.size := by
  cases r with
  | own T d =>
    obtain ⟨hc, rfl⟩ := ho
    obtain ⟨cs, hc, _⟩ := h.2.2 hc
    exact (Array.getElem?_eq_some_iff.1 hc).1
  | blk T l =>
    obtain rfl := ho
    obtain ⟨cs, _, hc, _⟩ := h
    exact (Array.getElem?_eq_some_iff.1 hc).1
  | map ks vs =>
    obtain rfl := ho
    obtain ⟨_, es, clock, hc, _⟩ := h
    exact (Array.getElem?_eq_some_iff.1 hc).1
  | mapE ks vs st =>
    obtain rfl := ho
    obtain ⟨_, es, clock, hc, _⟩ := h
    exact (Array.getElem?_eq_some_iff.1 hc).1
  | mapR ks m f =>
    obtain rfl := ho
    obtain ⟨_, es, clock, hc, _⟩ := h
    exact (Array.getElem?_eq_some_iff.1 hc).1
  | mapS ks l bn clock =>
    obtain rfl := ho
    obtain ⟨_, es, hc, _⟩ := h
    exact (Array.getElem?_eq_some_iff.1 hc).1
  | mit n since seen last =>
    obtain rfl := ho
    obtain ⟨_, Lm, _, hc⟩ := h
    exact (Array.getElem?_eq_some_iff.1 hc).1
  | pown c S m bs n f => exact POwn.lt h ho
  | dead => exact ho.elim
  | ro d => exact ho.elim
  | rblk T l => exact ho.elim
  | rmap ks vs => exact ho.elim
  | gl b T k xs => exact ho.elim

theorem OwnsAt.ltX {K : Ctx} {X : Nat → Prop} {θ : Th} {h : List (Nat × R)} {nx : Nat} {w : World} (hs : SatX K X θ h nx w) {n b : Nat} (ho : OwnsAt θ h n b) : b < w.heap.size := by
  obtain ⟨r, L, h1, h2, h3⟩ := ho
  obtain ⟨L', h2', h4⟩ := hs.res n r h1
  obtain rfl := Option.some.inj (h2.symm.trans h2')
  exact R.owned_lt h4 h3
theorem OwnsAt.lt {K : Ctx} {θ : Th} {h : List (Nat × R)} {nx : Nat} {w : World} (hs : SatH K θ h nx w) {n b : Nat} (ho : OwnsAt θ h n b) : b < w.heap.size := ho.ltX hs.toX

theorem R.holds_mono {θ θ' : Th} {X X' : Nat → Prop} {w w' : World} {L : Loc} {r : R} (hθ : θ.ext θ') (hk : Keeps X X' w w')
    (ho : ∀ b, r.has L b → w'.heap[b]? = w.heap[b]?) (h : r.holds θ X w L) : r.holds θ' X' w' L := by
  cases r with
  | dead => trivial
  | ro d =>
    obtain ⟨h1, h2, h3⟩ := h
    exact ⟨D.at_mono hk (fun hne => (hk _ (h3 hne).2 (h3 hne).1).2) h1, h2, Loc.inn_mono hk h3⟩
  | own T d =>
    obtain ⟨h1, h2, h3⟩ := h
    have hcap : L.len ≠ 0 → L.cap ≠ 0 := by have := (D.at_len' h1).2; omega
    refine ⟨D.at_mono hk (fun hne => ho _ ⟨hcap hne, rfl⟩) h1, h2, fun hc => ?_⟩
    obtain ⟨cs, hcs, hsz⟩ := h3 hc
    exact ⟨cs, by rw [ho _ ⟨hc, rfl⟩]; exact hcs, hsz⟩
  | blk T l =>
    obtain ⟨cs, h1, h2, h3⟩ := h
    exact ⟨cs, h1, by rw [ho _ rfl]; exact h2, VL_mono hθ _ _ h3⟩
  | rblk T l =>
    obtain ⟨cs, h1, h0, h2, h3⟩ := h
    have hb := (Array.getElem?_eq_some_iff.1 h2).1
    exact ⟨cs, h1, (hk _ hb h0).1, by rw [(hk _ hb h0).2]; exact h2, VL_mono hθ _ _ h3⟩
  | map ks vs =>
    obtain ⟨h1, es, clock, h2, h3⟩ := h
    exact ⟨h1, es, clock, by rw [ho _ rfl]; exact h2, h3⟩
  | mapE ks vs st =>
    obtain ⟨h1, es, clock, h2, h3⟩ := h
    exact ⟨h1, es, clock, by rw [ho _ rfl]; exact h2, h3⟩
  | mapR ks m f => exact ⟨h.1, h.2.mono hk (ho _ rfl)⟩
  | mapS ks l bn clock =>
    obtain ⟨h1, es, h2, h3, h4, h5⟩ := h
    exact ⟨h1, es, by rw [ho _ rfl]; exact h2, h3, VL_mono hθ _ _ h4, h5⟩
  | mit n since seen last =>
    obtain ⟨h1, Lm, h2, h3⟩ := h
    exact ⟨h1, Lm, hθ _ _ h2, by rw [ho _ rfl]; exact h3⟩
  | pown c S m bs n f => exact POwn.mono hk ho h
  | gl b T k xs =>
    obtain ⟨h1, h0, h2⟩ := h
    exact ⟨h1, (hk _ h2.1 h0).1, h2.mono (hk _ h2.1 h0).2⟩
  | rmap ks vs =>
    obtain ⟨h1, h0, es, clock, h2, h3⟩ := h
    have hb := (Array.getElem?_eq_some_iff.1 h2).1
    exact ⟨h1, (hk _ hb h0).1, es, clock, by rw [(hk _ hb h0).2]; exact h2, h3⟩

theorem SatH.gen {K : Ctx} {θ θ' : Th} {h h' : List (Nat × R)} {nx nx' : Nat} {w w' : World} (hs : SatH K θ h nx w) (hθ : θ.ext θ')
    (hfresh : ∀ n, nx' ≤ n → θ' n = none) (hk : Keeps (Free K θ h) (Free K θ' h') w w')
    (hres : ∀ n r, hfind h' n = some r → (hfind h n = some r ∧ ∀ L, θ n = some L → ∀ b, r.has L b → w'.heap[b]? = w.heap[b]?) ∨ (∃ L, θ' n = some L ∧ r.holds θ' (Free K θ' h') w' L))
    (hdis : ∀ n m b, OwnsAt θ' h' n b → OwnsAt θ' h' m b → n = m)
    (hnew : ∀ n b, OwnsAt θ' h' n b → K.w0.heap.size ≤ b ∨ K.M b) (hfr : Fr K.M K.w0 w') : SatH K θ' h' nx' w' := by
  refine ⟨hfresh, fun n r hr => ?_, hdis, hnew, hfr⟩
  rcases hres n r hr with ⟨h1, h2⟩ | h1
  · obtain ⟨L, h3, h4⟩ := hs.res n r h1
    exact ⟨L, hθ _ _ h3, R.holds_mono hθ hk (h2 L h3) h4⟩
  · exact h1

def Th.add (θ : Th) (n : Nat) (L : Loc) : Th := fun m => if m = n then some L else θ m
theorem Th.add_self (θ : Th) (n : Nat) (L : Loc) : θ.add n L n = some L := by simp [Th.add]
theorem Th.add_other (θ : Th) {n m : Nat} (L : Loc) (h : m ≠ n) : θ.add n L m = θ m := by simp [Th.add, h]
theorem Th.add_ext {θ : Th} {n : Nat} (h : θ n = none) (L : Loc) : θ.ext (θ.add n L) := fun m L' hm => by
  by_cases e : m = n
  · subst e; rw [h] at hm; cases hm
  · rw [Th.add_other _ _ e]; exact hm

theorem ownsAt_add' {θ : Th} {nx : Nat} (hn : θ nx = none) (h : List (Nat × R)) (r : R) (L : Loc) (n b : Nat) :
    OwnsAt (θ.add nx L) ((nx, r) :: h) n b ↔ (n = nx ∧ r.has L b) ∨ (n ≠ nx ∧ OwnsAt θ h n b) := by
  constructor
  · rintro ⟨r', L', h1, h2, h3⟩
    rw [hfind_cons] at h1
    by_cases e : n = nx
    · subst e
      rw [if_pos rfl] at h1
      rw [Th.add_self] at h2
      cases h1; cases h2
      exact .inl ⟨rfl, h3⟩
    · rw [if_neg (Ne.symm e)] at h1
      rw [Th.add_other _ _ e] at h2
      exact .inr ⟨e, r', L', h1, h2, h3⟩
  · rintro (⟨rfl, h3⟩ | ⟨e, r', L', h1, h2, h3⟩)
    · exact ⟨r, L, by rw [hfind_cons, if_pos rfl], Th.add_self _ _ _, h3⟩
    · exact ⟨r', L', by rw [hfind_cons, if_neg (Ne.symm e)]; exact h1, by rw [Th.add_other _ _ e]; exact h2, h3⟩
theorem SatH.below {K : Ctx} {θ : Th} {h : List (Nat × R)} {nx : Nat} {w w' : World} (hs : SatH K θ h nx w) (hb : Below w.heap.size w w') : SatH K θ h nx w' := by
  refine hs.gen (Th.ext_refl _) hs.fresh (fun b hb' hf => ⟨hf, hb.block b hb'⟩) (fun n r hr => .inl ⟨hr, fun L hL b ho => hb.block _ ?_⟩) hs.dis hs.new ?_
  · exact OwnsAt.lt hs ⟨r, L, hr, hL, ho⟩
  · exact ⟨hb.os.trans hs.frame.os, hb.tape.trans hs.frame.tape, hb.output.trans hs.frame.output, Nat.le_trans hs.frame.size hb.size,
      fun b hb1 hb2 => (hb.block b (Nat.lt_of_lt_of_le hb1 hs.frame.size)).trans (hs.frame.block b hb1 hb2)⟩

structure AddsX (K : Ctx) (X : Nat → Prop) (θ θ' : Th) (h h' : List (Nat × R)) (nx nx' : Nat) (w : World) : Prop where
  sat : SatX K X θ' h' nx' w
  ext : θ.ext θ'
  le : nx ≤ nx'
  agree : ∀ n, n < nx → θ' n = θ n
  find : ∀ n, n < nx → hfind h' n = hfind h n
  own : ∀ n b, OwnsAt θ' h' n b → OwnsAt θ h n b

theorem AddsX.refl {K : Ctx} {X : Nat → Prop} {θ : Th} {h : List (Nat × R)} {nx : Nat} {w : World} (hs : SatX K X θ h nx w) : AddsX K X θ θ h h nx nx w :=
  ⟨hs, Th.ext_refl _, Nat.le_refl _, fun _ _ => rfl, fun _ _ => rfl, fun _ _ h => h⟩
theorem AddsX.trans {K : Ctx} {X : Nat → Prop} {θ θ' θ'' : Th} {h h' h'' : List (Nat × R)} {nx nx' nx'' : Nat} {w : World} (a : AddsX K X θ θ' h h' nx nx' w) (b : AddsX K X θ' θ'' h' h'' nx' nx'' w) :
    AddsX K X θ θ'' h h'' nx nx'' w :=
  ⟨b.sat, Th.ext_trans a.ext b.ext, Nat.le_trans a.le b.le, fun n hn => (b.agree n (Nat.lt_of_lt_of_le hn a.le)).trans (a.agree n hn),
    fun n hn => (b.find n (Nat.lt_of_lt_of_le hn a.le)).trans (a.find n hn), fun n b' ho => a.own n b' (b.own n b' ho)⟩

theorem SatH.turn {K : Ctx} {θ : Th} {h : List (Nat × R)} {nx : Nat} {w w' : World} (hs : SatH K θ h nx w) {n : Nat} {r r' : R} {L : Loc}
    (hn : hfind h n = some r) (hL : θ n = some L) {b0 : Nat} (hw : r.has L b0)
    (hos : w'.os = w.os) (htape : w'.tape = w.tape) (hout : w'.output = w.output) (hsize : w'.heap.size = w.heap.size) (hblock : ∀ b, b ≠ b0 → w'.heap[b]? = w.heap[b]?)
    (hr' : ∀ b, r'.has L b ↔ r.has L b) (hh : ∀ X', (∀ b, b < w.heap.size → Free K θ h b → X' b) → r'.holds θ X' w' L) :
    SatH K θ ((n, r') :: h) nx w' := by
  have ho : ∀ m b, OwnsAt θ ((n, r') :: h) m b ↔ OwnsAt θ h m b := by
    intro m b
    constructor
    · rintro ⟨r1, L1, h1, h2, h3⟩
      rw [hfind_cons] at h1
      by_cases e : n = m
      · subst e
        rw [if_pos rfl] at h1
        rw [hL] at h2; cases h2; cases h1
        exact ⟨r, L, hn, hL, (hr' b).1 h3⟩
      · rw [if_neg e] at h1; exact ⟨r1, L1, h1, h2, h3⟩
    · rintro ⟨r1, L1, h1, h2, h3⟩
      by_cases e : n = m
      · subst e
        rw [hL] at h2; cases h2
        rw [hn] at h1; cases h1
        exact ⟨r', L, by rw [hfind_cons, if_pos rfl], hL, (hr' b).2 h3⟩
      · exact ⟨r1, L1, by rw [hfind_cons, if_neg e]; exact h1, h2, h3⟩
  have hF : ∀ b, Free K θ h b → Free K θ ((n, r') :: h) b := fun b hf => ⟨fun m hm => hf.1 m ((ho m b).1 hm), hf.2⟩
  have hme : OwnsAt θ h n b0 := ⟨r, L, hn, hL, hw⟩
  refine hs.gen (Th.ext_refl _) hs.fresh (fun b _ hf => ⟨hF b hf, hblock b (fun e => hf.1 n (e ▸ hme))⟩) ?_ (fun a b c h1 h2 => hs.dis a b c ((ho _ _).1 h1) ((ho _ _).1 h2)) (fun a b h1 => hs.new a b ((ho _ _).1 h1)) ?_
  · intro m r1 h1
    rw [hfind_cons] at h1
    split at h1
    · rename_i e; subst e; cases h1
      exact .inr ⟨L, hL, hh _ (fun b _ hf => hF b hf)⟩
    · rename_i e
      refine .inl ⟨h1, fun L1 hL1 b ho1 => hblock _ (fun e1 => e ?_)⟩
      subst e1
      exact hs.dis n m b hme ⟨r1, L1, h1, hL1, ho1⟩
  · refine ⟨hos.trans hs.frame.os, htape.trans hs.frame.tape, hout.trans hs.frame.output, by rw [hsize]; exact hs.frame.size, fun b hb1 hb2 => ?_⟩
    rw [hblock b ?_]
    · exact hs.frame.block b hb1 hb2
    · intro e; subst e
      rcases hs.new n _ hme with h1 | h1
      · omega
      · exact hb2 h1

theorem SatH.freeze {K : Ctx} {θ : Th} {h : List (Nat × R)} {nx : Nat} {w : World} (hs : SatH K θ h nx w) {n T : Nat} {d : D}
    (hn : hfind h n = some (.own T d)) : SatH K θ ((n, .ro d) :: h) nx w := by
  obtain ⟨L, hL, h1, h2, h3⟩ := hs.res n _ hn
  have ho : ∀ m b, OwnsAt θ ((n, .ro d) :: h) m b → OwnsAt θ h m b ∧ m ≠ n := by
    rintro m b ⟨r1, L1, h1, h2, h3⟩
    rw [hfind_cons] at h1
    split at h1
    · cases h1; exact h3.elim
    · rename_i e; exact ⟨⟨r1, L1, h1, h2, h3⟩, Ne.symm e⟩
  have hF : ∀ b, Free K θ h b → Free K θ ((n, .ro d) :: h) b := fun b hf => ⟨fun m hm => hf.1 m (ho m b hm).1, hf.2⟩
  have hcap : L.len ≠ 0 → L.cap ≠ 0 := by have := (D.at_len' h1).2; omega
  refine hs.gen (Th.ext_refl _) hs.fresh (fun b _ hf => ⟨hF b hf, rfl⟩) ?_ (fun a b c h1 h2 => hs.dis a b c (ho _ _ h1).1 (ho _ _ h2).1) (fun a b h1 => hs.new a b (ho _ _ h1).1) hs.frame
  intro m r1 hr
  rw [hfind_cons] at hr
  split at hr
  · rename_i e; subst e; cases hr
    refine .inr ⟨L, hL, D.at_mono (fun b _ hf => ⟨hF b hf, rfl⟩) (fun _ => rfl) h1, h2, fun hne => ⟨⟨fun m hm => ?_, ?_⟩, ?_⟩⟩
    · obtain ⟨hm1, hm2⟩ := ho m _ hm
      exact hm2 (hs.dis m n L.b hm1 ⟨_, L, hn, hL, hcap hne, rfl⟩)
    · exact (hs.new n L.b ⟨_, L, hn, hL, hcap hne, rfl⟩).imp id (K.ma _)
    · obtain ⟨cs, hc, _⟩ := h3 (hcap hne)
      exact (Array.getElem?_eq_some_iff.1 hc).1
  · exact .inl ⟨hr, fun _ _ _ _ => rfl⟩

section
variable {K : Ctx} {θ : Th} {h : List (Nat × R)} {nx : Nat} {w : World}
theorem SatH.move (hs : SatH K θ h nx w) {n T : Nat} {d r : D} {L L' : Loc} {w' : World} (hn : hfind h n = some (.own T d)) (hL : θ n = some L) (hcap : L.cap ≠ 0)
    (hb : L'.b = L.b) (hc' : L'.cap ≠ 0)
    (hos : w'.os = w.os) (htape : w'.tape = w.tape) (hout : w'.output = w.output) (hsize : w'.heap.size = w.heap.size) (hblock : ∀ b, b ≠ L.b → w'.heap[b]? = w.heap[b]?)
    (hh : ∀ X', (∀ b, b < w.heap.size → Free K θ h b → X' b) → (R.own T r).holds (θ.add nx L') X' w' L') :
    SatH K (θ.add nx L') ((nx, .own T r) :: (n, .dead) :: h) (nx + 1) w' := by
  have hnx := hs.fresh nx (Nat.le_refl _)
  have hne : n ≠ nx := fun e => by subst e; rw [hnx] at hL; cases hL
  have hme : OwnsAt θ h n L.b := ⟨_, L, hn, hL, hcap, rfl⟩
  have ho : ∀ m b, OwnsAt (θ.add nx L') ((nx, .own T r) :: (n, .dead) :: h) m b ↔ (m = nx ∧ b = L.b) ∨ (m ≠ nx ∧ m ≠ n ∧ OwnsAt θ h m b) := by
    intro m b
    rw [ownsAt_add' hnx]
    constructor
    · rintro (⟨rfl, _, h3⟩ | ⟨e, r1, L1, h1, h2, h3⟩)
      · exact .inl ⟨rfl, by rw [← h3, hb]⟩
      · rw [hfind_cons] at h1
        split at h1
        · cases h1; exact h3.elim
        · rename_i e2; exact .inr ⟨e, Ne.symm e2, r1, L1, h1, h2, h3⟩
    · rintro (⟨rfl, rfl⟩ | ⟨e, e2, r1, L1, h1, h2, h3⟩)
      · exact .inl ⟨rfl, hc', hb⟩
      · exact .inr ⟨e, r1, L1, by rw [hfind_cons, if_neg (Ne.symm e2)]; exact h1, h2, h3⟩
  have hF : ∀ b, Free K θ h b → Free K (θ.add nx L') ((nx, .own T r) :: (n, .dead) :: h) b := fun b hf => ⟨fun m hm => by
    rcases (ho m b).1 hm with ⟨_, e⟩ | ⟨_, _, h1⟩
    · subst e; exact hf.1 n hme
    · exact hf.1 m h1, hf.2⟩
  refine hs.gen (Th.add_ext hnx L') (fun m hm => by rw [Th.add_other _ _ (by omega)]; exact hs.fresh m (by omega)) (fun b _ hf => ⟨hF b hf, hblock b (fun e => hf.1 n (e ▸ hme))⟩) ?_ ?_ ?_ ?_
  · intro m r1 hr
    rw [hfind_cons] at hr
    split at hr
    · rename_i e; subst e; cases hr
      exact .inr ⟨L', Th.add_self _ _ _, hh _ (fun b _ hf => hF b hf)⟩
    · rename_i e
      rw [hfind_cons] at hr
      split at hr
      · rename_i e2; subst e2; cases hr
        exact .inr ⟨L, by rw [Th.add_other _ _ hne]; exact hL, trivial⟩
      · rename_i e2
        refine .inl ⟨hr, fun L1 hL1 b ho1 => hblock _ (fun e1 => e2 ?_)⟩
        subst e1
        exact hs.dis n m _ hme ⟨r1, L1, hr, hL1, ho1⟩
  · intro a b c h1 h2
    rcases (ho a c).1 h1 with ⟨e1, e1'⟩ | ⟨e1, e1', h3⟩ <;> rcases (ho b c).1 h2 with ⟨e2, e2'⟩ | ⟨e2, e2', h4⟩
    · omega
    · subst e1'; exact absurd (hs.dis n b _ hme h4).symm e2'
    · subst e2'; exact absurd (hs.dis n a _ hme h3).symm e1'
    · exact hs.dis a b c h3 h4
  · intro a b h1
    rcases (ho a b).1 h1 with ⟨_, e⟩ | ⟨_, _, h3⟩
    · subst e; exact hs.new n _ hme
    · exact hs.new a b h3
  · refine ⟨hos.trans hs.frame.os, htape.trans hs.frame.tape, hout.trans hs.frame.output, by rw [hsize]; exact hs.frame.size, fun b hb1 hb2 => ?_⟩
    rw [hblock b ?_]
    · exact hs.frame.block b hb1 hb2
    · intro e; subst e
      rcases hs.new n _ hme with h1 | h1
      · omega
      · exact hb2 h1
end
end Go.Z

namespace Go.Z
open Go.RowKit


def kindT (P : Program) (T : Nat) : Option (Bool × Nat) :=
  match P.underlying T, P.info? T with
  | some (.struct _), some i => some (true, i.size)
  | some (.array _ _), some i => some (true, i.size)
  | some _, some i => some (false, i.size)
  | _, _ => none

theorem run_typeInfo {P : Program} {T : Nat} {i : TypeInfo} (h : P.info? T = some i) (w : World) : (typeInfo T).run P w = .ok i w := by
  simp [typeInfo, h]
theorem run_sizeOf {P : Program} {T : Nat} {i : TypeInfo} (h : P.info? T = some i) (w : World) : (sizeOf T).run P w = .ok i.size w := by
  simp [sizeOf, run_typeInfo h]

theorem run_kind {P : Program} {T : Nat} {g : Bool} {s : Nat} (h : kindT P T = some (g, s)) (w : World) :
    (isAgg T).run P w = .ok g w ∧ (sizeOf T).run P w = .ok s w := by
  unfold kindT at h
  split at h <;> cases h
  all_goals
    rename_i hu hi
    refine ⟨?_, run_sizeOf hi w⟩
    simp only [isAgg, Sem.run_bind, run_underlying hu, Result.andThen]
  · rfl
  · rfl
  · rename_i u _ h1 h2
    cases u <;> first | rfl | (exact absurd rfl (h1 _ ‹_›)) | (exact absurd rfl (h2 _ _ ‹_›)) | (exact (h1 _ hu).elim) | (exact (h2 _ _ hu).elim)

def liftK1 : Value → SV
  | .bool b => .b b
  | .slice none 0 0 => .nil
  | v => .c v
def liftK : Value → SV
  | .agg cs => .agg (cs.toList.map liftK1)
  | v => liftK1 v

def get (env : List (Nat × SV)) : Operand → Option SV
  | .tmp t => efind env t
  | .const v => some (liftK v)
  | .func f => some (.f f 0 [])
  | .global n => some (.g n)

def shlI (k : IntKind) (a b : Int) : Int := k.wrap (a * 2 ^ (min b.toNat k.bits))
def shrI (k : IntKind) (a b : Int) : Int := a.fdiv (2 ^ (min b.toNat k.bits))

def binV (P : Program) (op : BinOp) (T : Nat) : Value → Value → Option (Prop × Value)
  | .int k a, .int k' b =>
    match op with
    | .shl => some (0 ≤ b, .int k (shlI k a b))
    | .shr => some (0 ≤ b, .int k (shrI k a b))
    | _ => if k = k' then
      match op with
      | .add => some (True, .int k (k.wrap (a + b)))
      | .sub => some (True, .int k (k.wrap (a - b)))
      | .mul => some (True, .int k (k.wrap (a * b)))
      | .quo => some (b ≠ 0, .int k (k.wrap (a.tdiv b)))
      | .rem => some (b ≠ 0, .int k (a.tmod b))
      | .and => some (True, .int k (bits .and k a b))
      | .or => some (True, .int k (bits .or k a b))
      | .xor => some (True, .int k (bits .xor k a b))
      | .andNot => some (True, .int k (bits .andNot k a b))
      | .eql => some (True, .bool (decide (a = b)))
      | .neq => some (True, .bool (!decide (a = b)))
      | .lss => some (True, .bool (decide (a < b)))
      | .leq => some (True, .bool (decide (a ≤ b)))
      | .gtr => some (True, .bool (decide (b < a)))
      | .geq => some (True, .bool (decide (b ≤ a)))
      | _ => none
      else none
  | .bool a, .bool b =>
    match op, P.underlying T with
    | .eql, some .bool => some (True, .bool (a == b))
    | .neq, some .bool => some (True, .bool (!(a == b)))
    | _, _ => none
  | .string a, .string b =>
    match op with
    | .add => some (((a.size + b.size : Nat) : Int) ≤ 9223372036854775807, .string (a ++ b))
    | .eql => some (True, .bool (decide (a.data.toList = b.data.toList)))
    | .neq => some (True, .bool (!decide (a.data.toList = b.data.toList)))
    | .lss => some (True, .bool (Op.bytesLess a.data.toList b.data.toList))
    | .gtr => some (True, .bool (!(Op.bytesLess a.data.toList b.data.toList || decide (a.data.toList = b.data.toList))))
    | .leq => some (True, .bool (Op.bytesLess a.data.toList b.data.toList || decide (a.data.toList = b.data.toList)))
    | .geq => some (True, .bool (!Op.bytesLess a.data.toList b.data.toList))
    | _ => none
  | _, _ => none

theorem binV_sound {P : Program} {op : BinOp} {T : Nat} {x y : Value} {c : Prop} {v : Value} (h : binV P op T x y = some (c, v)) (hc : c) (ox oy : Operand) (w : World) :
    (do eqGuard op T ox oy x y; binOp op T x y : Sem Value).run P w = .ok v w := by
  cases x <;> cases y <;> simp only [binV] at h <;> try (cases h; done)
  case int.int k a k' b =>
    cases op <;> simp only at h <;> (try split at h) <;> cases h <;> (try subst_vars) <;>
      simp [eqGuard, binOp, Op.intArith, Op.intDiv, intBits_and, intBits_or, intBits_xor, intBits_andNot, Op.intCmp, Op.shift, shlI, shrI, *]
    all_goals first
      | (intro hb; omega)
      | (rw [Bool.eq_iff_iff]; simp)
  case bool.bool a b =>
    split at h <;> cases h <;> rename_i hu
    · simp [eqGuard, run_eql_bool w T a b hu]
    · simp [eqGuard, run_neq_bool w T a b hu]
  case string.string a b =>
    cases op <;> simp only at h <;> cases h <;>
      simp [eqGuard, binOp, Op.stringOp, ByteArray.toList_eq]
    all_goals first
      | omega
      | (rw [Bool.eq_iff_iff]; simp)

theorem add_mk (b o n : Nat) : Addr.add ⟨b, o, none⟩ n = ⟨b, o + n, none⟩ := Addr.add_lit b o n

theorem run_loadVar_agg {P : Program} {T s : Nat} (h : kindT P T = some (true, s)) (w : World) (b o : Nat) (vs : List Value) (hl : vs.length = s)
    (hc : ∀ j v, vs[j]? = some v → w.cell? ⟨b, o + j, none⟩ = some v) : (loadVar T ⟨b, o, none⟩).run P w = .ok (.agg vs.toArray) w := by
  obtain ⟨h1, h2⟩ := run_kind h w
  have h3 := run_loadCells_list (P := P) w ⟨b, o, none⟩ vs (fun j v hv => by rw [add_mk]; exact hc j v hv)
  rw [hl] at h3
  simp [loadVar, h1, h2, h3]

theorem run_loadVar_one {P : Program} {T s : Nat} (h : kindT P T = some (false, s)) (w : World) (b o : Nat) (v : Value)
    (hc : w.cell? ⟨b, o, none⟩ = some v) : (loadVar T ⟨b, o, none⟩).run P w = .ok v w := by
  obtain ⟨h1, h2⟩ := run_kind h w
  simp [loadVar, h1, hc]

structure Grows (K : Ctx) (θ θ' : Th) (nx nx' : Nat) (h' : List (Nat × R)) (w : World) : Prop where
  sat : SatH K θ' h' nx' w
  ext : θ.ext θ'
  le : nx ≤ nx'
  agree : ∀ n, n < nx → θ' n = θ n

theorem Grows.refl {K : Ctx} {θ : Th} {h : List (Nat × R)} {nx : Nat} {w : World} (hs : SatH K θ h nx w) : Grows K θ θ nx nx h w := ⟨hs, Th.ext_refl _, Nat.le_refl _, fun _ _ => rfl⟩

theorem Grows.trans {K : Ctx} {θ θ' θ'' : Th} {h' h'' : List (Nat × R)} {nx nx' nx'' : Nat} {w : World} (a : Grows K θ θ' nx nx' h' w) (b : Grows K θ' θ'' nx' nx'' h'' w) : Grows K θ θ'' nx nx'' h'' w :=
  ⟨b.sat, Th.ext_trans a.ext b.ext, Nat.le_trans a.le b.le, fun n hn => (b.agree n (Nat.lt_of_lt_of_le hn a.le)).trans (a.agree n hn)⟩

theorem AddsX.free {K : Ctx} {X : Nat → Prop} {θ θ' : Th} {h h' : List (Nat × R)} {nx nx' : Nat} {w : World} (a : AddsX K X θ θ' h h' nx nx' w) (b : Nat) (hb : Free K θ h b) : Free K θ' h' b :=
  ⟨fun n hn => hb.1 n (a.own n b hn), hb.2⟩

section
variable {K : Ctx} {X : Nat → Prop} {w : World}

end

def DL.holds (X : Nat → Prop) (w : World) : List D → List Value → Prop
  | [], [] => True
  | d :: l, c :: cs => d.holds X w c ∧ DL.holds X w l cs
  | _, _ => False

theorem DL.holds_mono {X X' : Nat → Prop} {w w' : World} (h : Keeps X X' w w') : ∀ {l : List D} {cs : List Value}, DL.holds X w l cs → DL.holds X' w' l cs
  | [], [], _ => trivial
  | [], _ :: _, h => h.elim
  | _ :: _, [], h => h.elim
  | d :: _, c :: _, hh => ⟨D.holds_mono h d c hh.1, DL.holds_mono h hh.2⟩

theorem nbeq {a b : Nat} (h : Nat.beq a b = true) : a = b := Nat.eq_of_beq_eq_true h
theorem nble {a b : Nat} (h : Nat.ble a b = true) : a ≤ b := Nat.le_of_ble_eq_true h
theorem nblt {a b : Nat} (h : Nat.blt a b = true) : a < b := Nat.le_of_ble_eq_true h
theorem cond_false {c : Bool} {p : Prop} (h : cond c p False) : c = true ∧ p := by
  cases c
  · exact h.elim
  · exact ⟨rfl, h⟩

end Go.Z

