/- One operation that only reads: what it yields, symbolically; that it does so in every world that has grown of this one. -/
import Derived.Test.YtonfaeenoifomaaZ3
namespace Go.Z
open Go.RowKit

def fldT (P : Program) (S f : Nat) : Option Nat :=
  match P.underlying S with
  | some (.struct fs) =>
    match fs[f]? with
    | some fl => match kindT P fl.type with
      | some (_, _ + 1) => some fl.offset
      | _ => none
    | none => none
  | _ => none

theorem run_fieldAt {P : Program} {S f off : Nat} (h : fldT P S f = some off) (w : World) (b o : Nat) :
    (Instr.fieldAt S (.pointer (some ⟨b, o, none⟩)) f).run P w = .ok (.pointer (some ⟨b, o + off, none⟩)) w := by
  unfold fldT at h
  split at h <;> try (cases h; done)
  rename_i fs hu
  split at h <;> try (cases h; done)
  rename_i fl hf
  split at h <;> cases h
  rename_i g n hk
  obtain ⟨_, h2⟩ := run_kind hk w
  simp [Instr.fieldAt, run_underlying hu, hf, Instr.sureAddr, fieldPlace, h2, add_mk]

/-- The cells of a value, where each is known to be one. -/
def oneS : SV → Bool
  | .c v => v.oneCell'
  | .b _ | .p .. | .e .. | .a _ | .nil | .f .. | .m _ | .q _ => true
  | _ => false

def cellsS : SV → Option (List SV)
  | .agg l => some l
  | s => cond (oneS s) (some [s]) none

theorem oneCell_of {θ : Th} {s : SV} {v : Value} (h : oneS s = true) (hv : V θ s v) : v.oneCell' = true := by
  cases s <;> simp only [oneS] at h <;> simp only [V] at hv <;> try (cases h; done)
  · subst hv; rfl
  · subst hv; exact h
  · obtain ⟨L, _, rfl⟩ := hv; rfl
  · obtain ⟨L, _, _, rfl⟩ := hv; rfl
  · obtain ⟨L, _, rfl⟩ := hv; rfl
  · subst hv; rfl
  · obtain ⟨L, rfl, _⟩ := hv; rfl
  · obtain ⟨L, _, _, rfl⟩ := hv; rfl
  · obtain ⟨L, _, rfl⟩ := hv; rfl

theorem cells_of_one {v : Value} (h : v.oneCell' = true) : v.cells = #[v] := by
  cases v <;> simp [Value.oneCell'] at h <;> rfl

theorem V_cellsS {θ : Th} {s : SV} {l : List SV} {v : Value} (h : cellsS s = some l) (hv : V θ s v) : VL θ l v.cells.toList := by
  cases s with
  | agg l' =>
    simp [cellsS] at h; subst h
    simp only [V] at hv
    obtain ⟨cs, rfl, h2⟩ := hv
    simpa [Value.cells] using h2
  | _ =>
    simp only [cellsS] at h
    cases ho : oneS _ with
    | false => rw [ho] at h; cases h
    | true =>
      rw [ho] at h; cases h
      rw [cells_of_one (oneCell_of ho hv)]
      exact VL_cons.2 ⟨hv, VL_nil⟩

def bstr (xs : List Int) : ByteArray := ⟨(xs.map fun n => UInt8.ofNat n.toNat).toArray⟩

theorem foldl_push_bytes : ∀ (xs : List Int) (s : ByteArray), xs.foldl (fun r n => r.push (UInt8.ofNat n.toNat)) s = ⟨s.data ++ (xs.map fun n => UInt8.ofNat n.toNat).toArray⟩
  | [], s => by simp
  | x :: xs, s => by
    rw [List.foldl_cons, foldl_push_bytes xs]
    simp [ByteArray.push]

theorem loadCells_ints {P : Program} {w : World} {L : Loc} {k : IntKind} {xs : List Int} (hw : L.wf) (hlen : L.len = xs.length) (hcap : L.len ≤ L.cap)
    (hc : ∀ i z, xs[i]? = some z → w.cell? ⟨L.b, L.o + i, none⟩ = some (.int k z)) {a : Addr} (ha : L.a = some a) :
    (loadCells a L.len).run P w = .ok (xs.map (Value.int k)).toArray w := by
  rcases hw with h0 | h0
  · have : L.len = 0 := by omega
    have hx : xs = [] := List.eq_nil_of_length_eq_zero (by omega)
    subst hx
    rw [this]
    rfl
  · rw [h0] at ha; cases ha
    have := run_loadCells_list (P := P) w ⟨L.b, L.o, none⟩ (xs.map (Value.int k)) (fun j v hv => by
      rw [add_mk]
      rw [List.getElem?_map] at hv
      cases hx : xs[j]? with
      | none => rw [hx] at hv; simp at hv
      | some z => rw [hx] at hv; simp at hv; subst hv; exact hc j z hx)
    rw [List.length_map, ← hlen] at this
    exact this

theorem run_bytes_string {P : Program} {w : World} {L : Loc} {xs : List Int} (hw : L.wf) (hlen : L.len = xs.length) (hcap : L.len ≤ L.cap)
    (hc : ∀ i z, xs[i]? = some z → w.cell? ⟨L.b, L.o + i, none⟩ = some (.int .u8 z)) :
    (Conv.bytesToString L.val).run P w = .ok (.string (bstr xs)) w := by
  unfold Loc.val
  cases ha : L.a with
  | none =>
    rcases hw with h0 | h0
    · have hx : xs = [] := List.eq_nil_of_length_eq_zero (by omega)
      subst hx
      rfl
    · rw [ha] at h0; cases h0
  | some a =>
    rw [run_bytesToString w a L.len L.cap xs (loadCells_ints hw hlen hcap hc ha), foldl_push_bytes]
    simp [bstr, ByteArray.empty, ByteArray.emptyWithCapacity]
    rfl

/-! Parts of an array -/
def D.sub (l m : Nat) : D → D
  | .ints k xs => .ints k ((xs.drop l).take m)
  | .recs es _ f => .recs es m (fun i j => f (l + i) j)
  | d => d
def D.takeD (m : Nat) : D → D
  | .ints k xs => .ints k (xs.take m)
  | .recs es _ f => .recs es m f
  | d => d
def D.dropD (l : Nat) : D → D
  | .ints k xs => .ints k (xs.drop l)
  | .recs es n f => .recs es (n - l) (fun i j => f (l + i) j)
  | d => d

def Loc.sub (L : Loc) (l h m es : Nat) : Loc := { a := if m = l then L.a else L.a.map (·.add (l * es)), len := h - l, cap := m - l }

theorem Loc.sub_ne {L : Loc} (hw : L.wf) {l h m es : Nat} (hm : m ≤ L.cap) (hl : l < m) : (L.sub l h m es).a = some ⟨L.b, L.o + l * es, none⟩ ∧ (L.sub l h m es).b = L.b ∧ (L.sub l h m es).o = L.o + l * es := by
  have h0 : L.a = some ⟨L.b, L.o, none⟩ := hw.resolve_left (by omega)
  have h1 : (L.sub l h m es).a = some ⟨L.b, L.o + l * es, none⟩ := by
    simp only [Loc.sub]
    rw [if_neg (by omega), h0]
    simp [add_mk]
  refine ⟨h1, ?_, ?_⟩
  · show (match (L.sub l h m es).a with | some a => a.block | none => 0) = _; rw [h1]
  · show (match (L.sub l h m es).a with | some a => a.off | none => 0) = _; rw [h1]

theorem Loc.sub_wf {L : Loc} (hw : L.wf) {l h m es : Nat} (hm : m ≤ L.cap) : (L.sub l h m es).wf := by
  by_cases e : m ≤ l
  · exact .inl (by simp [Loc.sub]; omega)
  · obtain ⟨h1, h2, h3⟩ := Loc.sub_ne (h := h) (es := es) hw hm (show l < m by omega)
    exact .inr (by rw [h1, h2, h3])

theorem Loc.sub_inn {L : Loc} {X : Nat → Prop} {w : World} (hw : L.wf) (hi : L.inn X w) {l h m es : Nat} (hm : m ≤ L.cap) (hlm : h ≤ m) (hh : h ≤ L.len) : (L.sub l h m es).inn X w := fun hne => by
  have hne' : h - l ≠ 0 := hne
  obtain ⟨_, h2, _⟩ := Loc.sub_ne (h := h) (es := es) hw hm (show l < m by omega)
  rw [h2]
  exact hi (by omega)

theorem D.sub_at {X : Nat → Prop} {w : World} {L : Loc} {d : D} (hw : L.wf) (hd : d.at X w L) {l h m es : Nat} (hes : es = d.es) (hm : m ≤ L.cap) (hlh : l ≤ h) (hlm : h ≤ m) (hh : h ≤ L.len) :
    (d.sub l (h - l)).at X w (L.sub l h m es) := by
  cases d with
  | v x => exact hd.elim
  | ptr _ _ _ => exact hd.elim
  | fn _ _ _ _ => exact hd.elim
  | map _ _ => exact hd.elim
  | ints k xs =>
    obtain ⟨h1, h2, h3⟩ := hd
    refine ⟨by simp [Loc.sub]; omega, by simp [Loc.sub]; omega, fun i z hz => ?_⟩
    rw [List.getElem?_take] at hz
    split at hz <;> try (cases hz; done)
    rename_i hi
    rw [List.getElem?_drop] at hz
    obtain ⟨_, e2, e3⟩ := Loc.sub_ne (h := h) (es := es) hw hm (show l < m by omega)
    have := h3 _ _ hz
    have hes' : es = 1 := hes
    subst hes'
    rw [e2, e3, show L.o + l * 1 + i = L.o + (l + i) by omega]
    exact this
  | recs es' n f =>
    obtain ⟨h1, h2, h3⟩ := hd
    refine ⟨by simp [Loc.sub], by simp [Loc.sub]; omega, fun i hi j hj => ?_⟩
    obtain ⟨_, e2, e3⟩ := Loc.sub_ne (h := h) (es := es) hw hm (show l < m by omega)
    obtain ⟨c, h4, h5⟩ := h3 (l + i) (by omega) j hj
    have hes' : es = es' := hes
    subst hes'
    refine ⟨c, ?_, h5⟩
    rw [e2, e3, show L.o + l * es + (i * es + j) = L.o + ((l + i) * es + j) by rw [Nat.add_mul]; omega]
    exact h4

theorem D.takeD_at {X : Nat → Prop} {w : World} {L : Loc} {d : D} {m : Nat} (h : (d.sub 0 m).at X w L) : (d.takeD m).at X w L := by
  cases d with
  | v x => exact h
  | ptr _ _ _ => exact h
  | fn _ _ _ _ => exact h
  | map _ _ => exact h
  | ints k xs => simpa [D.sub, D.takeD, D.at] using h
  | recs es n f => simpa [D.sub, D.takeD, D.at] using h

theorem D.dropD_at {X : Nat → Prop} {w : World} {L : Loc} {d : D} {l m : Nat} (hm : m = d.len - l) (h : (d.sub l m).at X w L) : (d.dropD l).at X w L := by
  cases d with
  | v x => exact h
  | ptr _ _ _ => exact h
  | fn _ _ _ _ => exact h
  | map _ _ => exact h
  | ints k xs =>
    subst hm
    have : (List.take ((D.ints k xs).len - l) (List.drop l xs)) = List.drop l xs := List.take_of_length_le (by simp [D.len])
    simp only [D.sub, this] at h
    exact h
  | recs es n f => subst hm; simpa [D.sub, D.dropD, D.at, D.len] using h

theorem sub_val {L : Loc} {l h m es : Nat} : (L.sub l h m es).val = .slice (if m = l then L.a else L.a.map (·.add (l * es))) (h - l) (m - l) := rfl

theorem D.at_len {X : Nat → Prop} {w : World} {L : Loc} {d : D} (h : d.at X w L) : L.len = d.len ∧ L.len ≤ L.cap := by
  cases d with
  | v x => exact h.elim
  | ptr _ _ _ => exact h.elim
  | fn _ _ _ _ => exact h.elim
  | map _ _ => exact h.elim
  | ints k xs => exact ⟨h.1, h.2.1⟩
  | recs es n f => exact ⟨h.1, h.2.1⟩
end Go.Z
