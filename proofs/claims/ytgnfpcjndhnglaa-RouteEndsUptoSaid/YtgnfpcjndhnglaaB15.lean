/- Messages, nodes, names: opened as the ways' walks want them. -/
import Derived.Test.YtgnfpcjndhnglaaB11
import Derived.Test.YtgnfpcjndhnglaaY31
namespace Go.YR
open Go.Proofs
open Go.ChangeShapes Go.WideShapes Go.ChangeAt Go.RowKit
open Go.Y Go.YM

theorem range_get {α : Type} (n : Nat) (F : Nat → α) (d : α) {i : Nat} (hi : i < n) : ((List.range n).map F).getD i d = F i := by
  simp [List.getD, hi]
theorem recs_avps {N n : Nat} {f : Nat → Nat → D} (h : ∀ i, i < n → fitsL N [.int .u32, .int .u32, .bool, .bool, .ints .u8] (f i)) :
    ∃ l : List AvpR, readsTo (.recs 5 n f) (avpsD l) ∧ l.length = n ∧ ∀ a, a ∈ l → a.data.length ≤ N := by
  refine ⟨(List.range n).map fun i => avpAt (f i), ?_, by simp, fun a ha => ?_⟩
  · have hl : ((List.range n).map fun i => avpAt (f i)).length = n := by simp
    show readsTo (.recs 5 n f) (.recs 5 ((List.range n).map fun i => avpAt (f i)).length (avpCell ((List.range n).map fun i => avpAt (f i))))
    rw [hl]
    refine reads_recs fun i hi j hj => ?_
    have hf := h i hi
    simp only [fitsL, fits] at hf
    obtain ⟨⟨x0, e0, _⟩, ⟨x1, e1, _⟩, ⟨x2, e2⟩, ⟨x3, e3⟩, ⟨x4, e4, _⟩, _⟩ := hf
    unfold avpCell
    rw [range_get n _ _ hi]
    match j, hj with
    | 0, _ => simp only [avpAt, e0, vi]
    | 1, _ => simp only [avpAt, e1, vi]
    | 2, _ => simp only [avpAt, e2, vb]
    | 3, _ => simp only [avpAt, e3, vb]
    | 4, _ => simp only [avpAt, e4, vl]
  · obtain ⟨i, hi, rfl⟩ := List.mem_map.1 ha
    have hf := h i (by simpa using hi)
    simp only [fitsL, fits] at hf
    obtain ⟨_, _, _, _, ⟨x4, e4, _, h4⟩, _⟩ := hf
    simp only [avpAt, e4, vl]; exact h4
theorem recs_rts {N n : Nat} {f : Nat → Nat → D} (h : ∀ i, i < n → fitsL N [.str, .ints .i64] (f i)) :
    ∃ l : List RtR, readsTo (.recs 2 n f) (rtsD l) ∧ l.length = n ∧ ∀ a, a ∈ l → a.via.length ≤ N := by
  refine ⟨(List.range n).map fun i => rtAt (f i), ?_, by simp, fun a ha => ?_⟩
  · have hl : ((List.range n).map fun i => rtAt (f i)).length = n := by simp
    show readsTo (.recs 2 n f) (.recs 2 ((List.range n).map fun i => rtAt (f i)).length (rtCell ((List.range n).map fun i => rtAt (f i))))
    rw [hl]
    refine reads_recs fun i hi j hj => ?_
    have hf := h i hi
    simp only [fitsL, fits] at hf
    obtain ⟨⟨x0, e0, _⟩, ⟨x1, e1, _⟩, _⟩ := hf
    unfold rtCell
    rw [range_get n _ _ hi]
    match j, hj with
    | 0, _ => simp only [rtAt, e0, vs]
    | 1, _ => simp only [rtAt, e1, vl]
  · obtain ⟨i, hi, rfl⟩ := List.mem_map.1 ha
    have hf := h i (by simpa using hi)
    simp only [fitsL, fits] at hf
    obtain ⟨_, ⟨x1, e1, _, h1⟩, _⟩ := hf
    simp only [rtAt, e1, vl]; exact h1
theorem recs_strs {N n : Nat} {f : Nat → Nat → D} (h : ∀ i, i < n → fitsL N [.str] (f i)) :
    ∃ l : List ByteArray, readsTo (.recs 1 n f) (strsD l) ∧ l.length = n := by
  refine ⟨(List.range n).map fun i => vs (f i 0), ?_, by simp⟩
  have hl : ((List.range n).map fun i => vs (f i 0)).length = n := by simp
  show readsTo (.recs 1 n f) (.recs 1 ((List.range n).map fun i => vs (f i 0)).length (strCell ((List.range n).map fun i => vs (f i 0))))
  rw [hl]
  refine reads_recs fun i hi j hj => ?_
  have hf := h i hi
  simp only [fitsL, fits] at hf
  obtain ⟨⟨x0, e0, _⟩, _⟩ := hf
  unfold strCell
  rw [range_get n _ _ hi]
  match j, hj with
  | 0, _ => simp only [e0, vs]

theorem flat25 : flat Try.prog 8 25 = some [.str, .str, .bool, .ints .i64, .recs [.str, .ints .i64]] := by kernel_rfl
theorem flat26 : flat Try.prog 8 26 = some [.recs [.str]] := by kernel_rfl
theorem flat22 : flat Try.prog 8 22 = some [.ints .i64] := by kernel_rfl
theorem flat30 : flat Try.prog 8 30 = some [.bool, .bool, .bool, .bool, .int .u32, .int .u32, .int .u32, .int .u32, .recs [.int .u32, .int .u32, .bool, .bool, .ints .u8]] := by kernel_rfl
theorem str25 : ∃ fs, Try.prog.underlying 25 = some (.struct fs) := ⟨_, Try.underlying25⟩
theorem str30 : ∃ fs, Try.prog.underlying 30 = some (.struct fs) := ⟨_, Try.underlying30⟩
theorem sl26 : ∃ e, Try.prog.underlying 26 = some (.slice e) := ⟨_, Try.underlying26⟩
theorem sl22 : ∃ e, Try.prog.underlying 22 = some (.slice e) := ⟨_, Try.underlying22⟩

section
variable {H : Type} {enc : TypeId × Value → H} {W : World}

theorem slice_cells {t : TypeId} {b0 : Nat} {r : Reach} {v : Value} (hs : ∃ e, Try.prog.underlying t = some (.slice e)) (hv : Value.okWide Try.prog W r b0 t v) : v.cells.toList = [v] := by
  obtain ⟨e, he⟩ := hs
  obtain ⟨a, l, c, rfl⟩ := okWide_slice he hv
  rfl
theorem struct_cells {t : TypeId} {b0 : Nat} {r : Reach} {v : Value} (hs : ∃ fs, Try.prog.underlying t = some (.struct fs)) (hv : Value.okWide Try.prog W r b0 t v) : v = .agg v.cells.toList.toArray := by
  obtain ⟨e, he⟩ := hs
  obtain ⟨cs, rfl, _⟩ := okWide_struct he hv
  simp [Value.cells]

theorem open_names {b0 : Nat} {r : Reach} {v : Value} {d : DataW H} {ps : List MemPlace} {base N : Nat} (hv : Value.okWide Try.prog W r b0 26 v) (h : DataW.Trod enc Try.prog W base (fun _ => true) true 26 v d ps) (hb : Bnd N d) :
    ∃ l : List ByteArray, l.length ≤ N ∧ (strsD l).holds (fun _ => True) W v := by
  obtain ⟨fuel, hf⟩ := h
  rw [slice_cells sl26 hv] at hf
  obtain ⟨ds, h1, h2, h3⟩ := deep 8 26 fuel _ _ _ N hf flat26 hb
  match ds, h1 with
  | [a0], _ =>
    simp only [fitsL, fits, List.getD_cons_zero, List.getD_cons_succ] at h2
    obtain ⟨⟨n, f, rfl, hn, hfs⟩, _⟩ := h2
    obtain ⟨l, l1, l2⟩ := recs_strs (N := N) (fun i hi => by simpa only [fitsL, fits] using hfs i hi)
    exact ⟨l, by omega, l1 _ _ _ h3.1⟩
theorem open_up {b0 : Nat} {r : Reach} {v : Value} {d : DataW H} {ps : List MemPlace} {base N : Nat} (hv : Value.okWide Try.prog W r b0 22 v) (h : DataW.Trod enc Try.prog W base (fun _ => true) true 22 v d ps) (hb : Bnd N d) :
    ∃ l : List Int, l.length ≤ N ∧ (D.ints .i64 l).holds (fun _ => True) W v := by
  obtain ⟨fuel, hf⟩ := h
  rw [slice_cells sl22 hv] at hf
  obtain ⟨ds, h1, h2, h3⟩ := deep 8 22 fuel _ _ _ N hf flat22 hb
  match ds, h1 with
  | [a0], _ =>
    simp only [fitsL, fits, List.getD_cons_zero, List.getD_cons_succ] at h2
    obtain ⟨⟨l, rfl, _, hl⟩, _⟩ := h2
    exact ⟨l, hl, h3.1⟩
def ndL (n : NdR) : List D := [.v (.string n.host), .v (.string n.realm), .v (.bool n.serves), .ints .i64 n.peers, rtsD n.routes]
def msgL (m : MsgR) : List D := [.v (.bool m.b0), .v (.bool m.b1), .v (.bool m.b2), .v (.bool m.b3), .v (.int .u32 m.n0), .v (.int .u32 m.n1), .v (.int .u32 m.n2), .v (.int .u32 m.n3), avpsD m.avps]
theorem open_node {b0 : Nat} {r : Reach} {v : Value} {d : DataW H} {ps : List MemPlace} {base N : Nat} (hv : Value.okWide Try.prog W r b0 25 v) (h : DataW.Trod enc Try.prog W base (fun _ => true) true 25 v d ps) (hb : Bnd N d) :
    ∃ n : NdR, n.peers.length ≤ N ∧ (n.routes.length ≤ N ∧ ∀ r, r ∈ n.routes → r.via.length ≤ N) ∧ ∃ us, v = .agg us.toArray ∧ DL.holds (fun _ => True) W (ndL n) us := by
  obtain ⟨fuel, hf⟩ := h
  obtain ⟨ds, h1, h2, h3⟩ := deep 8 25 fuel _ _ _ N hf flat25 hb
  match ds, h1 with
  | [a0, a1, a2, a3, a4], _ =>
    simp only [fitsL, fits, List.getD_cons_zero, List.getD_cons_succ] at h2
    obtain ⟨⟨x0, rfl, _⟩, ⟨x1, rfl, _⟩, ⟨x2, rfl⟩, ⟨x3, rfl, _, h5⟩, ⟨n, f, rfl, hn, hfs⟩, _⟩ := h2
    obtain ⟨l, l1, l2, l3⟩ := recs_rts (N := N) (fun i hi => by simpa only [fitsL, fits] using hfs i hi)
    refine ⟨⟨x0, x1, x2, x3, l⟩, h5, ⟨by simp only; omega, l3⟩, _, struct_cells str25 hv, ?_⟩
    revert h3
    generalize v.cells.toList = us
    intro h3
    match us, h3 with
    | [u0, u1, u2, u3, u4], h3 => exact ⟨h3.1, h3.2.1, h3.2.2.1, h3.2.2.2.1, l1 _ _ _ h3.2.2.2.2.1, trivial⟩
theorem open_msg {b0 : Nat} {r : Reach} {v : Value} {d : DataW H} {ps : List MemPlace} {base N : Nat} (hv : Value.okWide Try.prog W r b0 30 v) (h : DataW.Trod enc Try.prog W base (fun _ => true) true 30 v d ps) (hb : Bnd N d) :
    ∃ m : MsgR, (m.avps.length ≤ N ∧ ∀ a, a ∈ m.avps → a.data.length ≤ N) ∧ ∃ us, v = .agg us.toArray ∧ DL.holds (fun _ => True) W (msgL m) us := by
  obtain ⟨fuel, hf⟩ := h
  obtain ⟨ds, h1, h2, h3⟩ := deep 8 30 fuel _ _ _ N hf flat30 hb
  match ds, h1 with
  | [a0, a1, a2, a3, a4, a5, a6, a7, a8], _ =>
    simp only [fitsL, fits, List.getD_cons_zero, List.getD_cons_succ] at h2
    obtain ⟨⟨x0, rfl⟩, ⟨x1, rfl⟩, ⟨x2, rfl⟩, ⟨x3, rfl⟩, ⟨x4, rfl, _⟩, ⟨x5, rfl, _⟩, ⟨x6, rfl, _⟩, ⟨x7, rfl, _⟩, ⟨n, f, rfl, hn, hfs⟩, _⟩ := h2
    obtain ⟨l, l1, l2, l3⟩ := recs_avps (N := N) (fun i hi => by simpa only [fitsL, fits] using hfs i hi)
    refine ⟨⟨x0, x1, x2, x3, x4, x5, x6, x7, l⟩, ⟨by simp only; omega, l3⟩, _, struct_cells str30 hv, ?_⟩
    revert h3
    generalize v.cells.toList = us
    intro h3
    match us, h3 with
    | [u0, u1, u2, u3, u4, u5, u6, u7, u8], h3 => exact ⟨h3.1, h3.2.1, h3.2.2.1, h3.2.2.2.1, h3.2.2.2.2.1, h3.2.2.2.2.2.1, h3.2.2.2.2.2.2.1, h3.2.2.2.2.2.2.2.1, l1 _ _ _ h3.2.2.2.2.2.2.2.2.1, trivial⟩
end
end Go.YR
