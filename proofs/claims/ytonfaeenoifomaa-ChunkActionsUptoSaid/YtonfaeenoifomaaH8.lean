/- Part 8 of what the closing text rests on. -/
import Derived.Test.YtonfaeenoifomaaH7
import Derived.JoinedCond
import Derived.OpenShut
import Derived.Test.YtonfaeenoifomaaRows
/- The statements' arguments, opened. -/
set_option maxRecDepth 100000
namespace Go.ZR
open Go.Proofs
open Go.ChangeShapes Go.WideShapes Go.ChangeAt Go.RowKit
open Go.Z Go.ZM

theorem ol_consO {X : Nat → Prop} {w : World} {o : O} {v : Value} {l : List O} {vs : List Value} (h : O.holds X w o v []) (t : OL.holds X w l vs []) : OL.holds X w (o :: l) (v :: vs) [] := by
  simp only [OL.holds]; exact ⟨[], [], rfl, h, t⟩
theorem o_d {X : Nat → Prop} {w : World} {d : D} {v : Value} (h : d.holds X w v) : O.holds X w (.d d) v [] := by
  simp only [O.holds]; exact ⟨h, trivial⟩
theorem o_agg {X : Nat → Prop} {w : World} {ds : List D} {us : List Value} (h : DL.holds X w ds us) : O.holds X w (.agg (ds.map .d)) (.agg us.toArray) [] := by
  simp only [O.holds]; exact ⟨us, rfl, ol_ds h⟩
theorem range_get {α : Type} (n : Nat) (F : Nat → α) (d : α) {i : Nat} (hi : i < n) : ((List.range n).map F).getD i d = F i := by
  simp [List.getD, hi]
theorem u8_in {n : Int} (h : IntKind.u8.min ≤ n ∧ n ≤ IntKind.u8.max) : 0 ≤ n ∧ n ≤ 255 := h

theorem recs_chs {N n : Nat} {f : Nat → Nat → D} (hN : N ≤ 1048576) (hn : n ≤ N) (h : ∀ i, i < n → fitsL N [.int .u8, .int .u8, .ints .u8] (f i)) :
    ∃ l : List ChR, readsTo (.recs 3 n f) (chsD l) ∧ okChs l ∧ okCB l := by
  have key : ∀ c, c ∈ (List.range n).map (fun i => chAt (f i)) → ((0 ≤ c.t ∧ c.t ≤ 255) ∧ (0 ≤ c.f ∧ c.f ≤ 255) ∧ okB c.v) ∧ sm c.v.length := fun c hc => by
    obtain ⟨i, hi, rfl⟩ := List.mem_map.1 hc
    have hf := h i (by simpa using hi)
    simp only [fitsL, fits] at hf
    obtain ⟨⟨x0, e0, r0⟩, ⟨x1, e1, r1⟩, ⟨x2, e2, r2, l2⟩, _⟩ := hf
    simp only [chAt, e0, e1, e2, vi, vl]
    exact ⟨⟨u8_in r0, u8_in r1, fun y hy => u8_in (r2 y hy)⟩, by unfold sm; omega⟩
  refine ⟨(List.range n).map fun i => chAt (f i), ?_, ⟨by simp; omega, fun c hc => (key c hc).2⟩, fun c hc => (key c hc).1⟩
  have hl : ((List.range n).map fun i => chAt (f i)).length = n := by simp
  show readsTo (.recs 3 n f) (.recs 3 ((List.range n).map fun i => chAt (f i)).length (chCell ((List.range n).map fun i => chAt (f i))))
  rw [hl]
  refine reads_recs fun i hi j hj => ?_
  have hf := h i hi
  simp only [fitsL, fits] at hf
  obtain ⟨⟨x0, e0, _⟩, ⟨x1, e1, _⟩, ⟨x2, e2, _⟩, _⟩ := hf
  unfold chCell
  rw [range_get n _ _ hi]
  match j, hj with
  | 0, _ => simp only [chAt, e0, vi]
  | 1, _ => simp only [chAt, e1, vi]
  | 2, _ => simp only [chAt, e2, vl]

section
variable {H : Type} {enc : TypeId × Value → H} {W : World}
theorem slice_cells {t e : TypeId} {b0 : Nat} {r : Reach} {v : Value} (he : Try.prog.underlying t = some (.slice e)) (hv : Value.okWide Try.prog W r b0 t v) : v.cells.toList = [v] := by
  obtain ⟨a, l, c, rfl⟩ := okWide_slice he hv
  rfl
theorem struct_cells {t : TypeId} {fs : Array Field} {b0 : Nat} {r : Reach} {v : Value} (he : Try.prog.underlying t = some (.struct fs)) (hv : Value.okWide Try.prog W r b0 t v) : v = .agg v.cells.toList.toArray := by
  obtain ⟨cs, rfl, _⟩ := okWide_struct he hv
  simp [Value.cells]
theorem int_cells {t : TypeId} {k : IntKind} {b0 : Nat} {r : Reach} {v : Value} (he : Try.prog.underlying t = some (.int k)) (hv : Value.okWide Try.prog W r b0 t v) : v.cells.toList = [v] := by
  obtain ⟨n, rfl⟩ := okWide_int he hv
  rfl
theorem bool_cells {t : TypeId} {b0 : Nat} {r : Reach} {v : Value} (he : Try.prog.underlying t = some .bool) (hv : Value.okWide Try.prog W r b0 t v) : v.cells.toList = [v] := by
  obtain ⟨n, rfl⟩ := okWide_bool he hv
  rfl
/-- An argument of one cell. -/
theorem open_one {t : TypeId} {s : Sh} {v : Value} {d : DataW H} {ps : List MemPlace} {base N : Nat} (hc : v.cells.toList = [v]) (hfl : flat Try.prog 8 t = some [s]) (h : DataW.Trod enc Try.prog W base (fun _ => true) true t v d ps) (hb : Bnd N d) :
    ∃ a : D, fits N s a ∧ a.holds (fun _ => True) W v := by
  obtain ⟨fuel, hf⟩ := h
  rw [hc] at hf
  obtain ⟨ds, h1, h2, h3⟩ := deep 8 t fuel _ _ _ N hf hfl hb
  match ds, h1 with
  | [a0], _ =>
    simp only [fitsL, List.getD_cons_zero] at h2
    exact ⟨a0, h2.1, h3.1⟩
/-- An argument of a struct's type. -/
theorem open_many {t : TypeId} {shs : List Sh} {v : Value} {d : DataW H} {ps : List MemPlace} {base N : Nat} (hc : v = .agg v.cells.toList.toArray) (hfl : flat Try.prog 8 t = some shs) (h : DataW.Trod enc Try.prog W base (fun _ => true) true t v d ps) (hb : Bnd N d) :
    ∃ ds : List D, ds.length = shs.length ∧ fitsL N shs (fun j => ds.getD j (.v undef)) ∧ O.holds (fun _ => True) W (.agg (ds.map .d)) v [] := by
  obtain ⟨fuel, hf⟩ := h
  obtain ⟨ds, h1, h2, h3⟩ := deep 8 t fuel _ _ _ N hf hfl hb
  exact ⟨ds, h1, h2, by rw [hc]; exact o_agg h3⟩

theorem flat22 : flat Try.prog 8 22 = some [.recs [.int .u8, .int .u8, .ints .u8]] := by kernel_rfl
theorem flat23 : flat Try.prog 8 23 = some [.ints .u8] := by kernel_rfl
theorem flat45 : flat Try.prog 8 45 = some [.int .u8, .int .u8, .ints .u8] := by kernel_rfl
theorem flat4 : flat Try.prog 8 4 = some [.bool] := by kernel_rfl
theorem flat5 : flat Try.prog 8 5 = some [.int .u8] := by kernel_rfl
theorem flat31 : flat Try.prog 8 31 = some [.int .u32] := by kernel_rfl

theorem open22 {b0 : Nat} {r : Reach} {v : Value} {d : DataW H} {ps : List MemPlace} {base : Nat} (hv : Value.okWide Try.prog W r b0 22 v) (h : DataW.Trod enc Try.prog W base (fun _ => true) true 22 v d ps) (hb : Bnd 1048576 d) :
    ∃ l : List ChR, (okChs l ∧ okCB l) ∧ O.holds (fun _ => True) W (.d (chsD l)) v [] := by
  obtain ⟨a, h2, h3⟩ := open_one (slice_cells Try.underlying22 hv) flat22 h hb
  simp only [fits] at h2
  obtain ⟨n, f, rfl, hn, hfs⟩ := h2
  obtain ⟨l, l1, l2⟩ := recs_chs (Nat.le_refl _) hn hfs
  exact ⟨l, l2, o_d (l1 _ _ _ h3)⟩
theorem open23 {b0 : Nat} {r : Reach} {v : Value} {d : DataW H} {ps : List MemPlace} {base : Nat} (hv : Value.okWide Try.prog W r b0 23 v) (h : DataW.Trod enc Try.prog W base (fun _ => true) true 23 v d ps) (hb : Bnd 1048576 d) :
    ∃ l : List Int, (sm l.length ∧ okB l) ∧ O.holds (fun _ => True) W (bsO l) v [] := by
  obtain ⟨a, h2, h3⟩ := open_one (slice_cells Try.underlying23 hv) flat23 h hb
  simp only [fits] at h2
  obtain ⟨l, rfl, hx, hl⟩ := h2
  exact ⟨l, ⟨by unfold sm; omega, fun x h => u8_in (hx x h)⟩, o_d h3⟩
theorem open45 {b0 : Nat} {r : Reach} {v : Value} {d : DataW H} {ps : List MemPlace} {base : Nat} (hv : Value.okWide Try.prog W r b0 45 v) (h : DataW.Trod enc Try.prog W base (fun _ => true) true 45 v d ps) (hb : Bnd 1048576 d) :
    ∃ c : ChR, (((0 ≤ c.t ∧ c.t ≤ 255) ∧ (0 ≤ c.f ∧ c.f ≤ 255) ∧ okB c.v) ∧ sm c.v.length) ∧ O.holds (fun _ => True) W (chO c) v [] := by
  obtain ⟨ds, h1, h2, h3⟩ := open_many (struct_cells Try.underlying45 hv) flat45 h hb
  match ds, h1 with
  | [a0, a1, a2], _ =>
    simp only [fitsL, fits, List.getD_cons_zero, List.getD_cons_succ] at h2
    obtain ⟨⟨x0, rfl, r0⟩, ⟨x1, rfl, r1⟩, ⟨x2, rfl, r2, l2⟩, _⟩ := h2
    exact ⟨⟨x0, x1, x2⟩, ⟨⟨u8_in r0, u8_in r1, fun y hy => u8_in (r2 y hy)⟩, by unfold sm; simp only; omega⟩, h3⟩
theorem open4 {b0 : Nat} {r : Reach} {v : Value} {d : DataW H} {ps : List MemPlace} {base : Nat} (hv : Value.okWide Try.prog W r b0 4 v) (h : DataW.Trod enc Try.prog W base (fun _ => true) true 4 v d ps) (hb : Bnd 1048576 d) :
    ∃ b : Bool, True ∧ O.holds (fun _ => True) W (bO b) v [] := by
  obtain ⟨a, h2, h3⟩ := open_one (bool_cells Try.underlying4 hv) flat4 h hb
  simp only [fits] at h2
  obtain ⟨b, rfl⟩ := h2
  exact ⟨b, trivial, o_d h3⟩
theorem open5 {b0 : Nat} {r : Reach} {v : Value} {d : DataW H} {ps : List MemPlace} {base : Nat} (hv : Value.okWide Try.prog W r b0 5 v) (h : DataW.Trod enc Try.prog W base (fun _ => true) true 5 v d ps) (hb : Bnd 1048576 d) :
    ∃ n : Int, (0 ≤ n ∧ n ≤ 255) ∧ O.holds (fun _ => True) W (iO .u8 n) v [] := by
  obtain ⟨a, h2, h3⟩ := open_one (int_cells Try.underlying5 hv) flat5 h hb
  simp only [fits] at h2
  obtain ⟨n, rfl, hn⟩ := h2
  exact ⟨n, u8_in hn, o_d h3⟩
theorem open31 {b0 : Nat} {r : Reach} {v : Value} {d : DataW H} {ps : List MemPlace} {base : Nat} (hv : Value.okWide Try.prog W r b0 31 v) (h : DataW.Trod enc Try.prog W base (fun _ => true) true 31 v d ps) (hb : Bnd 1048576 d) :
    ∃ n : Int, (0 ≤ n ∧ n ≤ 4294967295) ∧ O.holds (fun _ => True) W (iO .u32 n) v [] := by
  obtain ⟨a, h2, h3⟩ := open_one (int_cells Try.underlying31 hv) flat31 h hb
  simp only [fits] at h2
  obtain ⟨n, rfl, hn⟩ := h2
  exact ⟨n, hn, o_d h3⟩
end
end Go.ZR
namespace Go.Proofs.Ytonfaeenoifomaa
open Go.RowKit
open Go.Z Go.ZM Go.ZR
theorem Try.own : ownKnob Try.prog.godebug = none := by kernel_rfl
theorem Try.laidOut : laidOutB Try.prog = true := by kernel_rfl
theorem bulk_in {H : Type} {d : DataW H} {ds : List (DataW H)} (hk : Rows.uptoSmall H (ds ++ []) = true) (hd : d ∈ ds) : Bnd 1048576 d := by
  have h := of_decide_eq_true hk
  rw [List.append_nil] at h
  exact .inl (Nat.le_trans (bulk_mem hd) h)
end Go.Proofs.Ytonfaeenoifomaa

/- What a side says of itself: plain functions, laws, contracts. -/
set_option maxRecDepth 100000
namespace Go.ZM
open Go.Z Go.ZR

structure HelR where
  tag : Int
  win : Int
  out : Int
  inn : Int
  tsn : Int
  cookie : List Int
def noHel : HelR := ⟨0, 0, 0, 0, 0, []⟩
def okHel (h : HelR) : Prop := (0 ≤ h.tag ∧ h.tag ≤ 4294967295) ∧ (0 ≤ h.win ∧ h.win ≤ 4294967295) ∧ (0 ≤ h.out ∧ h.out ≤ 65535) ∧ (0 ≤ h.inn ∧ h.inn ≤ 65535) ∧ (0 ≤ h.tsn ∧ h.tsn ≤ 4294967295) ∧ okB h.cookie ∧ sm h.cookie.length
def helB (h : HelR) : List Int := be h.tag 4 ++ be h.win 4 ++ be h.out 2 ++ be h.inn 2 ++ be h.tsn 4
def greetF (h : HelR) (ack : Bool) : Bool := (!decide (h.tag = 0) && !decide (h.out = 0)) && !decide (h.inn = 0) && (ack || decide (h.cookie.length = 0))
def ckB (h : HelR) : List Int := helB h ++ be 7 2 ++ be (4 + (h.cookie.length : Int)) 2 ++ padF h.cookie
def fromHel (h : HelR) (ack : Bool) : ChR × Int :=
  if greetF h ack = false then (noCh, 2) else if 256 < h.cookie.length then (noCh, 4) else if ack then (⟨2, 0, ckB h⟩, 0) else (⟨1, 0, helB h⟩, 0)
def numAt (v : List Int) (i : Int) (k : Nat) : Int := (getF v i k).1
def hel0 (v : List Int) : HelR := ⟨numAt v 0 4, numAt v 4 4, numAt v 8 2, numAt v 10 2, numAt v 12 4, []⟩
/-- As the program reads it. -/
def helOf (c : ChR) : HelR := if c.t = 2 ∧ numAt c.v 16 2 = 7 then { hel0 c.v with cookie := (partF c.v 20 (numAt c.v 18 2 - 4)).1 } else hel0 c.v
def sameB (c d : ChR) : Bool := decide (c.t = d.t) && decide (c.f = d.f) && decide (c.v = d.v)
def toHel (c : ChR) : HelR × Int := if (fromHel (helOf c) (decide (c.t = 2))).2 ≠ 0 ∨ sameB (fromHel (helOf c) (decide (c.t = 2))).1 c = false then (noHel, 2) else (helOf c, 0)
def sameHel (h g : HelR) : Bool := decide (h.tag = g.tag) && decide (h.win = g.win) && decide (h.out = g.out) && decide (h.inn = g.inn) && decide (h.tsn = g.tsn) && decide (bstr h.cookie = bstr g.cookie)
/-- As the document reads it. -/
def helRef (c : ChR) : HelR := if c.t = 2 then { hel0 c.v with cookie := (c.v.drop 20).take (numAt c.v 18 2 - 4).toNat } else hel0 c.v
def toHelRef (c : ChR) : HelR × Int :=
  if c.t ≠ 1 ∧ c.t ≠ 2 ∨ c.v.length < 16 then (noHel, 2) else
  if c.t = 2 ∧ c.v.length < 20 then (noHel, 2) else
  if c.t = 2 ∧ (numAt c.v 18 2 - 4 < 0 ∨ (c.v.length : Int) - 20 < numAt c.v 18 2 - 4) then (noHel, 2) else
  if (fromHel (helRef c) (decide (c.t = 2))).2 ≠ 0 ∨ sameB (fromHel (helRef c) (decide (c.t = 2))).1 c = false then (noHel, 2) else (helRef c, 0)

theorem num_in {v a r : List Int} {n : Int} {k : Nat} (i : Nat) (h : v = a ++ (be n k ++ r)) (hi : a.length = i) : numAt v (i : Int) k = n % 256 ^ k := by
  subst hi
  have hl : v.length = a.length + (k + r.length) := by rw [h, List.length_append, List.length_append, be_len]
  unfold numAt getF
  rw [part_get (by omega) (by omega) (by omega) (by omega)]
  simp only [Int.toNat_natCast]
  rw [h, List.drop_append_of_le_length (Nat.le_refl _), List.drop_of_length_le (Nat.le_refl _), List.nil_append, List.take_append_of_le_length (by rw [be_len]; exact Nat.le_refl _), List.take_of_length_le (by rw [be_len]; exact Nat.le_refl _), val_be]
theorem helB_len (h : HelR) : (helB h).length = 16 := by simp [helB, be_len]
theorem ckB_len (h : HelR) : (ckB h).length = 20 + h.cookie.length + padN h.cookie.length := by simp [ckB, helB_len, be_len, padF_len]; omega
theorem hel0_of {h : HelR} (ok : okHel h) {v r : List Int} (e : v = helB h ++ r) : hel0 v = { h with cookie := [] } := by
  obtain ⟨h1, h2, h3, h4, h5, _⟩ := ok
  have p4 : (256 : Int) ^ 4 = 4294967296 := rfl
  have p2 : (256 : Int) ^ 2 = 65536 := rfl
  unfold hel0
  have a1 : numAt v 0 4 = h.tag := by
    have := num_in (v := v) (a := []) (n := h.tag) (k := 4) (r := be h.win 4 ++ be h.out 2 ++ be h.inn 2 ++ be h.tsn 4 ++ r) 0 (by rw [e]; simp [helB]) rfl
    rw [p4] at this; exact this.trans (by omega)
  have a2 : numAt v 4 4 = h.win := by
    have := num_in (v := v) (a := be h.tag 4) (n := h.win) (k := 4) (r := be h.out 2 ++ be h.inn 2 ++ be h.tsn 4 ++ r) 4 (by rw [e]; simp [helB]) (by simp [be_len])
    rw [p4] at this; exact this.trans (by omega)
  have a3 : numAt v 8 2 = h.out := by
    have := num_in (v := v) (a := be h.tag 4 ++ be h.win 4) (n := h.out) (k := 2) (r := be h.inn 2 ++ be h.tsn 4 ++ r) 8 (by rw [e]; simp [helB]) (by simp [be_len])
    rw [p2] at this; exact this.trans (by omega)
  have a4 : numAt v 10 2 = h.inn := by
    have := num_in (v := v) (a := be h.tag 4 ++ be h.win 4 ++ be h.out 2) (n := h.inn) (k := 2) (r := be h.tsn 4 ++ r) 10 (by rw [e]; simp [helB]) (by simp [be_len])
    rw [p2] at this; exact this.trans (by omega)
  have a5 : numAt v 12 4 = h.tsn := by
    have := num_in (v := v) (a := be h.tag 4 ++ be h.win 4 ++ be h.out 2 ++ be h.inn 2) (n := h.tsn) (k := 4) (r := r) 12 (by rw [e]; simp [helB]) (by simp [be_len])
    rw [p4] at this; exact this.trans (by omega)
  rw [a1, a2, a3, a4, a5]
/-- What a chunk is that was made of such. -/
theorem fromHel_ok {h : HelR} {ack : Bool} (e : (fromHel h ack).2 = 0) : greetF h ack = true ∧ h.cookie.length ≤ 256 ∧ (fromHel h ack).1 = if ack then ⟨2, 0, ckB h⟩ else ⟨1, 0, helB h⟩ := by
  unfold fromHel at e ⊢
  split at e
  · cases e
  rename_i h1
  split at e
  · cases e
  rename_i h2
  rw [if_neg h1, if_neg h2]
  refine ⟨by simpa using h1, by omega, ?_⟩
  split <;> rfl
theorem sameB_eq {c d : ChR} : sameB c d = true ↔ c = d := by
  cases c; cases d
  simp [sameB]; exact ⟨fun ⟨⟨a, b⟩, c⟩ => ⟨a, b, c⟩, fun ⟨a, b, c⟩ => ⟨⟨a, b⟩, c⟩⟩
theorem ck_num {h : HelR} (hl : h.cookie.length ≤ 256) {v : List Int} (e : v = ckB h) : numAt v 16 2 = 7 ∧ numAt v 18 2 - 4 = (h.cookie.length : Int) ∧ (v.drop 20).take h.cookie.length = h.cookie ∧ 20 + h.cookie.length ≤ v.length := by
  have p2 : (256 : Int) ^ 2 = 65536 := rfl
  have a1 : numAt v 16 2 = 7 := by
    have := num_in (v := v) (a := helB h) (n := 7) (k := 2) (r := be (4 + (h.cookie.length : Int)) 2 ++ padF h.cookie) 16 (by rw [e]; simp [ckB]) (helB_len h)
    exact this
  have a2 : numAt v 18 2 = 4 + (h.cookie.length : Int) := by
    have := num_in (v := v) (a := helB h ++ be 7 2) (n := 4 + (h.cookie.length : Int)) (k := 2) (r := padF h.cookie) 18 (by rw [e]; simp [ckB]) (by simp [helB_len, be_len])
    rw [p2] at this; exact this.trans (by omega)
  refine ⟨a1, by omega, ?_, by rw [e, ckB_len]; omega⟩
  have : v = (helB h ++ be 7 2 ++ be (4 + (h.cookie.length : Int)) 2) ++ (h.cookie ++ List.replicate (padN h.cookie.length) 0) := by rw [e]; simp [ckB, padF]
  rw [this, List.drop_append_of_le_length (by simp [helB_len, be_len]), List.drop_of_length_le (by simp [helB_len, be_len]), List.nil_append, List.take_append_of_le_length (Nat.le_refl _), List.take_of_length_le (Nat.le_refl _)]
theorem num_rng {v : List Int} (hv : okB v) (i : Int) {k : Nat} : 0 ≤ numAt v i k ∧ numAt v i k < 256 ^ k := by
  unfold numAt getF
  have h1 := part_ok hv i (k : Int)
  have h2 := val_lt h1
  have h3 := part_len (b := v) (i := i) (k := k)
  have h4 : ∀ a b : Nat, a ≤ b → (256 : Int) ^ a ≤ 256 ^ b := fun a b h => by
    obtain ⟨c, rfl⟩ := Nat.exists_eq_add_of_le h
    rw [Int.pow_add]
    have := pow_pos' a; have h5 := pow_pos' c
    calc (256 : Int) ^ a = 256 ^ a * 1 := by rw [Int.mul_one]
      _ ≤ 256 ^ a * 256 ^ c := Int.mul_le_mul_of_nonneg_left (by omega) (by omega)
  have := h4 _ _ h3
  exact ⟨val_nonneg h1, by omega⟩
theorem hel0_ok {v : List Int} (hv : okB v) {ck : List Int} (hc : okB ck) (hs : sm ck.length) : okHel { hel0 v with cookie := ck } := by
  have p4 : (256 : Int) ^ 4 = 4294967296 := rfl
  have p2 : (256 : Int) ^ 2 = 65536 := rfl
  have a1 := num_rng hv 0 (k := 4)
  have a2 := num_rng hv 4 (k := 4)
  have a3 := num_rng hv 8 (k := 2)
  have a4 := num_rng hv 10 (k := 2)
  have a5 := num_rng hv 12 (k := 4)
  rw [p4] at a1 a2 a5
  rw [p2] at a3 a4
  refine ⟨?_, ?_, ?_, ?_, ?_, hc, hs⟩ <;> simp only [hel0] <;> omega
theorem partF_sm {b : List Int} (hb : sm b.length) (i n : Int) : sm (partF b i n).1.length := by
  unfold sm at *
  unfold partF
  split
  · exact Nat.zero_le _
  split
  · exact Nat.zero_le _
  · simp only [List.length_take, List.length_drop]; omega
theorem helOf_ok {c : ChR} (hv : okB c.v) (hs : sm c.v.length) : okHel (helOf c) := by
  unfold helOf
  split
  · exact hel0_ok hv (part_ok hv _ _) (partF_sm hs _ _)
  · exact hel0_ok hv (ck := []) (fun x hx => by cases hx) (Nat.zero_le _)
theorem helRef_ok {c : ChR} (hv : okB c.v) (hs : sm c.v.length) : okHel (helRef c) := by
  unfold helRef
  split
  · refine hel0_ok hv (okB_take (okB_drop hv _) _) ?_
    unfold sm at *
    simp only [List.length_take, List.length_drop]; omega
  · exact hel0_ok hv (ck := []) (fun x hx => by cases hx) (Nat.zero_le _)
/-- What was made of such is read as such. -/
theorem helOf_made {h : HelR} {ack : Bool} (ok : okHel h) (e : (fromHel h ack).2 = 0) : helOf (fromHel h ack).1 = h ∧ helRef (fromHel h ack).1 = h ∧ (decide ((fromHel h ack).1.t = 2)) = ack := by
  obtain ⟨h1, h2, h3⟩ := fromHel_ok e
  rw [h3]
  cases ack with
  | true =>
    simp only [if_true]
    obtain ⟨c1, c2, c3, c4⟩ := ck_num h2 (rfl : ckB h = ckB h)
    have h0 := hel0_of ok (v := ckB h) (r := be 7 2 ++ be (4 + (h.cookie.length : Int)) 2 ++ padF h.cookie) (by simp [ckB])
    refine ⟨?_, ?_, rfl⟩
    · unfold helOf
      rw [if_pos ⟨rfl, c1⟩]
      simp only
      rw [c2, part_get (by omega) (by omega) (by omega) (by omega), h0]
      simp only [Int.toNat_natCast]
      rw [show Int.toNat 20 = 20 from rfl, c3]
    · unfold helRef
      rw [if_pos rfl]
      simp only
      rw [c2, h0, Int.toNat_natCast, c3]
  | false =>
    simp only [Bool.false_eq_true, if_false]
    have h0 := hel0_of ok (v := helB h) (r := []) (by simp)
    have hc : h.cookie = [] := by
      simp only [greetF, Bool.and_eq_true, Bool.false_or, decide_eq_true_eq] at h1
      exact List.length_eq_zero_iff.1 h1.2
    have e0 : { h with cookie := [] } = h := by cases h; simp only at hc; subst hc; rfl
    refine ⟨?_, ?_, rfl⟩
    · unfold helOf; rw [if_neg (by simp)]; rw [h0, e0]
    · unfold helRef; rw [if_neg (by simp)]; rw [h0, e0]
theorem toHel_made {h : HelR} {ack : Bool} (ok : okHel h) (e : (fromHel h ack).2 = 0) : toHel (fromHel h ack).1 = (h, 0) := by
  obtain ⟨h1, _, h3⟩ := helOf_made ok e
  unfold toHel
  rw [h1, h3, if_neg]
  rw [e, sameB_eq.2 rfl]; simp
theorem toHel_eq {c : ChR} (hv : okB c.v) (hs : sm c.v.length) : toHel c = toHelRef c := by
  -- a chunk that some such makes is read by both
  have good : ∀ h ack, okHel h → (fromHel h ack).2 = 0 → (fromHel h ack).1 = c → toHelRef c = (h, 0) := by
    intro h ack ok e rfl
    obtain ⟨_, h2, h3⟩ := helOf_made ok e
    obtain ⟨g1, g2, g3⟩ := fromHel_ok e
    unfold toHelRef
    rw [h2, h3, e, sameB_eq.2 rfl, if_neg, if_neg, if_neg, if_neg]
    · simp
    · rw [g3]
      cases ack with
      | true => obtain ⟨c1, c2, c3, c4⟩ := ck_num g2 (rfl : ckB h = ckB h); simp only [if_true]; rw [c2]; omega
      | false => simp
    · rw [g3]
      cases ack with
      | true => simp only [if_true]; rw [ckB_len]; omega
      | false => simp
    · rw [g3]
      cases ack with
      | true => simp only [if_true]; rw [ckB_len]; omega
      | false => simp only [Bool.false_eq_true, if_false]; rw [helB_len]; omega
  by_cases h : (fromHel (helOf c) (decide (c.t = 2))).2 ≠ 0 ∨ sameB (fromHel (helOf c) (decide (c.t = 2))).1 c = false
  · have e1 : toHel c = (noHel, 2) := by unfold toHel; rw [if_pos h]
    rw [e1]
    unfold toHelRef
    split
    · rfl
    split
    · rfl
    split
    · rfl
    split
    · rfl
    · rename_i hh
      exfalso
      rw [not_or] at hh
      have a1 : (fromHel (helRef c) (decide (c.t = 2))).2 = 0 := by simpa using hh.1
      have a2 : (fromHel (helRef c) (decide (c.t = 2))).1 = c := sameB_eq.1 (by simpa using hh.2)
      have := helOf_made (helRef_ok hv hs) a1
      rw [a2] at this
      rw [this.1, a1, a2, sameB_eq.2 rfl] at h
      simp at h
  · have e1 : toHel c = (helOf c, 0) := by unfold toHel; rw [if_neg h]
    rw [not_or] at h
    have a1 : (fromHel (helOf c) (decide (c.t = 2))).2 = 0 := by simpa using h.1
    have a2 : (fromHel (helOf c) (decide (c.t = 2))).1 = c := sameB_eq.1 (by simpa using h.2)
    rw [e1, good _ _ (helOf_ok hv hs) a1 a2]
theorem sameHel_refl (h : HelR) : sameHel h h = true := by simp [sameHel]
theorem fromHel_len (h : HelR) (ack : Bool) : (fromHel h ack).1.v.length ≤ 300 := by
  unfold fromHel
  split
  · exact Nat.zero_le _
  split
  · exact Nat.zero_le _
  split
  · have := padN_le h.cookie.length
    simp only; rw [ckB_len]; omega
  · simp only; rw [helB_len]; omega
theorem fromHel_okB {h : HelR} (hc : okB h.cookie) (ack : Bool) : okB (fromHel h ack).1.v := by
  unfold fromHel
  split
  · exact fun x hx => by cases hx
  split
  · exact fun x hx => by cases hx
  have hb : okB (helB h) := okB_append (okB_append (okB_append (okB_append (be_ok _ _) (be_ok _ _)) (be_ok _ _)) (be_ok _ _)) (be_ok _ _)
  split
  · exact okB_append (okB_append (okB_append hb (be_ok _ _)) (be_ok _ _)) (okB_padF hc)
  · exact hb
theorem bstr_inj {a b : List Int} (ha : okB a) (hb : okB b) (h : bstr a = bstr b) : a = b := by
  unfold bstr at h
  simp only [ByteArray.mk.injEq] at h
  have h := congrArg Array.toList h
  simp only [] at h
  have key : ∀ {a b : List Int}, okB a → okB b → a.map (fun n => UInt8.ofNat n.toNat) = b.map (fun n => UInt8.ofNat n.toNat) → a = b := by
    intro a
    induction a with
    | nil => intro b _ _ h; cases b with
      | nil => rfl
      | cons _ _ => simp at h
    | cons x a ih => intro b ha hb h; cases b with
      | nil => simp at h
      | cons y b =>
        simp only [List.map_cons, List.cons.injEq] at h
        have h1 := ha x (List.mem_cons_self ..)
        have h2 := hb y (List.mem_cons_self ..)
        have h3 := congrArg UInt8.toNat h.1
        simp only [UInt8.toNat_ofNat'] at h3
        have : x = y := by omega
        rw [this, ih (fun z hz => ha z (List.mem_cons_of_mem _ hz)) (fun z hz => hb z (List.mem_cons_of_mem _ hz)) h.2]
  exact key ha hb h
theorem sameCh_eq {c d : ChR} (hc : okB c.v) (hd : okB d.v) : sameCh c d = sameB c d := by
  unfold sameCh sameB
  congr 1
  rw [decide_eq_decide]
  exact ⟨bstr_inj hc hd, fun h => by rw [h]⟩
end Go.ZM

/- What a side says of itself: contracts. -/
set_option maxRecDepth 100000
namespace Go.ZR
open Go.Z Go.ZM Go.Proofs
def helL (h : HelR) (ck : O) : O := .agg [iO .u32 h.tag, iO .u32 h.win, iO .u16 h.out, iO .u16 h.inn, iO .u32 h.tsn, ck]
def helO (h : HelR) : O := helL h (bsO h.cookie)
def helN (h : HelR) : O := helL h (bsN h.cookie)
def helOfO : O → HelR
  | .agg [a, b, c, d, e, f] => ⟨vi (dO a), vi (dO b), vi (dO c), vi (dO d), vi (dO e), vl (dO f)⟩
  | _ => noHel
def greetC : Ctr := nC 2 true (fun a => ∃ h b, a = [helO h, bO b]) fun a => [bO (greetF (helOfO (at_ a 0)) (vb (dO (at_ a 1))))]
def fromHelC : Ctr := nC 2 false (fun a => ∃ h b, a = [helO h, bO b] ∧ okHel h) fun a =>
  [chN (fromHel (helOfO (at_ a 0)) (vb (dO (at_ a 1)))).1, iO .i64 (fromHel (helOfO (at_ a 0)) (vb (dO (at_ a 1)))).2]
def eqC : Ctr := nC 2 true (fun a => ∃ l m, a = [bsO l, bsO m] ∧ sm l.length) fun a => [bO (decide (vl (dO (at_ a 0)) = vl (dO (at_ a 1))))]
def sameBC : Ctr := nC 2 true (fun a => ∃ c d, a = [chO c, chO d] ∧ okCh c) fun a => [bO (sameB (chOf (at_ a 0)) (chOf (at_ a 1)))]
def rdO (v : List Int) (i : Int) (b : Bool) : O := .ptr 90 [bsO v, iO .i64 i, bO b]
def rdOf : O → List Int × Int × Bool
  | .ptr _ [v, i, b] => (vl (dO v), vi (dO i), vb (dO b))
  | _ => ([], 0, false)
def rdC : Ctr where
  own := [true, false]
  pre := fun a => ∃ (v : List Int) (i : Int) (b : Bool) (k : Nat), a = [rdO v i b, iO .i64 k] ∧ sm v.length ∧ okB v ∧ 0 ≤ i ∧ i ≤ 1099511627776 ∧ 1 ≤ k ∧ k ≤ 8
  res := fun a => [iO .u64 (numAt (rdOf (at_ a 0)).1 (rdOf (at_ a 0)).2.1 (vi (dO (at_ a 1))).toNat)]
  upd := fun a => [rdO (rdOf (at_ a 0)).1 ((rdOf (at_ a 0)).2.1 + vi (dO (at_ a 1))) ((rdOf (at_ a 0)).2.2 || !decide ((getF (rdOf (at_ a 0)).1 (rdOf (at_ a 0)).2.1 (vi (dO (at_ a 1))).toNat).2 = 0)), .any]
  ro := true
  quiet := false
def toHelC : Ctr := nC 1 false (fun a => ∃ c, a = [chO c] ∧ okB c.v ∧ sm c.v.length) fun a => [helN (toHel (chOf (at_ a 0))).1, iO .i64 (toHel (chOf (at_ a 0))).2]
def sameHelC : Ctr := nC 2 true (fun a => ∃ h g, a = [helO h, helO g]) fun a => [bO (sameHel (helOfO (at_ a 0)) (helOfO (at_ a 1)))]
def getQ : Ctr := { getC 8 with quiet := true }
def numQ : Ctr := { numC with quiet := true }
theorem ok65q : FnIs Try.prog 65 getQ := ⟨ok65.1, ok65.2⟩
theorem ok50q : FnIs Try.prog 50 numQ := ⟨ok50.1, ok50.2⟩
def eqAnn (l m : List Int) : LoopAnn where
  γ := Nat
  pre := fun i => i ≤ l.length ∧ ∀ j, j < i → l.getD j 0 = m.getD j 0
  μ := fun i => l.length - i
  items := fun i => [(13, .c (iO .i64 (i : Int)))]
def c12 : List (Nat × Ctr) := [(56, greetC), (45, putC), (46, paddedC)]
def c13 : List (Nat × Ctr) := [(70, eqC)]
def c14 : List (Nat × Ctr) := [(65, getQ)]
def c15 : List (Nat × Ctr) := [(53, rdC), (57, partC), (29, fromHelC), (55, sameBC)]
def c16 : List (Nat × Ctr) := [(50, numQ), (30, fromHelC), (25, sameC)]
theorem c14_ok : COk Try.prog (ctrs c14) := cok_cons ok65q cok_nil
end Go.ZR

/- What a side says of itself: walks -/
namespace Go.ZR
open Go.Proofs
open Go.Z Go.ZM Go.RowKit
set_option maxRecDepth 100000
theorem hel_eta (h : HelR) : HelR.mk h.tag h.win h.out h.inn h.tsn h.cookie = h := rfl
theorem ch_eta (c : ChR) : ChR.mk c.t c.f c.v = c := rfl
theorem u64_id {n m : Int} (h0 : 0 ≤ n) (h1 : n ≤ m) (hm : m ≤ 18446744073709551615) : IntKind.u64.wrap n = n := by rw [IntKind.wrap_u64]; omega
theorem hel_w {h : HelR} (ok : okHel h) : IntKind.u64.wrap h.tag = h.tag ∧ IntKind.u64.wrap h.win = h.win ∧ IntKind.u64.wrap h.out = h.out ∧ IntKind.u64.wrap h.inn = h.inn ∧ IntKind.u64.wrap h.tsn = h.tsn := by
  obtain ⟨h1, h2, h3, h4, h5, _⟩ := ok
  exact ⟨u64_id h1.1 h1.2 (by decide), u64_id h2.1 h2.2 (by decide), u64_id h3.1 h3.2 (by decide), u64_id h4.1 h4.2 (by decide), u64_id h5.1 h5.2 (by decide)⟩
def hel1 (v X : List Int) : HelR := { hel0 v with cookie := X }
theorem hel1_eta (v X : List Int) : HelR.mk (numAt v 0 4) (numAt v 4 4) (numAt v 8 2) (numAt v 10 2) (numAt v 12 4) X = hel1 v X := rfl
theorem hel1_nil (v : List Int) : hel1 v [] = hel0 v := rfl
theorem num_def (v : List Int) (i : Int) (k : Nat) : valF (partF v i (k : Int)).1 = numAt v i k := rfl
theorem num_w {v : List Int} (hv : okB v) : IntKind.u32.wrap (numAt v 0 4) = numAt v 0 4 ∧ IntKind.u32.wrap (numAt v 4 4) = numAt v 4 4 ∧ IntKind.u16.wrap (numAt v 8 2) = numAt v 8 2 ∧ IntKind.u16.wrap (numAt v 10 2) = numAt v 10 2 ∧ IntKind.u32.wrap (numAt v 12 4) = numAt v 12 4 ∧
    IntKind.i64.wrap (IntKind.i64.wrap (numAt v 18 2) - 4) = numAt v 18 2 - 4 ∧ IntKind.i64.wrap (numAt v 18 2 - 4) = numAt v 18 2 - 4 := by
  have a1 := num_rng hv 0 (k := 4)
  have a2 := num_rng hv 4 (k := 4)
  have a3 := num_rng hv 8 (k := 2)
  have a4 := num_rng hv 10 (k := 2)
  have a5 := num_rng hv 12 (k := 4)
  have a6 := num_rng hv 18 (k := 2)
  have p4 : (256 : Int) ^ 4 = 4294967296 := rfl
  have p2 : (256 : Int) ^ 2 = 65536 := rfl
  rw [p4] at a1 a2 a5
  rw [p2] at a3 a4 a6
  rw [wrap_i64_id (n := numAt v 18 2) (by omega) (by omega), wrap_i64_id (n := numAt v 18 2 - 4) (by omega) (by omega)]
  refine ⟨?_, ?_, ?_, ?_, ?_, rfl, rfl⟩
  · rw [IntKind.wrap_u32]; omega
  · rw [IntKind.wrap_u32]; omega
  · rw [IntKind.wrap_u16]; omega
  · rw [IntKind.wrap_u16]; omega
  · rw [IntKind.wrap_u32]; omega
theorem toHel_e1 {c : ChR} {H : HelR} (ho : helOf c = H) (e : ¬ (fromHel H (decide (c.t = 2))).2 = 0) : toHel c = (noHel, 2) := by subst ho; unfold toHel; rw [if_pos (.inl e)]
theorem toHel_e2 {c : ChR} {H : HelR} (ho : helOf c = H) (e : sameB (fromHel H (decide (c.t = 2))).1 c = false) : toHel c = (noHel, 2) := by subst ho; unfold toHel; rw [if_pos (.inr e)]
theorem toHel_e3 {c : ChR} {H : HelR} (ho : helOf c = H) (e : (fromHel H (decide (c.t = 2))).2 = 0) (e' : sameB (fromHel H (decide (c.t = 2))).1 c = true) : toHel c = (H, 0) := by
  subst ho; unfold toHel; rw [if_neg]; rw [e, e']; simp
theorem err_leaf {r : HelR × Int} (h : r = (noHel, 2)) : 0 = r.1.tag ∧ 0 = r.1.win ∧ 0 = r.1.out ∧ 0 = r.1.inn ∧ 0 = r.1.tsn ∧ r.1.cookie = [] ∧ 2 = r.2 := by rw [h]; exact ⟨rfl, rfl, rfl, rfl, rfl, rfl, rfl⟩
theorem ok_leaf {r : HelR × Int} {v X : List Int} (h : r = (hel1 v X, 0)) : numAt v 0 4 = r.1.tag ∧ numAt v 4 4 = r.1.win ∧ numAt v 8 2 = r.1.out ∧ numAt v 10 2 = r.1.inn ∧ numAt v 12 4 = r.1.tsn ∧ X = r.1.cookie ∧ 0 = r.2 := by rw [h]; exact ⟨rfl, rfl, rfl, rfl, rfl, rfl, rfl⟩
theorem ok_leaf0 {r : HelR × Int} {v : List Int} (h : r = (hel0 v, 0)) : numAt v 0 4 = r.1.tag ∧ numAt v 4 4 = r.1.win ∧ numAt v 8 2 = r.1.out ∧ numAt v 10 2 = r.1.inn ∧ numAt v 12 4 = r.1.tsn ∧ r.1.cookie = [] ∧ 0 = r.2 := by rw [h]; exact ⟨rfl, rfl, rfl, rfl, rfl, rfl, rfl⟩
theorem ref_e1 {c : ChR} (h : c.t ≠ 1 ∧ c.t ≠ 2 ∨ c.v.length < 16) : toHelRef c = (noHel, 2) := by unfold toHelRef; rw [if_pos h]
theorem ref_e2 {c : ChR} (h : c.t = 2 ∧ c.v.length < 20) : toHelRef c = (noHel, 2) := by
  unfold toHelRef; split
  · rfl
  · first | rfl | rw [if_pos h]
theorem ref_e3 {c : ChR} (h : c.t = 2 ∧ (numAt c.v 18 2 - 4 < 0 ∨ (c.v.length : Int) - 20 < numAt c.v 18 2 - 4)) : toHelRef c = (noHel, 2) := by
  unfold toHelRef; split
  · rfl
  split
  · rfl
  · first | rfl | rw [if_pos h]
theorem ref_e4 {c : ChR} {H : HelR} (ho : helRef c = H) (e : ¬ (fromHel H (decide (c.t = 2))).2 = 0 ∨ sameB (fromHel H (decide (c.t = 2))).1 c = false) : toHelRef c = (noHel, 2) := by
  subst ho; unfold toHelRef; split
  · rfl
  split
  · rfl
  split
  · rfl
  · first | rfl | rw [if_pos e]
theorem ref_ok {c : ChR} {H : HelR} (ho : helRef c = H) (h1 : ¬ (c.t ≠ 1 ∧ c.t ≠ 2 ∨ c.v.length < 16)) (h2 : ¬ (c.t = 2 ∧ c.v.length < 20)) (h3 : ¬ (c.t = 2 ∧ (numAt c.v 18 2 - 4 < 0 ∨ (c.v.length : Int) - 20 < numAt c.v 18 2 - 4)))
    (e : (fromHel H (decide (c.t = 2))).2 = 0) (e' : sameB (fromHel H (decide (c.t = 2))).1 c = true) : toHelRef c = (H, 0) := by
  subst ho; unfold toHelRef; rw [if_neg h1, if_neg h2, if_neg h3, if_neg]; rw [e, e']; simp
theorem from_e1 {h : HelR} {b : Bool} (e : greetF h b = false) : fromHel h b = (noCh, 2) := by unfold fromHel; rw [if_pos e]
theorem from_e2 {h : HelR} {b : Bool} (e : greetF h b = true) (e' : 256 < h.cookie.length) : fromHel h b = (noCh, 4) := by unfold fromHel; rw [if_neg (by rw [e]; simp), if_pos e']
theorem from_t {h : HelR} (e : greetF h true = true) (e' : ¬ 256 < h.cookie.length) : fromHel h true = (⟨2, 0, ckB h⟩, 0) := by unfold fromHel; rw [if_neg (by rw [e]; simp), if_neg e']; rfl
theorem from_f {h : HelR} (e : greetF h false = true) (e' : ¬ 256 < h.cookie.length) : fromHel h false = (⟨1, 0, helB h⟩, 0) := by unfold fromHel; rw [if_neg (by rw [e]; simp), if_neg e']; rfl
theorem leaf0 {r : ChR × Int} {e : Int} (h : r = (noCh, e)) : 0 = r.1.t ∧ 0 = r.1.f ∧ r.1.v = [] ∧ e = r.2 := by rw [h]; exact ⟨rfl, rfl, rfl, rfl⟩
theorem greet_f {h : HelR} {b : Bool} : greetF h b = false ↔ h.tag = 0 ∨ h.out = 0 ∨ h.inn = 0 ∨ (b = false ∧ 0 < h.cookie.length) := by
  unfold greetF
  cases b <;> simp
  · constructor
    · intro h1
      by_cases a : h.tag = 0
      · exact .inl a
      by_cases b : h.out = 0
      · exact .inr (.inl b)
      by_cases c : h.inn = 0
      · exact .inr (.inr (.inl c))
      · exact .inr (.inr (.inr (List.length_pos_iff.2 (h1 a b c))))
    · rintro (h1 | h1 | h1 | h1) a b c
      · exact absurd h1 a
      · exact absurd h1 b
      · exact absurd h1 c
      · exact List.length_pos_iff.1 h1
  · constructor
    · intro h1
      by_cases a : h.tag = 0
      · exact .inl a
      by_cases b : h.out = 0
      · exact .inr (.inl b)
      · exact .inr (.inr (h1 a b))
    · rintro (h1 | h1 | h1) a b
      · exact absurd h1 a
      · exact absurd h1 b
      · exact h1
theorem from_rest {h : HelR} {b : Bool} (hs : sm h.cookie.length) (hg : greetF h b = true) (hl : ¬ 256 < h.cookie.length) : (∃ (b_1 : List Int) (n : Int) (k : Nat), [O.d (D.ints IntKind.u8 ([] : List Int)), O.d (D.v (Value.int IntKind.u64 h.tag)), O.d (D.v (Value.int IntKind.i64 (4 : Int)))] = [O.d (D.ints IntKind.u8 b_1), O.d (D.v (Value.int IntKind.u64 n)), O.d (D.v (Value.int IntKind.i64 (k : Int)))] ∧ sm b_1.length ∧ 1 ≤ k ∧ k ≤ 8) ∧ (∃ (b_1 : List Int) (n : Int) (k : Nat), [O.d (D.ints IntKind.u8 (be h.tag 4)), O.d (D.v (Value.int IntKind.u64 h.win)), O.d (D.v (Value.int IntKind.i64 (4 : Int)))] = [O.d (D.ints IntKind.u8 b_1), O.d (D.v (Value.int IntKind.u64 n)), O.d (D.v (Value.int IntKind.i64 (k : Int)))] ∧ sm b_1.length ∧ 1 ≤ k ∧ k ≤ 8) ∧ (∃ (b_1 : List Int) (n : Int) (k : Nat), [O.d (D.ints IntKind.u8 (be h.tag 4 ++ be h.win 4)), O.d (D.v (Value.int IntKind.u64 h.out)), O.d (D.v (Value.int IntKind.i64 2))] = [O.d (D.ints IntKind.u8 b_1), O.d (D.v (Value.int IntKind.u64 n)), O.d (D.v (Value.int IntKind.i64 (k : Int)))] ∧ sm b_1.length ∧ 1 ≤ k ∧ k ≤ 8) ∧ (∃ (b_1 : List Int) (n : Int) (k : Nat), [O.d (D.ints IntKind.u8 (be h.tag 4 ++ be h.win 4 ++ be h.out 2)), O.d (D.v (Value.int IntKind.u64 h.inn)), O.d (D.v (Value.int IntKind.i64 2))] = [O.d (D.ints IntKind.u8 b_1), O.d (D.v (Value.int IntKind.u64 n)), O.d (D.v (Value.int IntKind.i64 (k : Int)))] ∧ sm b_1.length ∧ 1 ≤ k ∧ k ≤ 8) ∧ (∃ (b_1 : List Int) (n : Int) (k : Nat), [O.d (D.ints IntKind.u8 (be h.tag 4 ++ be h.win 4 ++ be h.out 2 ++ be h.inn 2)), O.d (D.v (Value.int IntKind.u64 h.tsn)), O.d (D.v (Value.int IntKind.i64 (4 : Int)))] = [O.d (D.ints IntKind.u8 b_1), O.d (D.v (Value.int IntKind.u64 n)), O.d (D.v (Value.int IntKind.i64 (k : Int)))] ∧ sm b_1.length ∧ 1 ≤ k ∧ k ≤ 8) ∧ (b = false → 1 = (fromHel h b).fst.t ∧ 0 = (fromHel h b).fst.f ∧ be h.tag 4 ++ be h.win 4 ++ be h.out 2 ++ be h.inn 2 ++ be h.tsn 4 = (fromHel h b).fst.v ∧ 0 = (fromHel h b).snd) ∧ (b = true → (∃ (b_1 : List Int) (n : Int) (k : Nat), [O.d (D.ints IntKind.u8 (be h.tag 4 ++ be h.win 4 ++ be h.out 2 ++ be h.inn 2 ++ be h.tsn 4)), O.d (D.v (Value.int IntKind.u64 7)), O.d (D.v (Value.int IntKind.i64 2))] = [O.d (D.ints IntKind.u8 b_1), O.d (D.v (Value.int IntKind.u64 n)), O.d (D.v (Value.int IntKind.i64 (k : Int)))] ∧ sm b_1.length ∧ 1 ≤ k ∧ k ≤ 8) ∧ (∃ (b_1 : List Int) (n : Int) (k : Nat), [O.d (D.ints IntKind.u8 (be h.tag 4 ++ be h.win 4 ++ be h.out 2 ++ be h.inn 2 ++ be h.tsn 4 ++ be 7 2)), O.d (D.v (Value.int IntKind.u64 (IntKind.u64.wrap (IntKind.i64.wrap (4 + (h.cookie.length : Int)))))), O.d (D.v (Value.int IntKind.i64 2))] = [O.d (D.ints IntKind.u8 b_1), O.d (D.v (Value.int IntKind.u64 n)), O.d (D.v (Value.int IntKind.i64 (k : Int)))] ∧ sm b_1.length ∧ 1 ≤ k ∧ k ≤ 8) ∧ (∃ l : List Int, [O.d (D.ints IntKind.u8 h.cookie)] = [O.d (D.ints IntKind.u8 l)] ∧ sm l.length) ∧ 20 + (padF h.cookie).length ≤ 140737488355328 ∧ 2 = (fromHel h b).fst.t ∧ 0 = (fromHel h b).fst.f ∧ be h.tag 4 ++ be h.win 4 ++ be h.out 2 ++ be h.inn 2 ++ be h.tsn 4 ++ be 7 2 ++ be (IntKind.u64.wrap (IntKind.i64.wrap (4 + (h.cookie.length : Int)))) 2 ++ padF h.cookie = (fromHel h b).fst.v ∧ 0 = (fromHel h b).snd) := by
  have hs' := hs
  unfold sm at hs'
  have hp := padN_le h.cookie.length
  refine ⟨⟨_, _, 4, rfl, by unfold sm; simp, by decide, by decide⟩, ⟨_, _, 4, rfl, by unfold sm; simp [be_len], by decide, by decide⟩, ⟨_, _, 2, rfl, by unfold sm; simp [be_len], by decide, by decide⟩, ⟨_, _, 2, rfl, by unfold sm; simp [be_len], by decide, by decide⟩, ⟨_, _, 4, rfl, by unfold sm; simp [be_len], by decide, by decide⟩, fun hb => ?_, fun hb => ?_⟩
  · subst hb; rw [from_f hg hl]; exact ⟨rfl, rfl, rfl, rfl⟩
  · subst hb
    rw [from_t hg hl, wrap_len hs']
    exact ⟨⟨_, _, 2, rfl, by unfold sm; simp [be_len], by decide, by decide⟩, ⟨_, _, 2, rfl, by unfold sm; simp [be_len], by decide, by decide⟩, ⟨_, rfl, hs⟩, by rw [padF_len]; omega, rfl, rfl, by simp [ckB, helB], rfl⟩
noncomputable def code56 : Code := match Try.f56.body with | some c => c | none => .skip
set_option maxHeartbeats 4000000 in
theorem vc56 : ∀ (h : HelR) (b : Bool), True ∧ sw (!decide (h.tag = (0 : Int))) (SV.p (1 : Nat) (2 : Nat) = SV.p (1 : Nat) (2 : Nat)) True ∧ sw (!decide (h.tag = (0 : Int))) ([!decide (h.tag = (0 : Int))] = [!decide (h.tag = (0 : Int))] ∧
  SV.c (Value.int IntKind.u16 h.out) = SV.c (Value.int IntKind.u16 h.out)) True ∧ sw (!decide (h.tag = (0 : Int))) ([!decide (h.tag = (0 : Int))] = [!decide (h.tag = (0 : Int))] ∧
  True ∧ SV.c (Value.bool !decide (h.out = (0 : Int))) = SV.c (Value.bool !decide (h.out = (0 : Int)))) True ∧ [!decide (h.tag = (0 : Int))] = [!decide (h.tag = (0 : Int))] ∧
  sw (!decide (h.tag = (0 : Int)) && !decide (h.out = (0 : Int))) (SV.p (1 : Nat) (3 : Nat) = SV.p (1 : Nat) (3 : Nat)) True ∧ sw (!decide (h.tag = (0 : Int)) && !decide (h.out = (0 : Int))) ([!decide (h.tag = (0 : Int)) && !decide (h.out = (0 : Int))] = [!decide (h.tag = (0 : Int)) && !decide (h.out = (0 : Int))] ∧
  SV.c (Value.int IntKind.u16 h.inn) = SV.c (Value.int IntKind.u16 h.inn)) True ∧ sw (!decide (h.tag = (0 : Int)) && !decide (h.out = (0 : Int))) ([!decide (h.tag = (0 : Int)) && !decide (h.out = (0 : Int))] = [!decide (h.tag = (0 : Int)) && !decide (h.out = (0 : Int))] ∧
  True ∧ SV.c (Value.bool !decide (h.inn = (0 : Int))) = SV.c (Value.bool !decide (h.inn = (0 : Int)))) True ∧ [!decide (h.tag = (0 : Int)) && !decide (h.out = (0 : Int))] = [!decide (h.tag = (0 : Int)) && !decide (h.out = (0 : Int))] ∧
  sw (!decide (h.tag = (0 : Int)) && !decide (h.out = (0 : Int)) && !decide (h.inn = (0 : Int))) (SV.c (Value.bool b) = SV.c (Value.bool b)) True ∧ sw (!decide (h.tag = (0 : Int)) && !decide (h.out = (0 : Int)) && !decide (h.inn = (0 : Int))) ([!decide (h.tag = (0 : Int)) && !decide (h.out = (0 : Int)) && !decide (h.inn = (0 : Int))] = [!decide (h.tag = (0 : Int)) && !decide (h.out = (0 : Int)) && !decide (h.inn = (0 : Int))] ∧
  SV.c (Value.bool b) = SV.c (Value.bool b)) True ∧ sw (!b && (!decide (h.tag = (0 : Int)) && !decide (h.out = (0 : Int)) && !decide (h.inn = (0 : Int)))) (SV.p (1 : Nat) (5 : Nat) = SV.p (1 : Nat) (5 : Nat)) True ∧
  sw (!b && (!decide (h.tag = (0 : Int)) && !decide (h.out = (0 : Int)) && !decide (h.inn = (0 : Int)))) ([!b, !decide (h.tag = (0 : Int)) && !decide (h.out = (0 : Int)) && !decide (h.inn = (0 : Int))] = [!b, !decide (h.tag = (0 : Int)) && !decide (h.out = (0 : Int)) && !decide (h.inn = (0 : Int))] ∧
  SV.a (0 : Nat) = SV.a (0 : Nat)) True ∧ sw (!b && (!decide (h.tag = (0 : Int)) && !decide (h.out = (0 : Int)) && !decide (h.inn = (0 : Int)))) ([!b, !decide (h.tag = (0 : Int)) && !decide (h.out = (0 : Int)) && !decide (h.inn = (0 : Int))] = [!b, !decide (h.tag = (0 : Int)) && !decide (h.out = (0 : Int)) && !decide (h.inn = (0 : Int))] ∧
  SV.c (Value.int IntKind.i64 (↑h.cookie.length : Int)) = SV.c (Value.int IntKind.i64 (↑h.cookie.length : Int))) True ∧ sw (!b && (!decide (h.tag = (0 : Int)) && !decide (h.out = (0 : Int)) && !decide (h.inn = (0 : Int)))) ([!b, !decide (h.tag = (0 : Int)) && !decide (h.out = (0 : Int)) && !decide (h.inn = (0 : Int))] = [!b, !decide (h.tag = (0 : Int)) && !decide (h.out = (0 : Int)) && !decide (h.inn = (0 : Int))] ∧
  True ∧ SV.c (Value.bool (decide ((↑h.cookie.length : Int) = (0 : Int)))) = SV.c (Value.bool (decide ((↑h.cookie.length : Int) = (0 : Int))))) True ∧ sw (!decide (h.tag = (0 : Int)) && !decide (h.out = (0 : Int)) && !decide (h.inn = (0 : Int))) ([!decide (h.tag = (0 : Int)) && !decide (h.out = (0 : Int)) && !decide (h.inn = (0 : Int))] = [!decide (h.tag = (0 : Int)) && !decide (h.out = (0 : Int)) && !decide (h.inn = (0 : Int))] ∧
  [!b, !decide (h.tag = (0 : Int)) && !decide (h.out = (0 : Int)) && !decide (h.inn = (0 : Int))] = [!b, !decide (h.tag = (0 : Int)) && !decide (h.out = (0 : Int)) && !decide (h.inn = (0 : Int))] ∧
  SV.c (Value.bool (b || decide ((↑h.cookie.length : Int) = (0 : Int)))) = SV.c (Value.bool (b || decide ((↑h.cookie.length : Int) = (0 : Int))))) True ∧
  [!decide (h.tag = (0 : Int)) && !decide (h.out = (0 : Int)) && !decide (h.inn = (0 : Int))] = [!decide (h.tag = (0 : Int)) && !decide (h.out = (0 : Int)) && !decide (h.inn = (0 : Int))] ∧
  (!decide (h.tag = (0 : Int)) && !decide (h.out = (0 : Int)) && !decide (h.inn = (0 : Int)) && (b || decide ((↑h.cookie.length : Int) = (0 : Int)))) = greetF (HelR.mk h.tag h.win h.out h.inn h.tsn h.cookie) b ∧
  (true && true) = true := by
  simp only [↓sw_iff, ↓Bool.and_eq_true, ↓Bool.and_eq_false_iff, ↓decide_eq_true_eq, ↓decide_eq_false_iff_not, ↓Bool.not_eq_true', ↓Bool.not_eq_false', true_and, and_true, implies_true, hel_eta]
  intro h b
  unfold greetF
  have : decide ((h.cookie.length : Int) = 0) = decide (h.cookie.length = 0) := by rw [decide_eq_decide]; omega
  rw [this]
set_option maxRecDepth 100000 in
theorem ok56 : FnIs Try.prog 56 greetC := by
  refine fnIs (C := (ctrs c0)) (by kernel_rfl) c0_ok Try.func56 (code := code56) (by kernel_rfl) (by kernel_rfl) ?_
  rintro a ⟨h, b, rfl⟩
  exact ⟨anns [], kcast (vc56 h b) (by kernel_rfl)⟩

theorem c12_ok : COk Try.prog (ctrs c12) := cok_cons ok56 (cok_cons ok45 (cok_cons ok46 cok_nil))

noncomputable def code29 : Code := match Try.f29.body with | some c => c | none => .skip
set_option maxHeartbeats 4000000 in
theorem vc29 : ∀ (h : HelR) (b : Bool), okHel h → (∃ (h_1 : HelR), ∃ (b_1 : Bool), [O.agg [O.d (D.v (Value.int IntKind.u32 h.tag)), O.d (D.v (Value.int IntKind.u32 h.win)), O.d (D.v (Value.int IntKind.u16 h.out)), O.d (D.v (Value.int IntKind.u16 h.inn)), O.d (D.v (Value.int IntKind.u32 h.tsn)), O.d (D.ints IntKind.u8 h.cookie)], O.d (D.v (Value.bool b))] = [O.agg [O.d (D.v (Value.int IntKind.u32 h_1.tag)), O.d (D.v (Value.int IntKind.u32 h_1.win)), O.d (D.v (Value.int IntKind.u16 h_1.out)), O.d (D.v (Value.int IntKind.u16 h_1.inn)), O.d (D.v (Value.int IntKind.u32 h_1.tsn)), O.d (D.ints IntKind.u8 h_1.cookie)], O.d (D.v (Value.bool b_1))]) ∧
  sw (!greetF (HelR.mk h.tag h.win h.out h.inn h.tsn h.cookie) b) ((0 : Int) = (fromHel (HelR.mk h.tag h.win h.out h.inn h.tsn h.cookie) b).fst.t ∧ (0 : Int) = (fromHel (HelR.mk h.tag h.win h.out h.inn h.tsn h.cookie) b).fst.f ∧
  (fromHel (HelR.mk h.tag h.win h.out h.inn h.tsn h.cookie) b).fst.v = [] ∧ (2 : Int) = (fromHel (HelR.mk h.tag h.win h.out h.inn h.tsn h.cookie) b).snd ∧
  (true && true) = true) (True ∧ sw (decide ((256 : Int) < (↑h.cookie.length : Int))) ((0 : Int) = (fromHel (HelR.mk h.tag h.win h.out h.inn h.tsn h.cookie) b).fst.t ∧
  (0 : Int) = (fromHel (HelR.mk h.tag h.win h.out h.inn h.tsn h.cookie) b).fst.f ∧ (fromHel (HelR.mk h.tag h.win h.out h.inn h.tsn h.cookie) b).fst.v = [] ∧
  (4 : Int) = (fromHel (HelR.mk h.tag h.win h.out h.inn h.tsn h.cookie) b).snd ∧ (true && true) = true) (((∃ (b_1 : List Int), ∃ (n : Int), ∃ (k : Nat), [O.d (D.ints IntKind.u8 []), O.d (D.v (Value.int IntKind.u64 (IntKind.u64.wrap h.tag))), O.d (D.v (Value.int IntKind.i64 (4 : Int)))] = [O.d (D.ints IntKind.u8 b_1), O.d (D.v (Value.int IntKind.u64 n)), O.d (D.v (Value.int IntKind.i64 (↑k : Int)))] ∧
  sm b_1.length ∧ (1 : Nat) ≤ k ∧ k ≤ (8 : Nat)) ∧ ((∃ (b_1 : List Int), ∃ (n : Int), ∃ (k : Nat), [O.d (D.ints IntKind.u8 ([] ++ be (IntKind.u64.wrap h.tag) (Int.toNat (4 : Int)))), O.d (D.v (Value.int IntKind.u64 (IntKind.u64.wrap h.win))), O.d (D.v (Value.int IntKind.i64 (4 : Int)))] = [O.d (D.ints IntKind.u8 b_1), O.d (D.v (Value.int IntKind.u64 n)), O.d (D.v (Value.int IntKind.i64 (↑k : Int)))] ∧
  sm b_1.length ∧ (1 : Nat) ≤ k ∧ k ≤ (8 : Nat)) ∧ ((∃ (b_1 : List Int), ∃ (n : Int), ∃ (k : Nat), [O.d (D.ints IntKind.u8 ([] ++ be (IntKind.u64.wrap h.tag) (Int.toNat (4 : Int)) ++ be (IntKind.u64.wrap h.win) (Int.toNat (4 : Int)))), O.d (D.v (Value.int IntKind.u64 (IntKind.u64.wrap h.out))), O.d (D.v (Value.int IntKind.i64 (2 : Int)))] = [O.d (D.ints IntKind.u8 b_1), O.d (D.v (Value.int IntKind.u64 n)), O.d (D.v (Value.int IntKind.i64 (↑k : Int)))] ∧
  sm b_1.length ∧ (1 : Nat) ≤ k ∧ k ≤ (8 : Nat)) ∧ ((∃ (b_1 : List Int), ∃ (n : Int), ∃ (k : Nat), [O.d (D.ints IntKind.u8 ([] ++ be (IntKind.u64.wrap h.tag) (Int.toNat (4 : Int)) ++ be (IntKind.u64.wrap h.win) (Int.toNat (4 : Int)) ++ be (IntKind.u64.wrap h.out) (Int.toNat (2 : Int)))), O.d (D.v (Value.int IntKind.u64 (IntKind.u64.wrap h.inn))), O.d (D.v (Value.int IntKind.i64 (2 : Int)))] = [O.d (D.ints IntKind.u8 b_1), O.d (D.v (Value.int IntKind.u64 n)), O.d (D.v (Value.int IntKind.i64 (↑k : Int)))] ∧
  sm b_1.length ∧ (1 : Nat) ≤ k ∧ k ≤ (8 : Nat)) ∧ ((∃ (b_1 : List Int), ∃ (n : Int), ∃ (k : Nat), [O.d (D.ints IntKind.u8 ([] ++ be (IntKind.u64.wrap h.tag) (Int.toNat (4 : Int)) ++ be (IntKind.u64.wrap h.win) (Int.toNat (4 : Int)) ++ be (IntKind.u64.wrap h.out) (Int.toNat (2 : Int)) ++ be (IntKind.u64.wrap h.inn) (Int.toNat (2 : Int)))), O.d (D.v (Value.int IntKind.u64 (IntKind.u64.wrap h.tsn))), O.d (D.v (Value.int IntKind.i64 (4 : Int)))] = [O.d (D.ints IntKind.u8 b_1), O.d (D.v (Value.int IntKind.u64 n)), O.d (D.v (Value.int IntKind.i64 (↑k : Int)))] ∧
  sm b_1.length ∧ (1 : Nat) ≤ k ∧ k ≤ (8 : Nat)) ∧ sw (!b) ((1 : Int) = (fromHel (HelR.mk h.tag h.win h.out h.inn h.tsn h.cookie) b).fst.t ∧ (0 : Int) = (fromHel (HelR.mk h.tag h.win h.out h.inn h.tsn h.cookie) b).fst.f ∧
  [] ++ be (IntKind.u64.wrap h.tag) (Int.toNat (4 : Int)) ++ be (IntKind.u64.wrap h.win) (Int.toNat (4 : Int)) ++ be (IntKind.u64.wrap h.out) (Int.toNat (2 : Int)) ++ be (IntKind.u64.wrap h.inn) (Int.toNat (2 : Int)) ++ be (IntKind.u64.wrap h.tsn) (Int.toNat (4 : Int)) = (fromHel (HelR.mk h.tag h.win h.out h.inn h.tsn h.cookie) b).fst.v ∧
  (0 : Int) = (fromHel (HelR.mk h.tag h.win h.out h.inn h.tsn h.cookie) b).snd ∧ (!false && true && true) = true) (True ∧ ((∃ (b_1 : List Int), ∃ (n : Int), ∃ (k : Nat), [O.d (D.ints IntKind.u8 ([] ++ be (IntKind.u64.wrap h.tag) (Int.toNat (4 : Int)) ++ be (IntKind.u64.wrap h.win) (Int.toNat (4 : Int)) ++ be (IntKind.u64.wrap h.out) (Int.toNat (2 : Int)) ++ be (IntKind.u64.wrap h.inn) (Int.toNat (2 : Int)) ++ be (IntKind.u64.wrap h.tsn) (Int.toNat (4 : Int)))), O.d (D.v (Value.int IntKind.u64 (7 : Int))), O.d (D.v (Value.int IntKind.i64 (2 : Int)))] = [O.d (D.ints IntKind.u8 b_1), O.d (D.v (Value.int IntKind.u64 n)), O.d (D.v (Value.int IntKind.i64 (↑k : Int)))] ∧
  sm b_1.length ∧ (1 : Nat) ≤ k ∧ k ≤ (8 : Nat)) ∧ ((∃ (b_1 : List Int), ∃ (n : Int), ∃ (k : Nat), [O.d (D.ints IntKind.u8 ([] ++ be (IntKind.u64.wrap h.tag) (Int.toNat (4 : Int)) ++ be (IntKind.u64.wrap h.win) (Int.toNat (4 : Int)) ++ be (IntKind.u64.wrap h.out) (Int.toNat (2 : Int)) ++ be (IntKind.u64.wrap h.inn) (Int.toNat (2 : Int)) ++ be (IntKind.u64.wrap h.tsn) (Int.toNat (4 : Int)) ++ be (7 : Int) (Int.toNat (2 : Int)))), O.d (D.v (Value.int IntKind.u64 (IntKind.u64.wrap (IntKind.i64.wrap ((4 : Int) + (↑h.cookie.length : Int)))))), O.d (D.v (Value.int IntKind.i64 (2 : Int)))] = [O.d (D.ints IntKind.u8 b_1), O.d (D.v (Value.int IntKind.u64 n)), O.d (D.v (Value.int IntKind.i64 (↑k : Int)))] ∧
  sm b_1.length ∧ (1 : Nat) ≤ k ∧ k ≤ (8 : Nat)) ∧ (∃ (l : List Int), [O.d (D.ints IntKind.u8 h.cookie)] = [O.d (D.ints IntKind.u8 l)] ∧ sm l.length) ∧ True ∧
  ((20 : Nat) + (padF h.cookie).length) * Try.prog.types[(5 : Nat)].bytes ≤ (140737488355328 : Nat) ∧ (2 : Int) = (fromHel (HelR.mk h.tag h.win h.out h.inn h.tsn h.cookie) b).fst.t ∧
  (0 : Int) = (fromHel (HelR.mk h.tag h.win h.out h.inn h.tsn h.cookie) b).fst.f ∧ [] ++ be (IntKind.u64.wrap h.tag) (Int.toNat (4 : Int)) ++ be (IntKind.u64.wrap h.win) (Int.toNat (4 : Int)) ++ be (IntKind.u64.wrap h.out) (Int.toNat (2 : Int)) ++ be (IntKind.u64.wrap h.inn) (Int.toNat (2 : Int)) ++ be (IntKind.u64.wrap h.tsn) (Int.toNat (4 : Int)) ++ be (7 : Int) (Int.toNat (2 : Int)) ++ be (IntKind.u64.wrap (IntKind.i64.wrap ((4 : Int) + (↑h.cookie.length : Int)))) (Int.toNat (2 : Int)) ++ padF h.cookie = (fromHel (HelR.mk h.tag h.win h.out h.inn h.tsn h.cookie) b).fst.v ∧
  (0 : Int) = (fromHel (HelR.mk h.tag h.win h.out h.inn h.tsn h.cookie) b).snd ∧ (!false && true && true) = true) ∧ True) ∧ True)) ∧ True) ∧ True) ∧ True) ∧
  True) ∧ True)) := by
  simp only [↓sw_iff, ↓Bool.and_eq_true, ↓decide_eq_true_eq, ↓decide_eq_false_iff_not, ↓Bool.not_eq_true', ↓Bool.not_eq_false', true_and, and_true, List.nil_append, Nat.mul_one, bytes5, toNat2, toNat4, hel_eta]
  intro h b ok
  obtain ⟨w1, w2, w3, w4, w5⟩ := hel_w ok
  simp only [w1, w2, w3, w4, w5]
  have hs : sm h.cookie.length := ok.2.2.2.2.2.2
  refine ⟨⟨h, b, rfl⟩, fun hg => leaf0 (from_e1 hg), fun hg => ⟨fun hl => leaf0 (from_e2 hg (by omega)), fun hl => from_rest hs hg (by omega)⟩⟩
set_option maxRecDepth 100000 in
theorem ok29 : FnIs Try.prog 29 fromHelC := by
  refine fnIs (C := (ctrs c12)) (by kernel_rfl) c12_ok Try.func29 (code := code29) (by kernel_rfl) (by kernel_rfl) ?_
  rintro a ⟨h, b, rfl, ok⟩
  exact ⟨anns [], kcast (vc29 h b ok) (by kernel_rfl)⟩

noncomputable def code30 : Code := match Try.f30.body with | some c => c | none => .skip
set_option maxHeartbeats 4000000 in
theorem vc30 : ∀ (h : HelR) (b : Bool), okHel h → True ∧ sw (decide (h.tag = (0 : Int))) ((0 : Int) = (fromHel (HelR.mk h.tag h.win h.out h.inn h.tsn h.cookie) b).fst.t ∧
  (0 : Int) = (fromHel (HelR.mk h.tag h.win h.out h.inn h.tsn h.cookie) b).fst.f ∧ (fromHel (HelR.mk h.tag h.win h.out h.inn h.tsn h.cookie) b).fst.v = [] ∧
  (2 : Int) = (fromHel (HelR.mk h.tag h.win h.out h.inn h.tsn h.cookie) b).snd ∧ (true && true) = true) (True ∧ sw (decide (h.out = (0 : Int))) ((0 : Int) = (fromHel (HelR.mk h.tag h.win h.out h.inn h.tsn h.cookie) b).fst.t ∧
  (0 : Int) = (fromHel (HelR.mk h.tag h.win h.out h.inn h.tsn h.cookie) b).fst.f ∧ (fromHel (HelR.mk h.tag h.win h.out h.inn h.tsn h.cookie) b).fst.v = [] ∧
  (2 : Int) = (fromHel (HelR.mk h.tag h.win h.out h.inn h.tsn h.cookie) b).snd ∧ (true && true) = true) (True ∧ sw (decide (h.inn = (0 : Int))) ((0 : Int) = (fromHel (HelR.mk h.tag h.win h.out h.inn h.tsn h.cookie) b).fst.t ∧
  (0 : Int) = (fromHel (HelR.mk h.tag h.win h.out h.inn h.tsn h.cookie) b).fst.f ∧ (fromHel (HelR.mk h.tag h.win h.out h.inn h.tsn h.cookie) b).fst.v = [] ∧
  (2 : Int) = (fromHel (HelR.mk h.tag h.win h.out h.inn h.tsn h.cookie) b).snd ∧ (true && true) = true) (sw (!b) (True ∧ sw (decide ((0 : Int) < (↑h.cookie.length : Int))) ((0 : Int) = (fromHel (HelR.mk h.tag h.win h.out h.inn h.tsn h.cookie) b).fst.t ∧
  (0 : Int) = (fromHel (HelR.mk h.tag h.win h.out h.inn h.tsn h.cookie) b).fst.f ∧ (fromHel (HelR.mk h.tag h.win h.out h.inn h.tsn h.cookie) b).fst.v = [] ∧
  (2 : Int) = (fromHel (HelR.mk h.tag h.win h.out h.inn h.tsn h.cookie) b).snd ∧ (true && true) = true) (True ∧ sw (decide ((256 : Int) < (↑h.cookie.length : Int))) ((0 : Int) = (fromHel (HelR.mk h.tag h.win h.out h.inn h.tsn h.cookie) b).fst.t ∧
  (0 : Int) = (fromHel (HelR.mk h.tag h.win h.out h.inn h.tsn h.cookie) b).fst.f ∧ (fromHel (HelR.mk h.tag h.win h.out h.inn h.tsn h.cookie) b).fst.v = [] ∧
  (4 : Int) = (fromHel (HelR.mk h.tag h.win h.out h.inn h.tsn h.cookie) b).snd ∧ (true && true) = true) ((∃ (b_1 : List Int), ∃ (n : Int), ∃ (k : Nat), [O.d (D.ints IntKind.u8 []), O.d (D.v (Value.int IntKind.u64 (IntKind.u64.wrap h.tag))), O.d (D.v (Value.int IntKind.i64 (4 : Int)))] = [O.d (D.ints IntKind.u8 b_1), O.d (D.v (Value.int IntKind.u64 n)), O.d (D.v (Value.int IntKind.i64 (↑k : Int)))] ∧
  sm b_1.length ∧ (1 : Nat) ≤ k ∧ k ≤ (8 : Nat)) ∧ (∃ (b_1 : List Int), ∃ (n : Int), ∃ (k : Nat), [O.d (D.ints IntKind.u8 ([] ++ be (IntKind.u64.wrap h.tag) (Int.toNat (4 : Int)))), O.d (D.v (Value.int IntKind.u64 (IntKind.u64.wrap h.win))), O.d (D.v (Value.int IntKind.i64 (4 : Int)))] = [O.d (D.ints IntKind.u8 b_1), O.d (D.v (Value.int IntKind.u64 n)), O.d (D.v (Value.int IntKind.i64 (↑k : Int)))] ∧
  sm b_1.length ∧ (1 : Nat) ≤ k ∧ k ≤ (8 : Nat)) ∧ (∃ (b_1 : List Int), ∃ (n : Int), ∃ (k : Nat), [O.d (D.ints IntKind.u8 ([] ++ be (IntKind.u64.wrap h.tag) (Int.toNat (4 : Int)) ++ be (IntKind.u64.wrap h.win) (Int.toNat (4 : Int)))), O.d (D.v (Value.int IntKind.u64 (IntKind.u64.wrap h.out))), O.d (D.v (Value.int IntKind.i64 (2 : Int)))] = [O.d (D.ints IntKind.u8 b_1), O.d (D.v (Value.int IntKind.u64 n)), O.d (D.v (Value.int IntKind.i64 (↑k : Int)))] ∧
  sm b_1.length ∧ (1 : Nat) ≤ k ∧ k ≤ (8 : Nat)) ∧ (∃ (b_1 : List Int), ∃ (n : Int), ∃ (k : Nat), [O.d (D.ints IntKind.u8 ([] ++ be (IntKind.u64.wrap h.tag) (Int.toNat (4 : Int)) ++ be (IntKind.u64.wrap h.win) (Int.toNat (4 : Int)) ++ be (IntKind.u64.wrap h.out) (Int.toNat (2 : Int)))), O.d (D.v (Value.int IntKind.u64 (IntKind.u64.wrap h.inn))), O.d (D.v (Value.int IntKind.i64 (2 : Int)))] = [O.d (D.ints IntKind.u8 b_1), O.d (D.v (Value.int IntKind.u64 n)), O.d (D.v (Value.int IntKind.i64 (↑k : Int)))] ∧
  sm b_1.length ∧ (1 : Nat) ≤ k ∧ k ≤ (8 : Nat)) ∧ (∃ (b_1 : List Int), ∃ (n : Int), ∃ (k : Nat), [O.d (D.ints IntKind.u8 ([] ++ be (IntKind.u64.wrap h.tag) (Int.toNat (4 : Int)) ++ be (IntKind.u64.wrap h.win) (Int.toNat (4 : Int)) ++ be (IntKind.u64.wrap h.out) (Int.toNat (2 : Int)) ++ be (IntKind.u64.wrap h.inn) (Int.toNat (2 : Int)))), O.d (D.v (Value.int IntKind.u64 (IntKind.u64.wrap h.tsn))), O.d (D.v (Value.int IntKind.i64 (4 : Int)))] = [O.d (D.ints IntKind.u8 b_1), O.d (D.v (Value.int IntKind.u64 n)), O.d (D.v (Value.int IntKind.i64 (↑k : Int)))] ∧
  sm b_1.length ∧ (1 : Nat) ≤ k ∧ k ≤ (8 : Nat)) ∧ sw (!b) ((1 : Int) = (fromHel (HelR.mk h.tag h.win h.out h.inn h.tsn h.cookie) b).fst.t ∧ (0 : Int) = (fromHel (HelR.mk h.tag h.win h.out h.inn h.tsn h.cookie) b).fst.f ∧
  [] ++ be (IntKind.u64.wrap h.tag) (Int.toNat (4 : Int)) ++ be (IntKind.u64.wrap h.win) (Int.toNat (4 : Int)) ++ be (IntKind.u64.wrap h.out) (Int.toNat (2 : Int)) ++ be (IntKind.u64.wrap h.inn) (Int.toNat (2 : Int)) ++ be (IntKind.u64.wrap h.tsn) (Int.toNat (4 : Int)) = (fromHel (HelR.mk h.tag h.win h.out h.inn h.tsn h.cookie) b).fst.v ∧
  (0 : Int) = (fromHel (HelR.mk h.tag h.win h.out h.inn h.tsn h.cookie) b).snd ∧ (!false && true && true) = true) ((∃ (b_1 : List Int), ∃ (n : Int), ∃ (k : Nat), [O.d (D.ints IntKind.u8 ([] ++ be (IntKind.u64.wrap h.tag) (Int.toNat (4 : Int)) ++ be (IntKind.u64.wrap h.win) (Int.toNat (4 : Int)) ++ be (IntKind.u64.wrap h.out) (Int.toNat (2 : Int)) ++ be (IntKind.u64.wrap h.inn) (Int.toNat (2 : Int)) ++ be (IntKind.u64.wrap h.tsn) (Int.toNat (4 : Int)))), O.d (D.v (Value.int IntKind.u64 (7 : Int))), O.d (D.v (Value.int IntKind.i64 (2 : Int)))] = [O.d (D.ints IntKind.u8 b_1), O.d (D.v (Value.int IntKind.u64 n)), O.d (D.v (Value.int IntKind.i64 (↑k : Int)))] ∧
  sm b_1.length ∧ (1 : Nat) ≤ k ∧ k ≤ (8 : Nat)) ∧ True ∧ (∃ (b_1 : List Int), ∃ (n : Int), ∃ (k : Nat), [O.d (D.ints IntKind.u8 ([] ++ be (IntKind.u64.wrap h.tag) (Int.toNat (4 : Int)) ++ be (IntKind.u64.wrap h.win) (Int.toNat (4 : Int)) ++ be (IntKind.u64.wrap h.out) (Int.toNat (2 : Int)) ++ be (IntKind.u64.wrap h.inn) (Int.toNat (2 : Int)) ++ be (IntKind.u64.wrap h.tsn) (Int.toNat (4 : Int)) ++ be (7 : Int) (Int.toNat (2 : Int)))), O.d (D.v (Value.int IntKind.u64 (IntKind.u64.wrap (IntKind.i64.wrap ((4 : Int) + (↑h.cookie.length : Int)))))), O.d (D.v (Value.int IntKind.i64 (2 : Int)))] = [O.d (D.ints IntKind.u8 b_1), O.d (D.v (Value.int IntKind.u64 n)), O.d (D.v (Value.int IntKind.i64 (↑k : Int)))] ∧
  sm b_1.length ∧ (1 : Nat) ≤ k ∧ k ≤ (8 : Nat)) ∧ (∃ (l : List Int), [O.d (D.ints IntKind.u8 h.cookie)] = [O.d (D.ints IntKind.u8 l)] ∧ sm l.length) ∧ True ∧
  ((20 : Nat) + (padF h.cookie).length) * Try.prog.types[(5 : Nat)].bytes ≤ (140737488355328 : Nat) ∧ (2 : Int) = (fromHel (HelR.mk h.tag h.win h.out h.inn h.tsn h.cookie) b).fst.t ∧
  (0 : Int) = (fromHel (HelR.mk h.tag h.win h.out h.inn h.tsn h.cookie) b).fst.f ∧ [] ++ be (IntKind.u64.wrap h.tag) (Int.toNat (4 : Int)) ++ be (IntKind.u64.wrap h.win) (Int.toNat (4 : Int)) ++ be (IntKind.u64.wrap h.out) (Int.toNat (2 : Int)) ++ be (IntKind.u64.wrap h.inn) (Int.toNat (2 : Int)) ++ be (IntKind.u64.wrap h.tsn) (Int.toNat (4 : Int)) ++ be (7 : Int) (Int.toNat (2 : Int)) ++ be (IntKind.u64.wrap (IntKind.i64.wrap ((4 : Int) + (↑h.cookie.length : Int)))) (Int.toNat (2 : Int)) ++ padF h.cookie = (fromHel (HelR.mk h.tag h.win h.out h.inn h.tsn h.cookie) b).fst.v ∧
  (0 : Int) = (fromHel (HelR.mk h.tag h.win h.out h.inn h.tsn h.cookie) b).snd ∧ (!false && true && true) = true)))) (True ∧ sw (decide ((256 : Int) < (↑h.cookie.length : Int))) ((0 : Int) = (fromHel (HelR.mk h.tag h.win h.out h.inn h.tsn h.cookie) b).fst.t ∧
  (0 : Int) = (fromHel (HelR.mk h.tag h.win h.out h.inn h.tsn h.cookie) b).fst.f ∧ (fromHel (HelR.mk h.tag h.win h.out h.inn h.tsn h.cookie) b).fst.v = [] ∧
  (4 : Int) = (fromHel (HelR.mk h.tag h.win h.out h.inn h.tsn h.cookie) b).snd ∧ (true && true) = true) ((∃ (b_1 : List Int), ∃ (n : Int), ∃ (k : Nat), [O.d (D.ints IntKind.u8 []), O.d (D.v (Value.int IntKind.u64 (IntKind.u64.wrap h.tag))), O.d (D.v (Value.int IntKind.i64 (4 : Int)))] = [O.d (D.ints IntKind.u8 b_1), O.d (D.v (Value.int IntKind.u64 n)), O.d (D.v (Value.int IntKind.i64 (↑k : Int)))] ∧
  sm b_1.length ∧ (1 : Nat) ≤ k ∧ k ≤ (8 : Nat)) ∧ (∃ (b_1 : List Int), ∃ (n : Int), ∃ (k : Nat), [O.d (D.ints IntKind.u8 ([] ++ be (IntKind.u64.wrap h.tag) (Int.toNat (4 : Int)))), O.d (D.v (Value.int IntKind.u64 (IntKind.u64.wrap h.win))), O.d (D.v (Value.int IntKind.i64 (4 : Int)))] = [O.d (D.ints IntKind.u8 b_1), O.d (D.v (Value.int IntKind.u64 n)), O.d (D.v (Value.int IntKind.i64 (↑k : Int)))] ∧
  sm b_1.length ∧ (1 : Nat) ≤ k ∧ k ≤ (8 : Nat)) ∧ (∃ (b_1 : List Int), ∃ (n : Int), ∃ (k : Nat), [O.d (D.ints IntKind.u8 ([] ++ be (IntKind.u64.wrap h.tag) (Int.toNat (4 : Int)) ++ be (IntKind.u64.wrap h.win) (Int.toNat (4 : Int)))), O.d (D.v (Value.int IntKind.u64 (IntKind.u64.wrap h.out))), O.d (D.v (Value.int IntKind.i64 (2 : Int)))] = [O.d (D.ints IntKind.u8 b_1), O.d (D.v (Value.int IntKind.u64 n)), O.d (D.v (Value.int IntKind.i64 (↑k : Int)))] ∧
  sm b_1.length ∧ (1 : Nat) ≤ k ∧ k ≤ (8 : Nat)) ∧ (∃ (b_1 : List Int), ∃ (n : Int), ∃ (k : Nat), [O.d (D.ints IntKind.u8 ([] ++ be (IntKind.u64.wrap h.tag) (Int.toNat (4 : Int)) ++ be (IntKind.u64.wrap h.win) (Int.toNat (4 : Int)) ++ be (IntKind.u64.wrap h.out) (Int.toNat (2 : Int)))), O.d (D.v (Value.int IntKind.u64 (IntKind.u64.wrap h.inn))), O.d (D.v (Value.int IntKind.i64 (2 : Int)))] = [O.d (D.ints IntKind.u8 b_1), O.d (D.v (Value.int IntKind.u64 n)), O.d (D.v (Value.int IntKind.i64 (↑k : Int)))] ∧
  sm b_1.length ∧ (1 : Nat) ≤ k ∧ k ≤ (8 : Nat)) ∧ (∃ (b_1 : List Int), ∃ (n : Int), ∃ (k : Nat), [O.d (D.ints IntKind.u8 ([] ++ be (IntKind.u64.wrap h.tag) (Int.toNat (4 : Int)) ++ be (IntKind.u64.wrap h.win) (Int.toNat (4 : Int)) ++ be (IntKind.u64.wrap h.out) (Int.toNat (2 : Int)) ++ be (IntKind.u64.wrap h.inn) (Int.toNat (2 : Int)))), O.d (D.v (Value.int IntKind.u64 (IntKind.u64.wrap h.tsn))), O.d (D.v (Value.int IntKind.i64 (4 : Int)))] = [O.d (D.ints IntKind.u8 b_1), O.d (D.v (Value.int IntKind.u64 n)), O.d (D.v (Value.int IntKind.i64 (↑k : Int)))] ∧
  sm b_1.length ∧ (1 : Nat) ≤ k ∧ k ≤ (8 : Nat)) ∧ sw (!b) ((1 : Int) = (fromHel (HelR.mk h.tag h.win h.out h.inn h.tsn h.cookie) b).fst.t ∧ (0 : Int) = (fromHel (HelR.mk h.tag h.win h.out h.inn h.tsn h.cookie) b).fst.f ∧
  [] ++ be (IntKind.u64.wrap h.tag) (Int.toNat (4 : Int)) ++ be (IntKind.u64.wrap h.win) (Int.toNat (4 : Int)) ++ be (IntKind.u64.wrap h.out) (Int.toNat (2 : Int)) ++ be (IntKind.u64.wrap h.inn) (Int.toNat (2 : Int)) ++ be (IntKind.u64.wrap h.tsn) (Int.toNat (4 : Int)) = (fromHel (HelR.mk h.tag h.win h.out h.inn h.tsn h.cookie) b).fst.v ∧
  (0 : Int) = (fromHel (HelR.mk h.tag h.win h.out h.inn h.tsn h.cookie) b).snd ∧ (!false && true && true) = true) ((∃ (b_1 : List Int), ∃ (n : Int), ∃ (k : Nat), [O.d (D.ints IntKind.u8 ([] ++ be (IntKind.u64.wrap h.tag) (Int.toNat (4 : Int)) ++ be (IntKind.u64.wrap h.win) (Int.toNat (4 : Int)) ++ be (IntKind.u64.wrap h.out) (Int.toNat (2 : Int)) ++ be (IntKind.u64.wrap h.inn) (Int.toNat (2 : Int)) ++ be (IntKind.u64.wrap h.tsn) (Int.toNat (4 : Int)))), O.d (D.v (Value.int IntKind.u64 (7 : Int))), O.d (D.v (Value.int IntKind.i64 (2 : Int)))] = [O.d (D.ints IntKind.u8 b_1), O.d (D.v (Value.int IntKind.u64 n)), O.d (D.v (Value.int IntKind.i64 (↑k : Int)))] ∧
  sm b_1.length ∧ (1 : Nat) ≤ k ∧ k ≤ (8 : Nat)) ∧ True ∧ (∃ (b_1 : List Int), ∃ (n : Int), ∃ (k : Nat), [O.d (D.ints IntKind.u8 ([] ++ be (IntKind.u64.wrap h.tag) (Int.toNat (4 : Int)) ++ be (IntKind.u64.wrap h.win) (Int.toNat (4 : Int)) ++ be (IntKind.u64.wrap h.out) (Int.toNat (2 : Int)) ++ be (IntKind.u64.wrap h.inn) (Int.toNat (2 : Int)) ++ be (IntKind.u64.wrap h.tsn) (Int.toNat (4 : Int)) ++ be (7 : Int) (Int.toNat (2 : Int)))), O.d (D.v (Value.int IntKind.u64 (IntKind.u64.wrap (IntKind.i64.wrap ((4 : Int) + (↑h.cookie.length : Int)))))), O.d (D.v (Value.int IntKind.i64 (2 : Int)))] = [O.d (D.ints IntKind.u8 b_1), O.d (D.v (Value.int IntKind.u64 n)), O.d (D.v (Value.int IntKind.i64 (↑k : Int)))] ∧
  sm b_1.length ∧ (1 : Nat) ≤ k ∧ k ≤ (8 : Nat)) ∧ (∃ (l : List Int), [O.d (D.ints IntKind.u8 h.cookie)] = [O.d (D.ints IntKind.u8 l)] ∧ sm l.length) ∧ True ∧
  ((20 : Nat) + (padF h.cookie).length) * Try.prog.types[(5 : Nat)].bytes ≤ (140737488355328 : Nat) ∧ (2 : Int) = (fromHel (HelR.mk h.tag h.win h.out h.inn h.tsn h.cookie) b).fst.t ∧
  (0 : Int) = (fromHel (HelR.mk h.tag h.win h.out h.inn h.tsn h.cookie) b).fst.f ∧ [] ++ be (IntKind.u64.wrap h.tag) (Int.toNat (4 : Int)) ++ be (IntKind.u64.wrap h.win) (Int.toNat (4 : Int)) ++ be (IntKind.u64.wrap h.out) (Int.toNat (2 : Int)) ++ be (IntKind.u64.wrap h.inn) (Int.toNat (2 : Int)) ++ be (IntKind.u64.wrap h.tsn) (Int.toNat (4 : Int)) ++ be (7 : Int) (Int.toNat (2 : Int)) ++ be (IntKind.u64.wrap (IntKind.i64.wrap ((4 : Int) + (↑h.cookie.length : Int)))) (Int.toNat (2 : Int)) ++ padF h.cookie = (fromHel (HelR.mk h.tag h.win h.out h.inn h.tsn h.cookie) b).fst.v ∧
  (0 : Int) = (fromHel (HelR.mk h.tag h.win h.out h.inn h.tsn h.cookie) b).snd ∧ (!false && true && true) = true)))))) := by
  simp only [↓sw_iff, ↓Bool.and_eq_true, ↓decide_eq_true_eq, ↓decide_eq_false_iff_not, ↓Bool.not_eq_true', ↓Bool.not_eq_false', true_and, and_true, List.nil_append, Nat.mul_one, bytes5, toNat2, toNat4, hel_eta]
  intro h b ok
  obtain ⟨w1, w2, w3, w4, w5⟩ := hel_w ok
  simp only [w1, w2, w3, w4, w5]
  have hs : sm h.cookie.length := ok.2.2.2.2.2.2
  have gr : ∀ b, ¬ h.tag = 0 → ¬ h.out = 0 → ¬ h.inn = 0 → (b = true ∨ ¬ 0 < h.cookie.length) → greetF h b = true := fun b a1 a2 a3 a4 => by
    cases hg : greetF h b with
    | true => rfl
    | false =>
      rcases greet_f.1 hg with x | x | x | x
      · exact absurd x a1
      · exact absurd x a2
      · exact absurd x a3
      · rcases a4 with y | y
        · rw [x.1] at y; cases y
        · exact absurd x.2 y
  refine ⟨fun a1 => leaf0 (from_e1 (greet_f.2 (.inl a1))), fun a1 => ⟨fun a2 => leaf0 (from_e1 (greet_f.2 (.inr (.inl a2)))), fun a2 => ⟨fun a3 => leaf0 (from_e1 (greet_f.2 (.inr (.inr (.inl a3))))), fun a3 => ⟨fun a4 => ⟨fun a5 => leaf0 (from_e1 (greet_f.2 (.inr (.inr (.inr ⟨a4, by omega⟩))))), fun a5 => ?_⟩, fun a4 => ?_⟩⟩⟩⟩
  · have hg := gr b a1 a2 a3 (.inr (by omega))
    exact ⟨fun hl => leaf0 (from_e2 hg (by omega)), fun hl => from_rest hs hg (by omega)⟩
  · have hg := gr b a1 a2 a3 (.inl a4)
    exact ⟨fun hl => leaf0 (from_e2 hg (by omega)), fun hl => from_rest hs hg (by omega)⟩
set_option maxRecDepth 100000 in
theorem ok30 : FnIs Try.prog 30 fromHelC := by
  refine fnIs (C := (ctrs c6)) (by kernel_rfl) c6_ok Try.func30 (code := code30) (by kernel_rfl) (by kernel_rfl) ?_
  rintro a ⟨h, b, rfl, ok⟩
  exact ⟨anns [] [1], kcast (vc30 h b ok) (by kernel_rfl)⟩

theorem c16_ok : COk Try.prog (ctrs c16) := cok_cons ok50q (cok_cons ok30 (cok_cons ok25 cok_nil))

noncomputable def code70 : Code := match Try.f70.body with | some c => c | none => .skip
set_option maxHeartbeats 4000000 in
theorem vc70 : ∀ (l m : List Int), sm l.length → True ∧ sw (!decide ((↑l.length : Int) = (↑m.length : Int))) (false = decide (l = m) ∧ (true && true) = true) (∃ (g0 : Nat), (g0 ≤ l.length ∧
  ∀ (j : Nat), j < g0 → l.getD j (0 : Int) = m.getD j (0 : Int)) ∧ (0 : Int) = (↑g0 : Int) ∧ (true && true) = true ∧ ∀ (g : Nat), (g ≤ l.length ∧ ∀ (j : Nat), j < g →
  l.getD j (0 : Int) = m.getD j (0 : Int)) → True ∧ sw (decide ((↑g : Int) < (↑l.length : Int))) (((0 : Int) ≤ (↑g : Int) ∧ (↑g : Int) < (↑l.length : Int)) ∧
  ((0 : Int) ≤ (↑g : Int) ∧ (↑g : Int) < (↑m.length : Int)) ∧ True ∧ sw (!decide (l.getD (↑g : Int).toNat (0 : Int) = m.getD (↑g : Int).toNat (0 : Int))) (false = decide (l = m) ∧
  (true && true) = true) (True ∧ ∃ (g' : Nat), (g' ≤ l.length ∧ ∀ (j : Nat), j < g' → l.getD j (0 : Int) = m.getD j (0 : Int)) ∧ l.length - g' < l.length - g ∧
  (IntKind.i64.wrap ((↑g : Int) + (1 : Int)) = (↑g' : Int) ∧ (true && true && true) = true) ∧ (some (SV.c (Value.int IntKind.i64 (↑l.length : Int))) = some (SV.c (Value.int IntKind.i64 (↑l.length : Int))) ∧
  some (SV.a (0 : Nat)) = some (SV.a (0 : Nat)) ∧ some (SV.c (Value.bool !decide ((↑l.length : Int) = (↑m.length : Int)))) = some (SV.c (Value.bool !decide ((↑l.length : Int) = (↑m.length : Int)))) ∧
  some (SV.c (Value.int IntKind.i64 (↑m.length : Int))) = some (SV.c (Value.int IntKind.i64 (↑m.length : Int))) ∧ some (SV.a (1 : Nat)) = some (SV.a (1 : Nat)) ∧
  some (SV.c (Value.int IntKind.i64 (↑l.length : Int))) = some (SV.c (Value.int IntKind.i64 (↑l.length : Int))) ∧ some (SV.a (0 : Nat)) = some (SV.a (0 : Nat)) ∧
  some (SV.a (0 : Nat)) = some (SV.a (0 : Nat)) ∧ some (SV.a (1 : Nat)) = some (SV.a (1 : Nat)) ∧ True) ∧ some (R.ro (D.ints IntKind.u8 m)) = some (R.ro (D.ints IntKind.u8 m)) ∧
  some (R.ro (D.ints IntKind.u8 l)) = some (R.ro (D.ints IntKind.u8 l)) ∧ True)) (true = decide (l = m) ∧ (true && true) = true)) := by
  simp only [↓sw_iff, ↓Bool.and_eq_true, ↓decide_eq_true_eq, ↓decide_eq_false_iff_not, ↓Bool.not_eq_true', ↓Bool.not_eq_false', true_and, and_true, Int.toNat_natCast]
  intro l m h
  unfold sm at h
  refine ⟨fun e => (decide_eq_false (fun x => e (by rw [x]))).symm, fun e => ⟨0, ⟨Nat.zero_le _, fun j hj => absurd hj (Nat.not_lt_zero _)⟩, rfl, ?_⟩⟩
  rintro g ⟨g1, g2⟩
  refine ⟨fun t => ⟨⟨by omega, by omega⟩, ⟨by omega, by omega⟩, fun e => (decide_eq_false (fun x => e (by rw [x]))).symm, fun e => ⟨g + 1, ⟨by omega, fun j hj => ?_⟩, by omega, by rw [wrap_i64_id (by omega) (by omega)]; rfl⟩⟩, fun t => (decide_eq_true ?_).symm⟩
  · by_cases hjg : j = g
    · subst hjg; exact e
    · exact g2 j (by omega)
  · apply List.ext_getElem (by omega)
    intro i i1 i2
    have := g2 i (by omega)
    simpa [List.getD, List.getElem?_eq_getElem i1, List.getElem?_eq_getElem i2] using this
set_option maxRecDepth 100000 in
theorem ok70 : FnIs Try.prog 70 eqC := by
  refine fnIs (C := (ctrs c0)) (by kernel_rfl) c0_ok Try.func70 (code := code70) (by kernel_rfl) (by kernel_rfl) ?_
  rintro a ⟨l, m, rfl, h⟩
  exact ⟨anns [(4, eqAnn l m)], kcast (vc70 l m h) (by kernel_rfl)⟩

theorem c13_ok : COk Try.prog (ctrs c13) := cok_cons ok70 cok_nil

noncomputable def code55 : Code := match Try.f55.body with | some c => c | none => .skip
set_option maxHeartbeats 4000000 in
theorem vc55 : ∀ (c d : ChR), okCh c → True ∧ sw (decide (c.t = d.t)) (SV.p (2 : Nat) (1 : Nat) = SV.p (2 : Nat) (1 : Nat)) True ∧ sw (decide (c.t = d.t)) ([decide (c.t = d.t)] = [decide (c.t = d.t)] ∧
  SV.c (Value.int IntKind.u8 c.f) = SV.c (Value.int IntKind.u8 c.f)) True ∧ sw (decide (c.t = d.t)) (SV.p (3 : Nat) (1 : Nat) = SV.p (3 : Nat) (1 : Nat)) True ∧
  sw (decide (c.t = d.t)) ([decide (c.t = d.t)] = [decide (c.t = d.t)] ∧ SV.c (Value.int IntKind.u8 d.f) = SV.c (Value.int IntKind.u8 d.f)) True ∧ sw (decide (c.t = d.t)) ([decide (c.t = d.t)] = [decide (c.t = d.t)] ∧
  [decide (c.t = d.t)] = [decide (c.t = d.t)] ∧ True ∧ SV.c (Value.bool (decide (c.f = d.f))) = SV.c (Value.bool (decide (c.f = d.f)))) True ∧ [decide (c.t = d.t)] = [decide (c.t = d.t)] ∧
  sw (decide (c.t = d.t) && decide (c.f = d.f)) (SV.p (2 : Nat) (2 : Nat) = SV.p (2 : Nat) (2 : Nat)) True ∧ sw (decide (c.t = d.t) && decide (c.f = d.f)) ([decide (c.t = d.t) && decide (c.f = d.f)] = [decide (c.t = d.t) && decide (c.f = d.f)] ∧
  SV.a (0 : Nat) = SV.a (0 : Nat)) True ∧ sw (decide (c.t = d.t) && decide (c.f = d.f)) (SV.p (3 : Nat) (2 : Nat) = SV.p (3 : Nat) (2 : Nat)) True ∧ sw (decide (c.t = d.t) && decide (c.f = d.f)) ([decide (c.t = d.t) && decide (c.f = d.f)] = [decide (c.t = d.t) && decide (c.f = d.f)] ∧
  SV.a (1 : Nat) = SV.a (1 : Nat)) True ∧ sw (decide (c.t = d.t) && decide (c.f = d.f)) ([decide (c.t = d.t) && decide (c.f = d.f)] = [decide (c.t = d.t) && decide (c.f = d.f)] ∧
  [decide (c.t = d.t) && decide (c.f = d.f)] = [decide (c.t = d.t) && decide (c.f = d.f)] ∧ (∃ (l : List Int), ∃ (m : List Int), [O.d (D.ints IntKind.u8 c.v), O.d (D.ints IntKind.u8 d.v)] = [O.d (D.ints IntKind.u8 l), O.d (D.ints IntKind.u8 m)] ∧
  sm l.length) ∧ SV.c (Value.bool (decide (c.v = d.v))) = SV.c (Value.bool (decide (c.v = d.v)))) True ∧ [decide (c.t = d.t) && decide (c.f = d.f)] = [decide (c.t = d.t) && decide (c.f = d.f)] ∧
  (decide (c.t = d.t) && decide (c.f = d.f) && decide (c.v = d.v)) = sameB (ChR.mk c.t c.f c.v) (ChR.mk d.t d.f d.v) ∧ (true && true) = true := by
  simp only [↓sw_iff, ↓Bool.and_eq_true, ↓Bool.and_eq_false_iff, ↓decide_eq_true_eq, ↓decide_eq_false_iff_not, true_and, and_true, implies_true, ch_eta]
  intro c d h
  exact ⟨fun _ => ⟨_, _, rfl, h⟩, rfl⟩
set_option maxRecDepth 100000 in
theorem ok55 : FnIs Try.prog 55 sameBC := by
  refine fnIs (C := (ctrs c13)) (by kernel_rfl) c13_ok Try.func55 (code := code55) (by kernel_rfl) (by kernel_rfl) ?_
  rintro a ⟨c, d, rfl, h⟩
  exact ⟨anns [], kcast (vc55 c d h) (by kernel_rfl)⟩

noncomputable def code53 : Code := match Try.f53.body with | some c => c | none => .skip
set_option maxHeartbeats 4000000 in
theorem vc53 : ∀ (v : List Int) (i : Int) (b : Bool) (k : Nat), sm v.length → okB v → (0 : Int) ≤ i → i ≤ (1099511627776 : Int) → (1 : Nat) ≤ k → k ≤ (8 : Nat) → (∃ (b_1 : List Int), ∃ (i_1 : Int), ∃ (k_1 : Nat), [O.d (D.ints IntKind.u8 v), O.d (D.v (Value.int IntKind.i64 i)), O.d (D.v (Value.int IntKind.i64 (↑k : Int)))] = [O.d (D.ints IntKind.u8 b_1), O.d (D.v (Value.int IntKind.i64 i_1)), O.d (D.v (Value.int IntKind.i64 (↑k_1 : Int)))] ∧
  sm b_1.length ∧ okB b_1 ∧ okI i_1 ∧ (1 : Nat) ≤ k_1 ∧ k_1 ≤ (8 : Nat)) ∧ True ∧ sw (!b) (SV.c (Value.int IntKind.i64 (partF v i (↑(↑k : Int).toNat : Int)).snd) = SV.c (Value.int IntKind.i64 (partF v i (↑(↑k : Int).toNat : Int)).snd)) True ∧
  sw (!b) ([!b] = [!b] ∧ True ∧ SV.c (Value.bool !decide ((partF v i (↑(↑k : Int).toNat : Int)).snd = (0 : Int))) = SV.c (Value.bool !decide ((partF v i (↑(↑k : Int).toNat : Int)).snd = (0 : Int)))) True ∧
  [!b] = [!b] ∧ v = v ∧ IntKind.i64.wrap (i + (↑k : Int)) = i + (↑k : Int) ∧ (b || !decide ((partF v i (↑(↑k : Int).toNat : Int)).snd = (0 : Int))) = (b || !decide ((getF v i (↑k : Int).toNat).snd = (0 : Int))) ∧
  valF (partF v i (↑(↑k : Int).toNat : Int)).fst = numAt v i (↑k : Int).toNat ∧ (!false && true && true) = true := by
  simp only [↓sw_iff, ↓Bool.and_eq_true, ↓Bool.not_eq_true', ↓Bool.not_eq_false', true_and, and_true, implies_true, Int.toNat_natCast, num_def]
  intro v i b k h1 h2 h3 h4 h5 h6
  refine ⟨⟨v, i, k, rfl, h1, h2, by unfold okI; omega, h5, h6⟩, wrap_i64_id (by omega) (by omega), rfl⟩
set_option maxRecDepth 100000 in
theorem ok53 : FnIs Try.prog 53 rdC := by
  refine fnIs (C := (ctrs c14)) (by kernel_rfl) c14_ok Try.func53 (code := code53) (by kernel_rfl) (by kernel_rfl) ?_
  rintro a ⟨v, i, b, k, rfl, h1, h2, h3, h4, h5, h6⟩
  exact ⟨anns [], kcast (vc53 v i b k h1 h2 h3 h4 h5 h6) (by kernel_rfl)⟩

theorem c15_ok : COk Try.prog (ctrs c15) := cok_cons ok53 (cok_cons ok57 (cok_cons ok29 (cok_cons ok55 cok_nil)))

noncomputable def code31 : Code := match Try.f31.body with | some c => c | none => .skip
set_option maxHeartbeats 4000000 in
theorem vc31 : ∀ (c : ChR), okB c.v → sm c.v.length → (∃ (v : List Int), ∃ (i : Int), ∃ (b : Bool), ∃ (k : Nat), [O.ptr (90 : Nat) [O.d (D.ints IntKind.u8 c.v), O.d (D.v (Value.int IntKind.i64 (0 : Int))), O.d (D.v (Value.bool false))], O.d (D.v (Value.int IntKind.i64 (4 : Int)))] = [O.ptr (90 : Nat) [O.d (D.ints IntKind.u8 v), O.d (D.v (Value.int IntKind.i64 i)), O.d (D.v (Value.bool b))], O.d (D.v (Value.int IntKind.i64 (↑k : Int)))] ∧
  sm v.length ∧ okB v ∧ (0 : Int) ≤ i ∧ i ≤ (1099511627776 : Int) ∧ (1 : Nat) ≤ k ∧ k ≤ (8 : Nat)) ∧ (∃ (v : List Int), ∃ (i : Int), ∃ (b : Bool), ∃ (k : Nat), [O.ptr (90 : Nat) [O.d (D.ints IntKind.u8 c.v), O.d (D.v (Value.int IntKind.i64 ((0 : Int) + (4 : Int)))), O.d (D.v (Value.bool (false || !decide ((getF c.v (0 : Int) (Int.toNat (4 : Int))).snd = (0 : Int)))))], O.d (D.v (Value.int IntKind.i64 (4 : Int)))] = [O.ptr (90 : Nat) [O.d (D.ints IntKind.u8 v), O.d (D.v (Value.int IntKind.i64 i)), O.d (D.v (Value.bool b))], O.d (D.v (Value.int IntKind.i64 (↑k : Int)))] ∧
  sm v.length ∧ okB v ∧ (0 : Int) ≤ i ∧ i ≤ (1099511627776 : Int) ∧ (1 : Nat) ≤ k ∧ k ≤ (8 : Nat)) ∧ (∃ (v : List Int), ∃ (i : Int), ∃ (b : Bool), ∃ (k : Nat), [O.ptr (90 : Nat) [O.d (D.ints IntKind.u8 c.v), O.d (D.v (Value.int IntKind.i64 ((0 : Int) + (4 : Int) + (4 : Int)))), O.d (D.v (Value.bool (false || !decide ((getF c.v (0 : Int) (Int.toNat (4 : Int))).snd = (0 : Int)) || !decide ((getF c.v ((0 : Int) + (4 : Int)) (Int.toNat (4 : Int))).snd = (0 : Int)))))], O.d (D.v (Value.int IntKind.i64 (2 : Int)))] = [O.ptr (90 : Nat) [O.d (D.ints IntKind.u8 v), O.d (D.v (Value.int IntKind.i64 i)), O.d (D.v (Value.bool b))], O.d (D.v (Value.int IntKind.i64 (↑k : Int)))] ∧
  sm v.length ∧ okB v ∧ (0 : Int) ≤ i ∧ i ≤ (1099511627776 : Int) ∧ (1 : Nat) ≤ k ∧ k ≤ (8 : Nat)) ∧ (∃ (v : List Int), ∃ (i : Int), ∃ (b : Bool), ∃ (k : Nat), [O.ptr (90 : Nat) [O.d (D.ints IntKind.u8 c.v), O.d (D.v (Value.int IntKind.i64 ((0 : Int) + (4 : Int) + (4 : Int) + (2 : Int)))), O.d (D.v (Value.bool (false || !decide ((getF c.v (0 : Int) (Int.toNat (4 : Int))).snd = (0 : Int)) || !decide ((getF c.v ((0 : Int) + (4 : Int)) (Int.toNat (4 : Int))).snd = (0 : Int)) || !decide ((getF c.v ((0 : Int) + (4 : Int) + (4 : Int)) (Int.toNat (2 : Int))).snd = (0 : Int)))))], O.d (D.v (Value.int IntKind.i64 (2 : Int)))] = [O.ptr (90 : Nat) [O.d (D.ints IntKind.u8 v), O.d (D.v (Value.int IntKind.i64 i)), O.d (D.v (Value.bool b))], O.d (D.v (Value.int IntKind.i64 (↑k : Int)))] ∧
  sm v.length ∧ okB v ∧ (0 : Int) ≤ i ∧ i ≤ (1099511627776 : Int) ∧ (1 : Nat) ≤ k ∧ k ≤ (8 : Nat)) ∧ (∃ (v : List Int), ∃ (i : Int), ∃ (b : Bool), ∃ (k : Nat), [O.ptr (90 : Nat) [O.d (D.ints IntKind.u8 c.v), O.d (D.v (Value.int IntKind.i64 ((0 : Int) + (4 : Int) + (4 : Int) + (2 : Int) + (2 : Int)))), O.d (D.v (Value.bool (false || !decide ((getF c.v (0 : Int) (Int.toNat (4 : Int))).snd = (0 : Int)) || !decide ((getF c.v ((0 : Int) + (4 : Int)) (Int.toNat (4 : Int))).snd = (0 : Int)) || !decide ((getF c.v ((0 : Int) + (4 : Int) + (4 : Int)) (Int.toNat (2 : Int))).snd = (0 : Int)) || !decide ((getF c.v ((0 : Int) + (4 : Int) + (4 : Int) + (2 : Int)) (Int.toNat (2 : Int))).snd = (0 : Int)))))], O.d (D.v (Value.int IntKind.i64 (4 : Int)))] = [O.ptr (90 : Nat) [O.d (D.ints IntKind.u8 v), O.d (D.v (Value.int IntKind.i64 i)), O.d (D.v (Value.bool b))], O.d (D.v (Value.int IntKind.i64 (↑k : Int)))] ∧
  sm v.length ∧ okB v ∧ (0 : Int) ≤ i ∧ i ≤ (1099511627776 : Int) ∧ (1 : Nat) ≤ k ∧ k ≤ (8 : Nat)) ∧ True ∧ sw (decide (c.t = (2 : Int))) ((∃ (v : List Int), ∃ (i : Int), ∃ (b : Bool), ∃ (k : Nat), [O.ptr (90 : Nat) [O.d (D.ints IntKind.u8 c.v), O.d (D.v (Value.int IntKind.i64 ((0 : Int) + (4 : Int) + (4 : Int) + (2 : Int) + (2 : Int) + (4 : Int)))), O.d (D.v (Value.bool (false || !decide ((getF c.v (0 : Int) (Int.toNat (4 : Int))).snd = (0 : Int)) || !decide ((getF c.v ((0 : Int) + (4 : Int)) (Int.toNat (4 : Int))).snd = (0 : Int)) || !decide ((getF c.v ((0 : Int) + (4 : Int) + (4 : Int)) (Int.toNat (2 : Int))).snd = (0 : Int)) || !decide ((getF c.v ((0 : Int) + (4 : Int) + (4 : Int) + (2 : Int)) (Int.toNat (2 : Int))).snd = (0 : Int)) || !decide ((getF c.v ((0 : Int) + (4 : Int) + (4 : Int) + (2 : Int) + (2 : Int)) (Int.toNat (4 : Int))).snd = (0 : Int)))))], O.d (D.v (Value.int IntKind.i64 (2 : Int)))] = [O.ptr (90 : Nat) [O.d (D.ints IntKind.u8 v), O.d (D.v (Value.int IntKind.i64 i)), O.d (D.v (Value.bool b))], O.d (D.v (Value.int IntKind.i64 (↑k : Int)))] ∧
  sm v.length ∧ okB v ∧ (0 : Int) ≤ i ∧ i ≤ (1099511627776 : Int) ∧ (1 : Nat) ≤ k ∧ k ≤ (8 : Nat)) ∧ True ∧ sw (decide (numAt c.v ((0 : Int) + (4 : Int) + (4 : Int) + (2 : Int) + (2 : Int) + (4 : Int)) (Int.toNat (2 : Int)) = (7 : Int))) ((∃ (v : List Int), ∃ (i : Int), ∃ (b : Bool), ∃ (k : Nat), [O.ptr (90 : Nat) [O.d (D.ints IntKind.u8 c.v), O.d (D.v (Value.int IntKind.i64 ((0 : Int) + (4 : Int) + (4 : Int) + (2 : Int) + (2 : Int) + (4 : Int) + (2 : Int)))), O.d (D.v (Value.bool (false || !decide ((getF c.v (0 : Int) (Int.toNat (4 : Int))).snd = (0 : Int)) || !decide ((getF c.v ((0 : Int) + (4 : Int)) (Int.toNat (4 : Int))).snd = (0 : Int)) || !decide ((getF c.v ((0 : Int) + (4 : Int) + (4 : Int)) (Int.toNat (2 : Int))).snd = (0 : Int)) || !decide ((getF c.v ((0 : Int) + (4 : Int) + (4 : Int) + (2 : Int)) (Int.toNat (2 : Int))).snd = (0 : Int)) || !decide ((getF c.v ((0 : Int) + (4 : Int) + (4 : Int) + (2 : Int) + (2 : Int)) (Int.toNat (4 : Int))).snd = (0 : Int)) || !decide ((getF c.v ((0 : Int) + (4 : Int) + (4 : Int) + (2 : Int) + (2 : Int) + (4 : Int)) (Int.toNat (2 : Int))).snd = (0 : Int)))))], O.d (D.v (Value.int IntKind.i64 (2 : Int)))] = [O.ptr (90 : Nat) [O.d (D.ints IntKind.u8 v), O.d (D.v (Value.int IntKind.i64 i)), O.d (D.v (Value.bool b))], O.d (D.v (Value.int IntKind.i64 (↑k : Int)))] ∧
  sm v.length ∧ okB v ∧ (0 : Int) ≤ i ∧ i ≤ (1099511627776 : Int) ∧ (1 : Nat) ≤ k ∧ k ≤ (8 : Nat)) ∧ True ∧ ((∃ (b : List Int), ∃ (i : Int), ∃ (n : Int), [O.d (D.ints IntKind.u8 c.v), O.d (D.v (Value.int IntKind.i64 ((0 : Int) + (4 : Int) + (4 : Int) + (2 : Int) + (2 : Int) + (4 : Int) + (2 : Int) + (2 : Int)))), O.d (D.v (Value.int IntKind.i64 (IntKind.i64.wrap (IntKind.i64.wrap (numAt c.v ((0 : Int) + (4 : Int) + (4 : Int) + (2 : Int) + (2 : Int) + (4 : Int) + (2 : Int)) (Int.toNat (2 : Int))) - (4 : Int)))))] = [O.d (D.ints IntKind.u8 b), O.d (D.v (Value.int IntKind.i64 i)), O.d (D.v (Value.int IntKind.i64 n))] ∧
  sm b.length ∧ okI i ∧ okI n) ∧ (True ∧ (∃ (h : HelR), ∃ (b : Bool), [O.agg [O.d (D.v (Value.int IntKind.u32 (IntKind.u32.wrap (numAt c.v (0 : Int) (Int.toNat (4 : Int)))))), O.d (D.v (Value.int IntKind.u32 (IntKind.u32.wrap (numAt c.v ((0 : Int) + (4 : Int)) (Int.toNat (4 : Int)))))), O.d (D.v (Value.int IntKind.u16 (IntKind.u16.wrap (numAt c.v ((0 : Int) + (4 : Int) + (4 : Int)) (Int.toNat (2 : Int)))))), O.d (D.v (Value.int IntKind.u16 (IntKind.u16.wrap (numAt c.v ((0 : Int) + (4 : Int) + (4 : Int) + (2 : Int)) (Int.toNat (2 : Int)))))), O.d (D.v (Value.int IntKind.u32 (IntKind.u32.wrap (numAt c.v ((0 : Int) + (4 : Int) + (4 : Int) + (2 : Int) + (2 : Int)) (Int.toNat (4 : Int)))))), O.d (D.ints IntKind.u8 (partF c.v ((0 : Int) + (4 : Int) + (4 : Int) + (2 : Int) + (2 : Int) + (4 : Int) + (2 : Int) + (2 : Int)) (IntKind.i64.wrap (IntKind.i64.wrap (numAt c.v ((0 : Int) + (4 : Int) + (4 : Int) + (2 : Int) + (2 : Int) + (4 : Int) + (2 : Int)) (Int.toNat (2 : Int))) - (4 : Int)))).fst)], O.d (D.v (Value.bool (decide (c.t = (2 : Int)))))] = [O.agg [O.d (D.v (Value.int IntKind.u32 h.tag)), O.d (D.v (Value.int IntKind.u32 h.win)), O.d (D.v (Value.int IntKind.u16 h.out)), O.d (D.v (Value.int IntKind.u16 h.inn)), O.d (D.v (Value.int IntKind.u32 h.tsn)), O.d (D.ints IntKind.u8 h.cookie)], O.d (D.v (Value.bool b))] ∧
  okHel h) ∧ True ∧ sw (!decide ((fromHel (HelR.mk (IntKind.u32.wrap (numAt c.v (0 : Int) (Int.toNat (4 : Int)))) (IntKind.u32.wrap (numAt c.v ((0 : Int) + (4 : Int)) (Int.toNat (4 : Int)))) (IntKind.u16.wrap (numAt c.v ((0 : Int) + (4 : Int) + (4 : Int)) (Int.toNat (2 : Int)))) (IntKind.u16.wrap (numAt c.v ((0 : Int) + (4 : Int) + (4 : Int) + (2 : Int)) (Int.toNat (2 : Int)))) (IntKind.u32.wrap (numAt c.v ((0 : Int) + (4 : Int) + (4 : Int) + (2 : Int) + (2 : Int)) (Int.toNat (4 : Int)))) (partF c.v ((0 : Int) + (4 : Int) + (4 : Int) + (2 : Int) + (2 : Int) + (4 : Int) + (2 : Int) + (2 : Int)) (IntKind.i64.wrap (IntKind.i64.wrap (numAt c.v ((0 : Int) + (4 : Int) + (4 : Int) + (2 : Int) + (2 : Int) + (4 : Int) + (2 : Int)) (Int.toNat (2 : Int))) - (4 : Int)))).fst) (decide (c.t = (2 : Int)))).snd = (0 : Int))) ((0 : Int) = (toHel (ChR.mk c.t c.f c.v)).fst.tag ∧
  (0 : Int) = (toHel (ChR.mk c.t c.f c.v)).fst.win ∧ (0 : Int) = (toHel (ChR.mk c.t c.f c.v)).fst.out ∧ (0 : Int) = (toHel (ChR.mk c.t c.f c.v)).fst.inn ∧
  (0 : Int) = (toHel (ChR.mk c.t c.f c.v)).fst.tsn ∧ (toHel (ChR.mk c.t c.f c.v)).fst.cookie = [] ∧ (2 : Int) = (toHel (ChR.mk c.t c.f c.v)).snd ∧ (true && true) = true) ((∃ (c_1 : ChR), ∃ (d : ChR), [O.agg [O.d (D.v (Value.int IntKind.u8 (fromHel (HelR.mk (IntKind.u32.wrap (numAt c.v (0 : Int) (Int.toNat (4 : Int)))) (IntKind.u32.wrap (numAt c.v ((0 : Int) + (4 : Int)) (Int.toNat (4 : Int)))) (IntKind.u16.wrap (numAt c.v ((0 : Int) + (4 : Int) + (4 : Int)) (Int.toNat (2 : Int)))) (IntKind.u16.wrap (numAt c.v ((0 : Int) + (4 : Int) + (4 : Int) + (2 : Int)) (Int.toNat (2 : Int)))) (IntKind.u32.wrap (numAt c.v ((0 : Int) + (4 : Int) + (4 : Int) + (2 : Int) + (2 : Int)) (Int.toNat (4 : Int)))) (partF c.v ((0 : Int) + (4 : Int) + (4 : Int) + (2 : Int) + (2 : Int) + (4 : Int) + (2 : Int) + (2 : Int)) (IntKind.i64.wrap (IntKind.i64.wrap (numAt c.v ((0 : Int) + (4 : Int) + (4 : Int) + (2 : Int) + (2 : Int) + (4 : Int) + (2 : Int)) (Int.toNat (2 : Int))) - (4 : Int)))).fst) (decide (c.t = (2 : Int)))).fst.t)), O.d (D.v (Value.int IntKind.u8 (fromHel (HelR.mk (IntKind.u32.wrap (numAt c.v (0 : Int) (Int.toNat (4 : Int)))) (IntKind.u32.wrap (numAt c.v ((0 : Int) + (4 : Int)) (Int.toNat (4 : Int)))) (IntKind.u16.wrap (numAt c.v ((0 : Int) + (4 : Int) + (4 : Int)) (Int.toNat (2 : Int)))) (IntKind.u16.wrap (numAt c.v ((0 : Int) + (4 : Int) + (4 : Int) + (2 : Int)) (Int.toNat (2 : Int)))) (IntKind.u32.wrap (numAt c.v ((0 : Int) + (4 : Int) + (4 : Int) + (2 : Int) + (2 : Int)) (Int.toNat (4 : Int)))) (partF c.v ((0 : Int) + (4 : Int) + (4 : Int) + (2 : Int) + (2 : Int) + (4 : Int) + (2 : Int) + (2 : Int)) (IntKind.i64.wrap (IntKind.i64.wrap (numAt c.v ((0 : Int) + (4 : Int) + (4 : Int) + (2 : Int) + (2 : Int) + (4 : Int) + (2 : Int)) (Int.toNat (2 : Int))) - (4 : Int)))).fst) (decide (c.t = (2 : Int)))).fst.f)), O.d (D.ints IntKind.u8 (fromHel (HelR.mk (IntKind.u32.wrap (numAt c.v (0 : Int) (Int.toNat (4 : Int)))) (IntKind.u32.wrap (numAt c.v ((0 : Int) + (4 : Int)) (Int.toNat (4 : Int)))) (IntKind.u16.wrap (numAt c.v ((0 : Int) + (4 : Int) + (4 : Int)) (Int.toNat (2 : Int)))) (IntKind.u16.wrap (numAt c.v ((0 : Int) + (4 : Int) + (4 : Int) + (2 : Int)) (Int.toNat (2 : Int)))) (IntKind.u32.wrap (numAt c.v ((0 : Int) + (4 : Int) + (4 : Int) + (2 : Int) + (2 : Int)) (Int.toNat (4 : Int)))) (partF c.v ((0 : Int) + (4 : Int) + (4 : Int) + (2 : Int) + (2 : Int) + (4 : Int) + (2 : Int) + (2 : Int)) (IntKind.i64.wrap (IntKind.i64.wrap (numAt c.v ((0 : Int) + (4 : Int) + (4 : Int) + (2 : Int) + (2 : Int) + (4 : Int) + (2 : Int)) (Int.toNat (2 : Int))) - (4 : Int)))).fst) (decide (c.t = (2 : Int)))).fst.v)], O.agg [O.d (D.v (Value.int IntKind.u8 c.t)), O.d (D.v (Value.int IntKind.u8 c.f)), O.d (D.ints IntKind.u8 c.v)]] = [O.agg [O.d (D.v (Value.int IntKind.u8 c_1.t)), O.d (D.v (Value.int IntKind.u8 c_1.f)), O.d (D.ints IntKind.u8 c_1.v)], O.agg [O.d (D.v (Value.int IntKind.u8 d.t)), O.d (D.v (Value.int IntKind.u8 d.f)), O.d (D.ints IntKind.u8 d.v)]] ∧
  okCh c_1) ∧ sw (!sameB (ChR.mk (fromHel (HelR.mk (IntKind.u32.wrap (numAt c.v (0 : Int) (Int.toNat (4 : Int)))) (IntKind.u32.wrap (numAt c.v ((0 : Int) + (4 : Int)) (Int.toNat (4 : Int)))) (IntKind.u16.wrap (numAt c.v ((0 : Int) + (4 : Int) + (4 : Int)) (Int.toNat (2 : Int)))) (IntKind.u16.wrap (numAt c.v ((0 : Int) + (4 : Int) + (4 : Int) + (2 : Int)) (Int.toNat (2 : Int)))) (IntKind.u32.wrap (numAt c.v ((0 : Int) + (4 : Int) + (4 : Int) + (2 : Int) + (2 : Int)) (Int.toNat (4 : Int)))) (partF c.v ((0 : Int) + (4 : Int) + (4 : Int) + (2 : Int) + (2 : Int) + (4 : Int) + (2 : Int) + (2 : Int)) (IntKind.i64.wrap (IntKind.i64.wrap (numAt c.v ((0 : Int) + (4 : Int) + (4 : Int) + (2 : Int) + (2 : Int) + (4 : Int) + (2 : Int)) (Int.toNat (2 : Int))) - (4 : Int)))).fst) (decide (c.t = (2 : Int)))).fst.t (fromHel (HelR.mk (IntKind.u32.wrap (numAt c.v (0 : Int) (Int.toNat (4 : Int)))) (IntKind.u32.wrap (numAt c.v ((0 : Int) + (4 : Int)) (Int.toNat (4 : Int)))) (IntKind.u16.wrap (numAt c.v ((0 : Int) + (4 : Int) + (4 : Int)) (Int.toNat (2 : Int)))) (IntKind.u16.wrap (numAt c.v ((0 : Int) + (4 : Int) + (4 : Int) + (2 : Int)) (Int.toNat (2 : Int)))) (IntKind.u32.wrap (numAt c.v ((0 : Int) + (4 : Int) + (4 : Int) + (2 : Int) + (2 : Int)) (Int.toNat (4 : Int)))) (partF c.v ((0 : Int) + (4 : Int) + (4 : Int) + (2 : Int) + (2 : Int) + (4 : Int) + (2 : Int) + (2 : Int)) (IntKind.i64.wrap (IntKind.i64.wrap (numAt c.v ((0 : Int) + (4 : Int) + (4 : Int) + (2 : Int) + (2 : Int) + (4 : Int) + (2 : Int)) (Int.toNat (2 : Int))) - (4 : Int)))).fst) (decide (c.t = (2 : Int)))).fst.f (fromHel (HelR.mk (IntKind.u32.wrap (numAt c.v (0 : Int) (Int.toNat (4 : Int)))) (IntKind.u32.wrap (numAt c.v ((0 : Int) + (4 : Int)) (Int.toNat (4 : Int)))) (IntKind.u16.wrap (numAt c.v ((0 : Int) + (4 : Int) + (4 : Int)) (Int.toNat (2 : Int)))) (IntKind.u16.wrap (numAt c.v ((0 : Int) + (4 : Int) + (4 : Int) + (2 : Int)) (Int.toNat (2 : Int)))) (IntKind.u32.wrap (numAt c.v ((0 : Int) + (4 : Int) + (4 : Int) + (2 : Int) + (2 : Int)) (Int.toNat (4 : Int)))) (partF c.v ((0 : Int) + (4 : Int) + (4 : Int) + (2 : Int) + (2 : Int) + (4 : Int) + (2 : Int) + (2 : Int)) (IntKind.i64.wrap (IntKind.i64.wrap (numAt c.v ((0 : Int) + (4 : Int) + (4 : Int) + (2 : Int) + (2 : Int) + (4 : Int) + (2 : Int)) (Int.toNat (2 : Int))) - (4 : Int)))).fst) (decide (c.t = (2 : Int)))).fst.v) (ChR.mk c.t c.f c.v)) ((0 : Int) = (toHel (ChR.mk c.t c.f c.v)).fst.tag ∧
  (0 : Int) = (toHel (ChR.mk c.t c.f c.v)).fst.win ∧ (0 : Int) = (toHel (ChR.mk c.t c.f c.v)).fst.out ∧ (0 : Int) = (toHel (ChR.mk c.t c.f c.v)).fst.inn ∧
  (0 : Int) = (toHel (ChR.mk c.t c.f c.v)).fst.tsn ∧ (toHel (ChR.mk c.t c.f c.v)).fst.cookie = [] ∧ (2 : Int) = (toHel (ChR.mk c.t c.f c.v)).snd ∧ (true && true) = true) (IntKind.u32.wrap (numAt c.v (0 : Int) (Int.toNat (4 : Int))) = (toHel (ChR.mk c.t c.f c.v)).fst.tag ∧
  IntKind.u32.wrap (numAt c.v ((0 : Int) + (4 : Int)) (Int.toNat (4 : Int))) = (toHel (ChR.mk c.t c.f c.v)).fst.win ∧ IntKind.u16.wrap (numAt c.v ((0 : Int) + (4 : Int) + (4 : Int)) (Int.toNat (2 : Int))) = (toHel (ChR.mk c.t c.f c.v)).fst.out ∧
  IntKind.u16.wrap (numAt c.v ((0 : Int) + (4 : Int) + (4 : Int) + (2 : Int)) (Int.toNat (2 : Int))) = (toHel (ChR.mk c.t c.f c.v)).fst.inn ∧ IntKind.u32.wrap (numAt c.v ((0 : Int) + (4 : Int) + (4 : Int) + (2 : Int) + (2 : Int)) (Int.toNat (4 : Int))) = (toHel (ChR.mk c.t c.f c.v)).fst.tsn ∧
  (partF c.v ((0 : Int) + (4 : Int) + (4 : Int) + (2 : Int) + (2 : Int) + (4 : Int) + (2 : Int) + (2 : Int)) (IntKind.i64.wrap (IntKind.i64.wrap (numAt c.v ((0 : Int) + (4 : Int) + (4 : Int) + (2 : Int) + (2 : Int) + (4 : Int) + (2 : Int)) (Int.toNat (2 : Int))) - (4 : Int)))).fst = (toHel (ChR.mk c.t c.f c.v)).fst.cookie ∧
  (0 : Int) = (toHel (ChR.mk c.t c.f c.v)).snd ∧ (!false && true && true) = true))) ∧ True) ∧ True) (True ∧ (∃ (h : HelR), ∃ (b : Bool), [O.agg [O.d (D.v (Value.int IntKind.u32 (IntKind.u32.wrap (numAt c.v (0 : Int) (Int.toNat (4 : Int)))))), O.d (D.v (Value.int IntKind.u32 (IntKind.u32.wrap (numAt c.v ((0 : Int) + (4 : Int)) (Int.toNat (4 : Int)))))), O.d (D.v (Value.int IntKind.u16 (IntKind.u16.wrap (numAt c.v ((0 : Int) + (4 : Int) + (4 : Int)) (Int.toNat (2 : Int)))))), O.d (D.v (Value.int IntKind.u16 (IntKind.u16.wrap (numAt c.v ((0 : Int) + (4 : Int) + (4 : Int) + (2 : Int)) (Int.toNat (2 : Int)))))), O.d (D.v (Value.int IntKind.u32 (IntKind.u32.wrap (numAt c.v ((0 : Int) + (4 : Int) + (4 : Int) + (2 : Int) + (2 : Int)) (Int.toNat (4 : Int)))))), O.d (D.ints IntKind.u8 [])], O.d (D.v (Value.bool (decide (c.t = (2 : Int)))))] = [O.agg [O.d (D.v (Value.int IntKind.u32 h.tag)), O.d (D.v (Value.int IntKind.u32 h.win)), O.d (D.v (Value.int IntKind.u16 h.out)), O.d (D.v (Value.int IntKind.u16 h.inn)), O.d (D.v (Value.int IntKind.u32 h.tsn)), O.d (D.ints IntKind.u8 h.cookie)], O.d (D.v (Value.bool b))] ∧
  okHel h) ∧ True ∧ sw (!decide ((fromHel (HelR.mk (IntKind.u32.wrap (numAt c.v (0 : Int) (Int.toNat (4 : Int)))) (IntKind.u32.wrap (numAt c.v ((0 : Int) + (4 : Int)) (Int.toNat (4 : Int)))) (IntKind.u16.wrap (numAt c.v ((0 : Int) + (4 : Int) + (4 : Int)) (Int.toNat (2 : Int)))) (IntKind.u16.wrap (numAt c.v ((0 : Int) + (4 : Int) + (4 : Int) + (2 : Int)) (Int.toNat (2 : Int)))) (IntKind.u32.wrap (numAt c.v ((0 : Int) + (4 : Int) + (4 : Int) + (2 : Int) + (2 : Int)) (Int.toNat (4 : Int)))) []) (decide (c.t = (2 : Int)))).snd = (0 : Int))) ((0 : Int) = (toHel (ChR.mk c.t c.f c.v)).fst.tag ∧
  (0 : Int) = (toHel (ChR.mk c.t c.f c.v)).fst.win ∧ (0 : Int) = (toHel (ChR.mk c.t c.f c.v)).fst.out ∧ (0 : Int) = (toHel (ChR.mk c.t c.f c.v)).fst.inn ∧
  (0 : Int) = (toHel (ChR.mk c.t c.f c.v)).fst.tsn ∧ (toHel (ChR.mk c.t c.f c.v)).fst.cookie = [] ∧ (2 : Int) = (toHel (ChR.mk c.t c.f c.v)).snd ∧ (true && true) = true) ((∃ (c_1 : ChR), ∃ (d : ChR), [O.agg [O.d (D.v (Value.int IntKind.u8 (fromHel (HelR.mk (IntKind.u32.wrap (numAt c.v (0 : Int) (Int.toNat (4 : Int)))) (IntKind.u32.wrap (numAt c.v ((0 : Int) + (4 : Int)) (Int.toNat (4 : Int)))) (IntKind.u16.wrap (numAt c.v ((0 : Int) + (4 : Int) + (4 : Int)) (Int.toNat (2 : Int)))) (IntKind.u16.wrap (numAt c.v ((0 : Int) + (4 : Int) + (4 : Int) + (2 : Int)) (Int.toNat (2 : Int)))) (IntKind.u32.wrap (numAt c.v ((0 : Int) + (4 : Int) + (4 : Int) + (2 : Int) + (2 : Int)) (Int.toNat (4 : Int)))) []) (decide (c.t = (2 : Int)))).fst.t)), O.d (D.v (Value.int IntKind.u8 (fromHel (HelR.mk (IntKind.u32.wrap (numAt c.v (0 : Int) (Int.toNat (4 : Int)))) (IntKind.u32.wrap (numAt c.v ((0 : Int) + (4 : Int)) (Int.toNat (4 : Int)))) (IntKind.u16.wrap (numAt c.v ((0 : Int) + (4 : Int) + (4 : Int)) (Int.toNat (2 : Int)))) (IntKind.u16.wrap (numAt c.v ((0 : Int) + (4 : Int) + (4 : Int) + (2 : Int)) (Int.toNat (2 : Int)))) (IntKind.u32.wrap (numAt c.v ((0 : Int) + (4 : Int) + (4 : Int) + (2 : Int) + (2 : Int)) (Int.toNat (4 : Int)))) []) (decide (c.t = (2 : Int)))).fst.f)), O.d (D.ints IntKind.u8 (fromHel (HelR.mk (IntKind.u32.wrap (numAt c.v (0 : Int) (Int.toNat (4 : Int)))) (IntKind.u32.wrap (numAt c.v ((0 : Int) + (4 : Int)) (Int.toNat (4 : Int)))) (IntKind.u16.wrap (numAt c.v ((0 : Int) + (4 : Int) + (4 : Int)) (Int.toNat (2 : Int)))) (IntKind.u16.wrap (numAt c.v ((0 : Int) + (4 : Int) + (4 : Int) + (2 : Int)) (Int.toNat (2 : Int)))) (IntKind.u32.wrap (numAt c.v ((0 : Int) + (4 : Int) + (4 : Int) + (2 : Int) + (2 : Int)) (Int.toNat (4 : Int)))) []) (decide (c.t = (2 : Int)))).fst.v)], O.agg [O.d (D.v (Value.int IntKind.u8 c.t)), O.d (D.v (Value.int IntKind.u8 c.f)), O.d (D.ints IntKind.u8 c.v)]] = [O.agg [O.d (D.v (Value.int IntKind.u8 c_1.t)), O.d (D.v (Value.int IntKind.u8 c_1.f)), O.d (D.ints IntKind.u8 c_1.v)], O.agg [O.d (D.v (Value.int IntKind.u8 d.t)), O.d (D.v (Value.int IntKind.u8 d.f)), O.d (D.ints IntKind.u8 d.v)]] ∧
  okCh c_1) ∧ sw (!sameB (ChR.mk (fromHel (HelR.mk (IntKind.u32.wrap (numAt c.v (0 : Int) (Int.toNat (4 : Int)))) (IntKind.u32.wrap (numAt c.v ((0 : Int) + (4 : Int)) (Int.toNat (4 : Int)))) (IntKind.u16.wrap (numAt c.v ((0 : Int) + (4 : Int) + (4 : Int)) (Int.toNat (2 : Int)))) (IntKind.u16.wrap (numAt c.v ((0 : Int) + (4 : Int) + (4 : Int) + (2 : Int)) (Int.toNat (2 : Int)))) (IntKind.u32.wrap (numAt c.v ((0 : Int) + (4 : Int) + (4 : Int) + (2 : Int) + (2 : Int)) (Int.toNat (4 : Int)))) []) (decide (c.t = (2 : Int)))).fst.t (fromHel (HelR.mk (IntKind.u32.wrap (numAt c.v (0 : Int) (Int.toNat (4 : Int)))) (IntKind.u32.wrap (numAt c.v ((0 : Int) + (4 : Int)) (Int.toNat (4 : Int)))) (IntKind.u16.wrap (numAt c.v ((0 : Int) + (4 : Int) + (4 : Int)) (Int.toNat (2 : Int)))) (IntKind.u16.wrap (numAt c.v ((0 : Int) + (4 : Int) + (4 : Int) + (2 : Int)) (Int.toNat (2 : Int)))) (IntKind.u32.wrap (numAt c.v ((0 : Int) + (4 : Int) + (4 : Int) + (2 : Int) + (2 : Int)) (Int.toNat (4 : Int)))) []) (decide (c.t = (2 : Int)))).fst.f (fromHel (HelR.mk (IntKind.u32.wrap (numAt c.v (0 : Int) (Int.toNat (4 : Int)))) (IntKind.u32.wrap (numAt c.v ((0 : Int) + (4 : Int)) (Int.toNat (4 : Int)))) (IntKind.u16.wrap (numAt c.v ((0 : Int) + (4 : Int) + (4 : Int)) (Int.toNat (2 : Int)))) (IntKind.u16.wrap (numAt c.v ((0 : Int) + (4 : Int) + (4 : Int) + (2 : Int)) (Int.toNat (2 : Int)))) (IntKind.u32.wrap (numAt c.v ((0 : Int) + (4 : Int) + (4 : Int) + (2 : Int) + (2 : Int)) (Int.toNat (4 : Int)))) []) (decide (c.t = (2 : Int)))).fst.v) (ChR.mk c.t c.f c.v)) ((0 : Int) = (toHel (ChR.mk c.t c.f c.v)).fst.tag ∧
  (0 : Int) = (toHel (ChR.mk c.t c.f c.v)).fst.win ∧ (0 : Int) = (toHel (ChR.mk c.t c.f c.v)).fst.out ∧ (0 : Int) = (toHel (ChR.mk c.t c.f c.v)).fst.inn ∧
  (0 : Int) = (toHel (ChR.mk c.t c.f c.v)).fst.tsn ∧ (toHel (ChR.mk c.t c.f c.v)).fst.cookie = [] ∧ (2 : Int) = (toHel (ChR.mk c.t c.f c.v)).snd ∧ (true && true) = true) (IntKind.u32.wrap (numAt c.v (0 : Int) (Int.toNat (4 : Int))) = (toHel (ChR.mk c.t c.f c.v)).fst.tag ∧
  IntKind.u32.wrap (numAt c.v ((0 : Int) + (4 : Int)) (Int.toNat (4 : Int))) = (toHel (ChR.mk c.t c.f c.v)).fst.win ∧ IntKind.u16.wrap (numAt c.v ((0 : Int) + (4 : Int) + (4 : Int)) (Int.toNat (2 : Int))) = (toHel (ChR.mk c.t c.f c.v)).fst.out ∧
  IntKind.u16.wrap (numAt c.v ((0 : Int) + (4 : Int) + (4 : Int) + (2 : Int)) (Int.toNat (2 : Int))) = (toHel (ChR.mk c.t c.f c.v)).fst.inn ∧ IntKind.u32.wrap (numAt c.v ((0 : Int) + (4 : Int) + (4 : Int) + (2 : Int) + (2 : Int)) (Int.toNat (4 : Int))) = (toHel (ChR.mk c.t c.f c.v)).fst.tsn ∧
  (toHel (ChR.mk c.t c.f c.v)).fst.cookie = [] ∧ (0 : Int) = (toHel (ChR.mk c.t c.f c.v)).snd ∧ (true && true) = true)))) (True ∧ (∃ (h : HelR), ∃ (b : Bool), [O.agg [O.d (D.v (Value.int IntKind.u32 (IntKind.u32.wrap (numAt c.v (0 : Int) (Int.toNat (4 : Int)))))), O.d (D.v (Value.int IntKind.u32 (IntKind.u32.wrap (numAt c.v ((0 : Int) + (4 : Int)) (Int.toNat (4 : Int)))))), O.d (D.v (Value.int IntKind.u16 (IntKind.u16.wrap (numAt c.v ((0 : Int) + (4 : Int) + (4 : Int)) (Int.toNat (2 : Int)))))), O.d (D.v (Value.int IntKind.u16 (IntKind.u16.wrap (numAt c.v ((0 : Int) + (4 : Int) + (4 : Int) + (2 : Int)) (Int.toNat (2 : Int)))))), O.d (D.v (Value.int IntKind.u32 (IntKind.u32.wrap (numAt c.v ((0 : Int) + (4 : Int) + (4 : Int) + (2 : Int) + (2 : Int)) (Int.toNat (4 : Int)))))), O.d (D.ints IntKind.u8 [])], O.d (D.v (Value.bool (decide (c.t = (2 : Int)))))] = [O.agg [O.d (D.v (Value.int IntKind.u32 h.tag)), O.d (D.v (Value.int IntKind.u32 h.win)), O.d (D.v (Value.int IntKind.u16 h.out)), O.d (D.v (Value.int IntKind.u16 h.inn)), O.d (D.v (Value.int IntKind.u32 h.tsn)), O.d (D.ints IntKind.u8 h.cookie)], O.d (D.v (Value.bool b))] ∧
  okHel h) ∧ True ∧ sw (!decide ((fromHel (HelR.mk (IntKind.u32.wrap (numAt c.v (0 : Int) (Int.toNat (4 : Int)))) (IntKind.u32.wrap (numAt c.v ((0 : Int) + (4 : Int)) (Int.toNat (4 : Int)))) (IntKind.u16.wrap (numAt c.v ((0 : Int) + (4 : Int) + (4 : Int)) (Int.toNat (2 : Int)))) (IntKind.u16.wrap (numAt c.v ((0 : Int) + (4 : Int) + (4 : Int) + (2 : Int)) (Int.toNat (2 : Int)))) (IntKind.u32.wrap (numAt c.v ((0 : Int) + (4 : Int) + (4 : Int) + (2 : Int) + (2 : Int)) (Int.toNat (4 : Int)))) []) (decide (c.t = (2 : Int)))).snd = (0 : Int))) ((0 : Int) = (toHel (ChR.mk c.t c.f c.v)).fst.tag ∧
  (0 : Int) = (toHel (ChR.mk c.t c.f c.v)).fst.win ∧ (0 : Int) = (toHel (ChR.mk c.t c.f c.v)).fst.out ∧ (0 : Int) = (toHel (ChR.mk c.t c.f c.v)).fst.inn ∧
  (0 : Int) = (toHel (ChR.mk c.t c.f c.v)).fst.tsn ∧ (toHel (ChR.mk c.t c.f c.v)).fst.cookie = [] ∧ (2 : Int) = (toHel (ChR.mk c.t c.f c.v)).snd ∧ (true && true) = true) ((∃ (c_1 : ChR), ∃ (d : ChR), [O.agg [O.d (D.v (Value.int IntKind.u8 (fromHel (HelR.mk (IntKind.u32.wrap (numAt c.v (0 : Int) (Int.toNat (4 : Int)))) (IntKind.u32.wrap (numAt c.v ((0 : Int) + (4 : Int)) (Int.toNat (4 : Int)))) (IntKind.u16.wrap (numAt c.v ((0 : Int) + (4 : Int) + (4 : Int)) (Int.toNat (2 : Int)))) (IntKind.u16.wrap (numAt c.v ((0 : Int) + (4 : Int) + (4 : Int) + (2 : Int)) (Int.toNat (2 : Int)))) (IntKind.u32.wrap (numAt c.v ((0 : Int) + (4 : Int) + (4 : Int) + (2 : Int) + (2 : Int)) (Int.toNat (4 : Int)))) []) (decide (c.t = (2 : Int)))).fst.t)), O.d (D.v (Value.int IntKind.u8 (fromHel (HelR.mk (IntKind.u32.wrap (numAt c.v (0 : Int) (Int.toNat (4 : Int)))) (IntKind.u32.wrap (numAt c.v ((0 : Int) + (4 : Int)) (Int.toNat (4 : Int)))) (IntKind.u16.wrap (numAt c.v ((0 : Int) + (4 : Int) + (4 : Int)) (Int.toNat (2 : Int)))) (IntKind.u16.wrap (numAt c.v ((0 : Int) + (4 : Int) + (4 : Int) + (2 : Int)) (Int.toNat (2 : Int)))) (IntKind.u32.wrap (numAt c.v ((0 : Int) + (4 : Int) + (4 : Int) + (2 : Int) + (2 : Int)) (Int.toNat (4 : Int)))) []) (decide (c.t = (2 : Int)))).fst.f)), O.d (D.ints IntKind.u8 (fromHel (HelR.mk (IntKind.u32.wrap (numAt c.v (0 : Int) (Int.toNat (4 : Int)))) (IntKind.u32.wrap (numAt c.v ((0 : Int) + (4 : Int)) (Int.toNat (4 : Int)))) (IntKind.u16.wrap (numAt c.v ((0 : Int) + (4 : Int) + (4 : Int)) (Int.toNat (2 : Int)))) (IntKind.u16.wrap (numAt c.v ((0 : Int) + (4 : Int) + (4 : Int) + (2 : Int)) (Int.toNat (2 : Int)))) (IntKind.u32.wrap (numAt c.v ((0 : Int) + (4 : Int) + (4 : Int) + (2 : Int) + (2 : Int)) (Int.toNat (4 : Int)))) []) (decide (c.t = (2 : Int)))).fst.v)], O.agg [O.d (D.v (Value.int IntKind.u8 c.t)), O.d (D.v (Value.int IntKind.u8 c.f)), O.d (D.ints IntKind.u8 c.v)]] = [O.agg [O.d (D.v (Value.int IntKind.u8 c_1.t)), O.d (D.v (Value.int IntKind.u8 c_1.f)), O.d (D.ints IntKind.u8 c_1.v)], O.agg [O.d (D.v (Value.int IntKind.u8 d.t)), O.d (D.v (Value.int IntKind.u8 d.f)), O.d (D.ints IntKind.u8 d.v)]] ∧
  okCh c_1) ∧ sw (!sameB (ChR.mk (fromHel (HelR.mk (IntKind.u32.wrap (numAt c.v (0 : Int) (Int.toNat (4 : Int)))) (IntKind.u32.wrap (numAt c.v ((0 : Int) + (4 : Int)) (Int.toNat (4 : Int)))) (IntKind.u16.wrap (numAt c.v ((0 : Int) + (4 : Int) + (4 : Int)) (Int.toNat (2 : Int)))) (IntKind.u16.wrap (numAt c.v ((0 : Int) + (4 : Int) + (4 : Int) + (2 : Int)) (Int.toNat (2 : Int)))) (IntKind.u32.wrap (numAt c.v ((0 : Int) + (4 : Int) + (4 : Int) + (2 : Int) + (2 : Int)) (Int.toNat (4 : Int)))) []) (decide (c.t = (2 : Int)))).fst.t (fromHel (HelR.mk (IntKind.u32.wrap (numAt c.v (0 : Int) (Int.toNat (4 : Int)))) (IntKind.u32.wrap (numAt c.v ((0 : Int) + (4 : Int)) (Int.toNat (4 : Int)))) (IntKind.u16.wrap (numAt c.v ((0 : Int) + (4 : Int) + (4 : Int)) (Int.toNat (2 : Int)))) (IntKind.u16.wrap (numAt c.v ((0 : Int) + (4 : Int) + (4 : Int) + (2 : Int)) (Int.toNat (2 : Int)))) (IntKind.u32.wrap (numAt c.v ((0 : Int) + (4 : Int) + (4 : Int) + (2 : Int) + (2 : Int)) (Int.toNat (4 : Int)))) []) (decide (c.t = (2 : Int)))).fst.f (fromHel (HelR.mk (IntKind.u32.wrap (numAt c.v (0 : Int) (Int.toNat (4 : Int)))) (IntKind.u32.wrap (numAt c.v ((0 : Int) + (4 : Int)) (Int.toNat (4 : Int)))) (IntKind.u16.wrap (numAt c.v ((0 : Int) + (4 : Int) + (4 : Int)) (Int.toNat (2 : Int)))) (IntKind.u16.wrap (numAt c.v ((0 : Int) + (4 : Int) + (4 : Int) + (2 : Int)) (Int.toNat (2 : Int)))) (IntKind.u32.wrap (numAt c.v ((0 : Int) + (4 : Int) + (4 : Int) + (2 : Int) + (2 : Int)) (Int.toNat (4 : Int)))) []) (decide (c.t = (2 : Int)))).fst.v) (ChR.mk c.t c.f c.v)) ((0 : Int) = (toHel (ChR.mk c.t c.f c.v)).fst.tag ∧
  (0 : Int) = (toHel (ChR.mk c.t c.f c.v)).fst.win ∧ (0 : Int) = (toHel (ChR.mk c.t c.f c.v)).fst.out ∧ (0 : Int) = (toHel (ChR.mk c.t c.f c.v)).fst.inn ∧
  (0 : Int) = (toHel (ChR.mk c.t c.f c.v)).fst.tsn ∧ (toHel (ChR.mk c.t c.f c.v)).fst.cookie = [] ∧ (2 : Int) = (toHel (ChR.mk c.t c.f c.v)).snd ∧ (true && true) = true) (IntKind.u32.wrap (numAt c.v (0 : Int) (Int.toNat (4 : Int))) = (toHel (ChR.mk c.t c.f c.v)).fst.tag ∧
  IntKind.u32.wrap (numAt c.v ((0 : Int) + (4 : Int)) (Int.toNat (4 : Int))) = (toHel (ChR.mk c.t c.f c.v)).fst.win ∧ IntKind.u16.wrap (numAt c.v ((0 : Int) + (4 : Int) + (4 : Int)) (Int.toNat (2 : Int))) = (toHel (ChR.mk c.t c.f c.v)).fst.out ∧
  IntKind.u16.wrap (numAt c.v ((0 : Int) + (4 : Int) + (4 : Int) + (2 : Int)) (Int.toNat (2 : Int))) = (toHel (ChR.mk c.t c.f c.v)).fst.inn ∧ IntKind.u32.wrap (numAt c.v ((0 : Int) + (4 : Int) + (4 : Int) + (2 : Int) + (2 : Int)) (Int.toNat (4 : Int))) = (toHel (ChR.mk c.t c.f c.v)).fst.tsn ∧
  (toHel (ChR.mk c.t c.f c.v)).fst.cookie = [] ∧ (0 : Int) = (toHel (ChR.mk c.t c.f c.v)).snd ∧ (true && true) = true))) := by
  simp only [↓sw_iff, ↓Bool.and_eq_true, ↓decide_eq_true_eq, ↓decide_eq_false_iff_not, ↓Bool.not_eq_true', ↓Bool.not_eq_false', true_and, and_true, Bool.false_or, toNat2, toNat4, ch_eta, Int.reduceAdd]
  intro c h1 h2
  obtain ⟨w1, w2, w3, w4, w5, w6, w7⟩ := num_w h1
  simp only [w1, w2, w3, w4, w5, w6, hel1_eta, hel1_nil]
  have hh := helOf_ok h1 h2
  have n18 := num_rng h1 18 (k := 2)
  have p2 : (256 : Int) ^ 2 = 65536 := rfl
  rw [p2] at n18
  have sml : ∀ H b, okCh (fromHel H b).1 := fun H b => by have := fromHel_len H b; unfold okCh sm; omega
  refine ⟨⟨c.v, 0, _, 4, rfl, h2, h1, by decide, by decide, by decide, by decide⟩, ⟨c.v, 4, _, 4, rfl, h2, h1, by decide, by decide, by decide, by decide⟩, ⟨c.v, 8, _, 2, rfl, h2, h1, by decide, by decide, by decide, by decide⟩, ⟨c.v, 10, _, 2, rfl, h2, h1, by decide, by decide, by decide, by decide⟩, ⟨c.v, 12, _, 4, rfl, h2, h1, by decide, by decide, by decide, by decide⟩,
    fun t2 => ⟨⟨c.v, 16, _, 2, rfl, h2, h1, by decide, by decide, by decide, by decide⟩, fun t7 => ⟨⟨c.v, 18, _, 2, rfl, h2, h1, by decide, by decide, by decide, by decide⟩, ⟨c.v, 20, _, rfl, h2, by unfold okI; omega, by unfold okI; omega⟩, ?_⟩, fun t7 => ?_⟩, fun t2 => ?_⟩
  · have ho : helOf c = hel1 c.v (partF c.v 20 (numAt c.v 18 2 - 4)).1 := by unfold helOf; rw [if_pos ⟨t2, t7⟩]; rfl
    rw [ho] at hh
    exact ⟨⟨hel1 c.v (partF c.v 20 (numAt c.v 18 2 - 4)).1, _, rfl, hh⟩, fun e => err_leaf (toHel_e1 ho e), fun e => ⟨⟨(fromHel (hel1 c.v (partF c.v 20 (numAt c.v 18 2 - 4)).1) (decide (c.t = 2))).1, c, rfl, sml _ _⟩, fun e2 => err_leaf (toHel_e2 ho e2), fun e2 => ok_leaf (toHel_e3 ho e e2)⟩⟩
  · have ho : helOf c = hel0 c.v := by unfold helOf; rw [if_neg (fun x => t7 x.2)]
    rw [ho] at hh
    exact ⟨⟨hel0 c.v, _, rfl, hh⟩, fun e => err_leaf (toHel_e1 ho e), fun e => ⟨⟨(fromHel (hel0 c.v) (decide (c.t = 2))).1, c, rfl, sml _ _⟩, fun e2 => err_leaf (toHel_e2 ho e2), fun e2 => ok_leaf0 (toHel_e3 ho e e2)⟩⟩
  · have ho : helOf c = hel0 c.v := by unfold helOf; rw [if_neg (fun x => t2 x.1)]
    rw [ho] at hh
    exact ⟨⟨hel0 c.v, _, rfl, hh⟩, fun e => err_leaf (toHel_e1 ho e), fun e => ⟨⟨(fromHel (hel0 c.v) (decide (c.t = 2))).1, c, rfl, sml _ _⟩, fun e2 => err_leaf (toHel_e2 ho e2), fun e2 => ok_leaf0 (toHel_e3 ho e e2)⟩⟩
set_option maxRecDepth 100000 in
theorem ok31 : FnIs Try.prog 31 toHelC := by
  refine fnIs (C := (ctrs c15)) (by kernel_rfl) c15_ok Try.func31 (code := code31) (by kernel_rfl) (by kernel_rfl) ?_
  rintro a ⟨c, rfl, h1, h2⟩
  exact ⟨anns [] [3, 7], kcast (vc31 c h1 h2) (by kernel_rfl)⟩

noncomputable def code33 : Code := match Try.f33.body with | some c => c | none => .skip
set_option maxHeartbeats 4000000 in
theorem vc33 : ∀ (c : ChR), okB c.v → sm c.v.length → True ∧ sw (!decide (c.t = (1 : Int))) (True ∧ sw (!decide (c.t = (2 : Int))) ((0 : Int) = (toHel (ChR.mk c.t c.f c.v)).fst.tag ∧
  (0 : Int) = (toHel (ChR.mk c.t c.f c.v)).fst.win ∧ (0 : Int) = (toHel (ChR.mk c.t c.f c.v)).fst.out ∧ (0 : Int) = (toHel (ChR.mk c.t c.f c.v)).fst.inn ∧
  (0 : Int) = (toHel (ChR.mk c.t c.f c.v)).fst.tsn ∧ (toHel (ChR.mk c.t c.f c.v)).fst.cookie = [] ∧ (2 : Int) = (toHel (ChR.mk c.t c.f c.v)).snd ∧ (true && true) = true) (True ∧
  sw (decide ((↑c.v.length : Int) < (16 : Int))) ((0 : Int) = (toHel (ChR.mk c.t c.f c.v)).fst.tag ∧ (0 : Int) = (toHel (ChR.mk c.t c.f c.v)).fst.win ∧ (0 : Int) = (toHel (ChR.mk c.t c.f c.v)).fst.out ∧
  (0 : Int) = (toHel (ChR.mk c.t c.f c.v)).fst.inn ∧ (0 : Int) = (toHel (ChR.mk c.t c.f c.v)).fst.tsn ∧ (toHel (ChR.mk c.t c.f c.v)).fst.cookie = [] ∧ (2 : Int) = (toHel (ChR.mk c.t c.f c.v)).snd ∧
  (true && true) = true) ((∃ (b : List Int), ∃ (i : Int), ∃ (k : Nat), [O.d (D.ints IntKind.u8 c.v), O.d (D.v (Value.int IntKind.i64 (0 : Int))), O.d (D.v (Value.int IntKind.i64 (4 : Int)))] = [O.d (D.ints IntKind.u8 b), O.d (D.v (Value.int IntKind.i64 i)), O.d (D.v (Value.int IntKind.i64 (↑k : Int)))] ∧
  sm b.length ∧ okB b ∧ okI i ∧ (1 : Nat) ≤ k ∧ k ≤ (7 : Nat)) ∧ (∃ (b : List Int), ∃ (i : Int), ∃ (k : Nat), [O.d (D.ints IntKind.u8 c.v), O.d (D.v (Value.int IntKind.i64 (4 : Int))), O.d (D.v (Value.int IntKind.i64 (4 : Int)))] = [O.d (D.ints IntKind.u8 b), O.d (D.v (Value.int IntKind.i64 i)), O.d (D.v (Value.int IntKind.i64 (↑k : Int)))] ∧
  sm b.length ∧ okB b ∧ okI i ∧ (1 : Nat) ≤ k ∧ k ≤ (7 : Nat)) ∧ (∃ (b : List Int), ∃ (i : Int), ∃ (k : Nat), [O.d (D.ints IntKind.u8 c.v), O.d (D.v (Value.int IntKind.i64 (8 : Int))), O.d (D.v (Value.int IntKind.i64 (2 : Int)))] = [O.d (D.ints IntKind.u8 b), O.d (D.v (Value.int IntKind.i64 i)), O.d (D.v (Value.int IntKind.i64 (↑k : Int)))] ∧
  sm b.length ∧ okB b ∧ okI i ∧ (1 : Nat) ≤ k ∧ k ≤ (7 : Nat)) ∧ (∃ (b : List Int), ∃ (i : Int), ∃ (k : Nat), [O.d (D.ints IntKind.u8 c.v), O.d (D.v (Value.int IntKind.i64 (10 : Int))), O.d (D.v (Value.int IntKind.i64 (2 : Int)))] = [O.d (D.ints IntKind.u8 b), O.d (D.v (Value.int IntKind.i64 i)), O.d (D.v (Value.int IntKind.i64 (↑k : Int)))] ∧
  sm b.length ∧ okB b ∧ okI i ∧ (1 : Nat) ≤ k ∧ k ≤ (7 : Nat)) ∧ (∃ (b : List Int), ∃ (i : Int), ∃ (k : Nat), [O.d (D.ints IntKind.u8 c.v), O.d (D.v (Value.int IntKind.i64 (12 : Int))), O.d (D.v (Value.int IntKind.i64 (4 : Int)))] = [O.d (D.ints IntKind.u8 b), O.d (D.v (Value.int IntKind.i64 i)), O.d (D.v (Value.int IntKind.i64 (↑k : Int)))] ∧
  sm b.length ∧ okB b ∧ okI i ∧ (1 : Nat) ≤ k ∧ k ≤ (7 : Nat)) ∧ True ∧ sw (decide (c.t = (2 : Int))) (True ∧ sw (decide ((↑c.v.length : Int) < (20 : Int))) ((0 : Int) = (toHel (ChR.mk c.t c.f c.v)).fst.tag ∧
  (0 : Int) = (toHel (ChR.mk c.t c.f c.v)).fst.win ∧ (0 : Int) = (toHel (ChR.mk c.t c.f c.v)).fst.out ∧ (0 : Int) = (toHel (ChR.mk c.t c.f c.v)).fst.inn ∧
  (0 : Int) = (toHel (ChR.mk c.t c.f c.v)).fst.tsn ∧ (toHel (ChR.mk c.t c.f c.v)).fst.cookie = [] ∧ (2 : Int) = (toHel (ChR.mk c.t c.f c.v)).snd ∧ (true && true) = true) ((∃ (b : List Int), ∃ (i : Int), ∃ (k : Nat), [O.d (D.ints IntKind.u8 c.v), O.d (D.v (Value.int IntKind.i64 (18 : Int))), O.d (D.v (Value.int IntKind.i64 (2 : Int)))] = [O.d (D.ints IntKind.u8 b), O.d (D.v (Value.int IntKind.i64 i)), O.d (D.v (Value.int IntKind.i64 (↑k : Int)))] ∧
  sm b.length ∧ okB b ∧ okI i ∧ (1 : Nat) ≤ k ∧ k ≤ (7 : Nat)) ∧ True ∧ True ∧ sw (decide (IntKind.i64.wrap (valF (partF c.v (18 : Int) (↑(Int.toNat (2 : Int)) : Int)).fst - (4 : Int)) < (0 : Int))) ((0 : Int) = (toHel (ChR.mk c.t c.f c.v)).fst.tag ∧
  (0 : Int) = (toHel (ChR.mk c.t c.f c.v)).fst.win ∧ (0 : Int) = (toHel (ChR.mk c.t c.f c.v)).fst.out ∧ (0 : Int) = (toHel (ChR.mk c.t c.f c.v)).fst.inn ∧
  (0 : Int) = (toHel (ChR.mk c.t c.f c.v)).fst.tsn ∧ (toHel (ChR.mk c.t c.f c.v)).fst.cookie = [] ∧ (2 : Int) = (toHel (ChR.mk c.t c.f c.v)).snd ∧ (true && true) = true) (True ∧
  True ∧ sw (decide (IntKind.i64.wrap ((↑c.v.length : Int) - (20 : Int)) < IntKind.i64.wrap (valF (partF c.v (18 : Int) (↑(Int.toNat (2 : Int)) : Int)).fst - (4 : Int)))) ((0 : Int) = (toHel (ChR.mk c.t c.f c.v)).fst.tag ∧
  (0 : Int) = (toHel (ChR.mk c.t c.f c.v)).fst.win ∧ (0 : Int) = (toHel (ChR.mk c.t c.f c.v)).fst.out ∧ (0 : Int) = (toHel (ChR.mk c.t c.f c.v)).fst.inn ∧
  (0 : Int) = (toHel (ChR.mk c.t c.f c.v)).fst.tsn ∧ (toHel (ChR.mk c.t c.f c.v)).fst.cookie = [] ∧ (2 : Int) = (toHel (ChR.mk c.t c.f c.v)).snd ∧ (true && true) = true) (True ∧
  ((0 : Int) ≤ (20 : Int) ∧ (20 : Int) ≤ IntKind.i64.wrap ((20 : Int) + IntKind.i64.wrap (valF (partF c.v (18 : Int) (↑(Int.toNat (2 : Int)) : Int)).fst - (4 : Int))) ∧
  IntKind.i64.wrap ((20 : Int) + IntKind.i64.wrap (valF (partF c.v (18 : Int) (↑(Int.toNat (2 : Int)) : Int)).fst - (4 : Int))) ≤ (↑c.v.length : Int)) ∧ True ∧
  ((0 : Nat) + (List.take ((IntKind.i64.wrap ((20 : Int) + IntKind.i64.wrap (valF (partF c.v (18 : Int) (↑(Int.toNat (2 : Int)) : Int)).fst - (4 : Int)))).toNat - Int.toNat (20 : Int)) (List.drop (Int.toNat (20 : Int)) c.v)).length) * Try.prog.types[(5 : Nat)].bytes ≤ (140737488355328 : Nat) ∧
  True ∧ (∃ (h : HelR), ∃ (b : Bool), [O.agg [O.d (D.v (Value.int IntKind.u32 (IntKind.u32.wrap (valF (partF c.v (0 : Int) (↑(Int.toNat (4 : Int)) : Int)).fst)))), O.d (D.v (Value.int IntKind.u32 (IntKind.u32.wrap (valF (partF c.v (4 : Int) (↑(Int.toNat (4 : Int)) : Int)).fst)))), O.d (D.v (Value.int IntKind.u16 (IntKind.u16.wrap (valF (partF c.v (8 : Int) (↑(Int.toNat (2 : Int)) : Int)).fst)))), O.d (D.v (Value.int IntKind.u16 (IntKind.u16.wrap (valF (partF c.v (10 : Int) (↑(Int.toNat (2 : Int)) : Int)).fst)))), O.d (D.v (Value.int IntKind.u32 (IntKind.u32.wrap (valF (partF c.v (12 : Int) (↑(Int.toNat (4 : Int)) : Int)).fst)))), O.d (D.ints IntKind.u8 ([] ++ List.take ((IntKind.i64.wrap ((20 : Int) + IntKind.i64.wrap (valF (partF c.v (18 : Int) (↑(Int.toNat (2 : Int)) : Int)).fst - (4 : Int)))).toNat - Int.toNat (20 : Int)) (List.drop (Int.toNat (20 : Int)) c.v)))], O.d (D.v (Value.bool (decide (c.t = (2 : Int)))))] = [O.agg [O.d (D.v (Value.int IntKind.u32 h.tag)), O.d (D.v (Value.int IntKind.u32 h.win)), O.d (D.v (Value.int IntKind.u16 h.out)), O.d (D.v (Value.int IntKind.u16 h.inn)), O.d (D.v (Value.int IntKind.u32 h.tsn)), O.d (D.ints IntKind.u8 h.cookie)], O.d (D.v (Value.bool b))] ∧
  okHel h) ∧ True ∧ sw (!decide ((fromHel (HelR.mk (IntKind.u32.wrap (valF (partF c.v (0 : Int) (↑(Int.toNat (4 : Int)) : Int)).fst)) (IntKind.u32.wrap (valF (partF c.v (4 : Int) (↑(Int.toNat (4 : Int)) : Int)).fst)) (IntKind.u16.wrap (valF (partF c.v (8 : Int) (↑(Int.toNat (2 : Int)) : Int)).fst)) (IntKind.u16.wrap (valF (partF c.v (10 : Int) (↑(Int.toNat (2 : Int)) : Int)).fst)) (IntKind.u32.wrap (valF (partF c.v (12 : Int) (↑(Int.toNat (4 : Int)) : Int)).fst)) ([] ++ List.take ((IntKind.i64.wrap ((20 : Int) + IntKind.i64.wrap (valF (partF c.v (18 : Int) (↑(Int.toNat (2 : Int)) : Int)).fst - (4 : Int)))).toNat - Int.toNat (20 : Int)) (List.drop (Int.toNat (20 : Int)) c.v))) (decide (c.t = (2 : Int)))).snd = (0 : Int))) ((0 : Int) = (toHel (ChR.mk c.t c.f c.v)).fst.tag ∧
  (0 : Int) = (toHel (ChR.mk c.t c.f c.v)).fst.win ∧ (0 : Int) = (toHel (ChR.mk c.t c.f c.v)).fst.out ∧ (0 : Int) = (toHel (ChR.mk c.t c.f c.v)).fst.inn ∧
  (0 : Int) = (toHel (ChR.mk c.t c.f c.v)).fst.tsn ∧ (toHel (ChR.mk c.t c.f c.v)).fst.cookie = [] ∧ (2 : Int) = (toHel (ChR.mk c.t c.f c.v)).snd ∧ (true && true) = true) ((∃ (c_1 : ChR), ∃ (d : ChR), [O.agg [O.d (D.v (Value.int IntKind.u8 (fromHel (HelR.mk (IntKind.u32.wrap (valF (partF c.v (0 : Int) (↑(Int.toNat (4 : Int)) : Int)).fst)) (IntKind.u32.wrap (valF (partF c.v (4 : Int) (↑(Int.toNat (4 : Int)) : Int)).fst)) (IntKind.u16.wrap (valF (partF c.v (8 : Int) (↑(Int.toNat (2 : Int)) : Int)).fst)) (IntKind.u16.wrap (valF (partF c.v (10 : Int) (↑(Int.toNat (2 : Int)) : Int)).fst)) (IntKind.u32.wrap (valF (partF c.v (12 : Int) (↑(Int.toNat (4 : Int)) : Int)).fst)) ([] ++ List.take ((IntKind.i64.wrap ((20 : Int) + IntKind.i64.wrap (valF (partF c.v (18 : Int) (↑(Int.toNat (2 : Int)) : Int)).fst - (4 : Int)))).toNat - Int.toNat (20 : Int)) (List.drop (Int.toNat (20 : Int)) c.v))) (decide (c.t = (2 : Int)))).fst.t)), O.d (D.v (Value.int IntKind.u8 (fromHel (HelR.mk (IntKind.u32.wrap (valF (partF c.v (0 : Int) (↑(Int.toNat (4 : Int)) : Int)).fst)) (IntKind.u32.wrap (valF (partF c.v (4 : Int) (↑(Int.toNat (4 : Int)) : Int)).fst)) (IntKind.u16.wrap (valF (partF c.v (8 : Int) (↑(Int.toNat (2 : Int)) : Int)).fst)) (IntKind.u16.wrap (valF (partF c.v (10 : Int) (↑(Int.toNat (2 : Int)) : Int)).fst)) (IntKind.u32.wrap (valF (partF c.v (12 : Int) (↑(Int.toNat (4 : Int)) : Int)).fst)) ([] ++ List.take ((IntKind.i64.wrap ((20 : Int) + IntKind.i64.wrap (valF (partF c.v (18 : Int) (↑(Int.toNat (2 : Int)) : Int)).fst - (4 : Int)))).toNat - Int.toNat (20 : Int)) (List.drop (Int.toNat (20 : Int)) c.v))) (decide (c.t = (2 : Int)))).fst.f)), O.d (D.ints IntKind.u8 (fromHel (HelR.mk (IntKind.u32.wrap (valF (partF c.v (0 : Int) (↑(Int.toNat (4 : Int)) : Int)).fst)) (IntKind.u32.wrap (valF (partF c.v (4 : Int) (↑(Int.toNat (4 : Int)) : Int)).fst)) (IntKind.u16.wrap (valF (partF c.v (8 : Int) (↑(Int.toNat (2 : Int)) : Int)).fst)) (IntKind.u16.wrap (valF (partF c.v (10 : Int) (↑(Int.toNat (2 : Int)) : Int)).fst)) (IntKind.u32.wrap (valF (partF c.v (12 : Int) (↑(Int.toNat (4 : Int)) : Int)).fst)) ([] ++ List.take ((IntKind.i64.wrap ((20 : Int) + IntKind.i64.wrap (valF (partF c.v (18 : Int) (↑(Int.toNat (2 : Int)) : Int)).fst - (4 : Int)))).toNat - Int.toNat (20 : Int)) (List.drop (Int.toNat (20 : Int)) c.v))) (decide (c.t = (2 : Int)))).fst.v)], O.agg [O.d (D.v (Value.int IntKind.u8 c.t)), O.d (D.v (Value.int IntKind.u8 c.f)), O.d (D.ints IntKind.u8 c.v)]] = [O.agg [O.d (D.v (Value.int IntKind.u8 c_1.t)), O.d (D.v (Value.int IntKind.u8 c_1.f)), O.d (D.ints IntKind.u8 c_1.v)], O.agg [O.d (D.v (Value.int IntKind.u8 d.t)), O.d (D.v (Value.int IntKind.u8 d.f)), O.d (D.ints IntKind.u8 d.v)]]) ∧
  sw (!sameCh (ChR.mk (fromHel (HelR.mk (IntKind.u32.wrap (valF (partF c.v (0 : Int) (↑(Int.toNat (4 : Int)) : Int)).fst)) (IntKind.u32.wrap (valF (partF c.v (4 : Int) (↑(Int.toNat (4 : Int)) : Int)).fst)) (IntKind.u16.wrap (valF (partF c.v (8 : Int) (↑(Int.toNat (2 : Int)) : Int)).fst)) (IntKind.u16.wrap (valF (partF c.v (10 : Int) (↑(Int.toNat (2 : Int)) : Int)).fst)) (IntKind.u32.wrap (valF (partF c.v (12 : Int) (↑(Int.toNat (4 : Int)) : Int)).fst)) ([] ++ List.take ((IntKind.i64.wrap ((20 : Int) + IntKind.i64.wrap (valF (partF c.v (18 : Int) (↑(Int.toNat (2 : Int)) : Int)).fst - (4 : Int)))).toNat - Int.toNat (20 : Int)) (List.drop (Int.toNat (20 : Int)) c.v))) (decide (c.t = (2 : Int)))).fst.t (fromHel (HelR.mk (IntKind.u32.wrap (valF (partF c.v (0 : Int) (↑(Int.toNat (4 : Int)) : Int)).fst)) (IntKind.u32.wrap (valF (partF c.v (4 : Int) (↑(Int.toNat (4 : Int)) : Int)).fst)) (IntKind.u16.wrap (valF (partF c.v (8 : Int) (↑(Int.toNat (2 : Int)) : Int)).fst)) (IntKind.u16.wrap (valF (partF c.v (10 : Int) (↑(Int.toNat (2 : Int)) : Int)).fst)) (IntKind.u32.wrap (valF (partF c.v (12 : Int) (↑(Int.toNat (4 : Int)) : Int)).fst)) ([] ++ List.take ((IntKind.i64.wrap ((20 : Int) + IntKind.i64.wrap (valF (partF c.v (18 : Int) (↑(Int.toNat (2 : Int)) : Int)).fst - (4 : Int)))).toNat - Int.toNat (20 : Int)) (List.drop (Int.toNat (20 : Int)) c.v))) (decide (c.t = (2 : Int)))).fst.f (fromHel (HelR.mk (IntKind.u32.wrap (valF (partF c.v (0 : Int) (↑(Int.toNat (4 : Int)) : Int)).fst)) (IntKind.u32.wrap (valF (partF c.v (4 : Int) (↑(Int.toNat (4 : Int)) : Int)).fst)) (IntKind.u16.wrap (valF (partF c.v (8 : Int) (↑(Int.toNat (2 : Int)) : Int)).fst)) (IntKind.u16.wrap (valF (partF c.v (10 : Int) (↑(Int.toNat (2 : Int)) : Int)).fst)) (IntKind.u32.wrap (valF (partF c.v (12 : Int) (↑(Int.toNat (4 : Int)) : Int)).fst)) ([] ++ List.take ((IntKind.i64.wrap ((20 : Int) + IntKind.i64.wrap (valF (partF c.v (18 : Int) (↑(Int.toNat (2 : Int)) : Int)).fst - (4 : Int)))).toNat - Int.toNat (20 : Int)) (List.drop (Int.toNat (20 : Int)) c.v))) (decide (c.t = (2 : Int)))).fst.v) (ChR.mk c.t c.f c.v)) ((0 : Int) = (toHel (ChR.mk c.t c.f c.v)).fst.tag ∧
  (0 : Int) = (toHel (ChR.mk c.t c.f c.v)).fst.win ∧ (0 : Int) = (toHel (ChR.mk c.t c.f c.v)).fst.out ∧ (0 : Int) = (toHel (ChR.mk c.t c.f c.v)).fst.inn ∧
  (0 : Int) = (toHel (ChR.mk c.t c.f c.v)).fst.tsn ∧ (toHel (ChR.mk c.t c.f c.v)).fst.cookie = [] ∧ (2 : Int) = (toHel (ChR.mk c.t c.f c.v)).snd ∧ (true && true) = true) (IntKind.u32.wrap (valF (partF c.v (0 : Int) (↑(Int.toNat (4 : Int)) : Int)).fst) = (toHel (ChR.mk c.t c.f c.v)).fst.tag ∧
  IntKind.u32.wrap (valF (partF c.v (4 : Int) (↑(Int.toNat (4 : Int)) : Int)).fst) = (toHel (ChR.mk c.t c.f c.v)).fst.win ∧ IntKind.u16.wrap (valF (partF c.v (8 : Int) (↑(Int.toNat (2 : Int)) : Int)).fst) = (toHel (ChR.mk c.t c.f c.v)).fst.out ∧
  IntKind.u16.wrap (valF (partF c.v (10 : Int) (↑(Int.toNat (2 : Int)) : Int)).fst) = (toHel (ChR.mk c.t c.f c.v)).fst.inn ∧ IntKind.u32.wrap (valF (partF c.v (12 : Int) (↑(Int.toNat (4 : Int)) : Int)).fst) = (toHel (ChR.mk c.t c.f c.v)).fst.tsn ∧
  [] ++ List.take ((IntKind.i64.wrap ((20 : Int) + IntKind.i64.wrap (valF (partF c.v (18 : Int) (↑(Int.toNat (2 : Int)) : Int)).fst - (4 : Int)))).toNat - Int.toNat (20 : Int)) (List.drop (Int.toNat (20 : Int)) c.v) = (toHel (ChR.mk c.t c.f c.v)).fst.cookie ∧
  (0 : Int) = (toHel (ChR.mk c.t c.f c.v)).snd ∧ (!false && true && true) = true)))))) (True ∧ (∃ (h : HelR), ∃ (b : Bool), [O.agg [O.d (D.v (Value.int IntKind.u32 (IntKind.u32.wrap (valF (partF c.v (0 : Int) (↑(Int.toNat (4 : Int)) : Int)).fst)))), O.d (D.v (Value.int IntKind.u32 (IntKind.u32.wrap (valF (partF c.v (4 : Int) (↑(Int.toNat (4 : Int)) : Int)).fst)))), O.d (D.v (Value.int IntKind.u16 (IntKind.u16.wrap (valF (partF c.v (8 : Int) (↑(Int.toNat (2 : Int)) : Int)).fst)))), O.d (D.v (Value.int IntKind.u16 (IntKind.u16.wrap (valF (partF c.v (10 : Int) (↑(Int.toNat (2 : Int)) : Int)).fst)))), O.d (D.v (Value.int IntKind.u32 (IntKind.u32.wrap (valF (partF c.v (12 : Int) (↑(Int.toNat (4 : Int)) : Int)).fst)))), O.d (D.ints IntKind.u8 [])], O.d (D.v (Value.bool (decide (c.t = (2 : Int)))))] = [O.agg [O.d (D.v (Value.int IntKind.u32 h.tag)), O.d (D.v (Value.int IntKind.u32 h.win)), O.d (D.v (Value.int IntKind.u16 h.out)), O.d (D.v (Value.int IntKind.u16 h.inn)), O.d (D.v (Value.int IntKind.u32 h.tsn)), O.d (D.ints IntKind.u8 h.cookie)], O.d (D.v (Value.bool b))] ∧
  okHel h) ∧ True ∧ sw (!decide ((fromHel (HelR.mk (IntKind.u32.wrap (valF (partF c.v (0 : Int) (↑(Int.toNat (4 : Int)) : Int)).fst)) (IntKind.u32.wrap (valF (partF c.v (4 : Int) (↑(Int.toNat (4 : Int)) : Int)).fst)) (IntKind.u16.wrap (valF (partF c.v (8 : Int) (↑(Int.toNat (2 : Int)) : Int)).fst)) (IntKind.u16.wrap (valF (partF c.v (10 : Int) (↑(Int.toNat (2 : Int)) : Int)).fst)) (IntKind.u32.wrap (valF (partF c.v (12 : Int) (↑(Int.toNat (4 : Int)) : Int)).fst)) []) (decide (c.t = (2 : Int)))).snd = (0 : Int))) ((0 : Int) = (toHel (ChR.mk c.t c.f c.v)).fst.tag ∧
  (0 : Int) = (toHel (ChR.mk c.t c.f c.v)).fst.win ∧ (0 : Int) = (toHel (ChR.mk c.t c.f c.v)).fst.out ∧ (0 : Int) = (toHel (ChR.mk c.t c.f c.v)).fst.inn ∧
  (0 : Int) = (toHel (ChR.mk c.t c.f c.v)).fst.tsn ∧ (toHel (ChR.mk c.t c.f c.v)).fst.cookie = [] ∧ (2 : Int) = (toHel (ChR.mk c.t c.f c.v)).snd ∧ (true && true) = true) ((∃ (c_1 : ChR), ∃ (d : ChR), [O.agg [O.d (D.v (Value.int IntKind.u8 (fromHel (HelR.mk (IntKind.u32.wrap (valF (partF c.v (0 : Int) (↑(Int.toNat (4 : Int)) : Int)).fst)) (IntKind.u32.wrap (valF (partF c.v (4 : Int) (↑(Int.toNat (4 : Int)) : Int)).fst)) (IntKind.u16.wrap (valF (partF c.v (8 : Int) (↑(Int.toNat (2 : Int)) : Int)).fst)) (IntKind.u16.wrap (valF (partF c.v (10 : Int) (↑(Int.toNat (2 : Int)) : Int)).fst)) (IntKind.u32.wrap (valF (partF c.v (12 : Int) (↑(Int.toNat (4 : Int)) : Int)).fst)) []) (decide (c.t = (2 : Int)))).fst.t)), O.d (D.v (Value.int IntKind.u8 (fromHel (HelR.mk (IntKind.u32.wrap (valF (partF c.v (0 : Int) (↑(Int.toNat (4 : Int)) : Int)).fst)) (IntKind.u32.wrap (valF (partF c.v (4 : Int) (↑(Int.toNat (4 : Int)) : Int)).fst)) (IntKind.u16.wrap (valF (partF c.v (8 : Int) (↑(Int.toNat (2 : Int)) : Int)).fst)) (IntKind.u16.wrap (valF (partF c.v (10 : Int) (↑(Int.toNat (2 : Int)) : Int)).fst)) (IntKind.u32.wrap (valF (partF c.v (12 : Int) (↑(Int.toNat (4 : Int)) : Int)).fst)) []) (decide (c.t = (2 : Int)))).fst.f)), O.d (D.ints IntKind.u8 (fromHel (HelR.mk (IntKind.u32.wrap (valF (partF c.v (0 : Int) (↑(Int.toNat (4 : Int)) : Int)).fst)) (IntKind.u32.wrap (valF (partF c.v (4 : Int) (↑(Int.toNat (4 : Int)) : Int)).fst)) (IntKind.u16.wrap (valF (partF c.v (8 : Int) (↑(Int.toNat (2 : Int)) : Int)).fst)) (IntKind.u16.wrap (valF (partF c.v (10 : Int) (↑(Int.toNat (2 : Int)) : Int)).fst)) (IntKind.u32.wrap (valF (partF c.v (12 : Int) (↑(Int.toNat (4 : Int)) : Int)).fst)) []) (decide (c.t = (2 : Int)))).fst.v)], O.agg [O.d (D.v (Value.int IntKind.u8 c.t)), O.d (D.v (Value.int IntKind.u8 c.f)), O.d (D.ints IntKind.u8 c.v)]] = [O.agg [O.d (D.v (Value.int IntKind.u8 c_1.t)), O.d (D.v (Value.int IntKind.u8 c_1.f)), O.d (D.ints IntKind.u8 c_1.v)], O.agg [O.d (D.v (Value.int IntKind.u8 d.t)), O.d (D.v (Value.int IntKind.u8 d.f)), O.d (D.ints IntKind.u8 d.v)]]) ∧
  sw (!sameCh (ChR.mk (fromHel (HelR.mk (IntKind.u32.wrap (valF (partF c.v (0 : Int) (↑(Int.toNat (4 : Int)) : Int)).fst)) (IntKind.u32.wrap (valF (partF c.v (4 : Int) (↑(Int.toNat (4 : Int)) : Int)).fst)) (IntKind.u16.wrap (valF (partF c.v (8 : Int) (↑(Int.toNat (2 : Int)) : Int)).fst)) (IntKind.u16.wrap (valF (partF c.v (10 : Int) (↑(Int.toNat (2 : Int)) : Int)).fst)) (IntKind.u32.wrap (valF (partF c.v (12 : Int) (↑(Int.toNat (4 : Int)) : Int)).fst)) []) (decide (c.t = (2 : Int)))).fst.t (fromHel (HelR.mk (IntKind.u32.wrap (valF (partF c.v (0 : Int) (↑(Int.toNat (4 : Int)) : Int)).fst)) (IntKind.u32.wrap (valF (partF c.v (4 : Int) (↑(Int.toNat (4 : Int)) : Int)).fst)) (IntKind.u16.wrap (valF (partF c.v (8 : Int) (↑(Int.toNat (2 : Int)) : Int)).fst)) (IntKind.u16.wrap (valF (partF c.v (10 : Int) (↑(Int.toNat (2 : Int)) : Int)).fst)) (IntKind.u32.wrap (valF (partF c.v (12 : Int) (↑(Int.toNat (4 : Int)) : Int)).fst)) []) (decide (c.t = (2 : Int)))).fst.f (fromHel (HelR.mk (IntKind.u32.wrap (valF (partF c.v (0 : Int) (↑(Int.toNat (4 : Int)) : Int)).fst)) (IntKind.u32.wrap (valF (partF c.v (4 : Int) (↑(Int.toNat (4 : Int)) : Int)).fst)) (IntKind.u16.wrap (valF (partF c.v (8 : Int) (↑(Int.toNat (2 : Int)) : Int)).fst)) (IntKind.u16.wrap (valF (partF c.v (10 : Int) (↑(Int.toNat (2 : Int)) : Int)).fst)) (IntKind.u32.wrap (valF (partF c.v (12 : Int) (↑(Int.toNat (4 : Int)) : Int)).fst)) []) (decide (c.t = (2 : Int)))).fst.v) (ChR.mk c.t c.f c.v)) ((0 : Int) = (toHel (ChR.mk c.t c.f c.v)).fst.tag ∧
  (0 : Int) = (toHel (ChR.mk c.t c.f c.v)).fst.win ∧ (0 : Int) = (toHel (ChR.mk c.t c.f c.v)).fst.out ∧ (0 : Int) = (toHel (ChR.mk c.t c.f c.v)).fst.inn ∧
  (0 : Int) = (toHel (ChR.mk c.t c.f c.v)).fst.tsn ∧ (toHel (ChR.mk c.t c.f c.v)).fst.cookie = [] ∧ (2 : Int) = (toHel (ChR.mk c.t c.f c.v)).snd ∧ (true && true) = true) (IntKind.u32.wrap (valF (partF c.v (0 : Int) (↑(Int.toNat (4 : Int)) : Int)).fst) = (toHel (ChR.mk c.t c.f c.v)).fst.tag ∧
  IntKind.u32.wrap (valF (partF c.v (4 : Int) (↑(Int.toNat (4 : Int)) : Int)).fst) = (toHel (ChR.mk c.t c.f c.v)).fst.win ∧ IntKind.u16.wrap (valF (partF c.v (8 : Int) (↑(Int.toNat (2 : Int)) : Int)).fst) = (toHel (ChR.mk c.t c.f c.v)).fst.out ∧
  IntKind.u16.wrap (valF (partF c.v (10 : Int) (↑(Int.toNat (2 : Int)) : Int)).fst) = (toHel (ChR.mk c.t c.f c.v)).fst.inn ∧ IntKind.u32.wrap (valF (partF c.v (12 : Int) (↑(Int.toNat (4 : Int)) : Int)).fst) = (toHel (ChR.mk c.t c.f c.v)).fst.tsn ∧
  (toHel (ChR.mk c.t c.f c.v)).fst.cookie = [] ∧ (0 : Int) = (toHel (ChR.mk c.t c.f c.v)).snd ∧ (true && true) = true)))))) (True ∧ sw (decide ((↑c.v.length : Int) < (16 : Int))) ((0 : Int) = (toHel (ChR.mk c.t c.f c.v)).fst.tag ∧
  (0 : Int) = (toHel (ChR.mk c.t c.f c.v)).fst.win ∧ (0 : Int) = (toHel (ChR.mk c.t c.f c.v)).fst.out ∧ (0 : Int) = (toHel (ChR.mk c.t c.f c.v)).fst.inn ∧
  (0 : Int) = (toHel (ChR.mk c.t c.f c.v)).fst.tsn ∧ (toHel (ChR.mk c.t c.f c.v)).fst.cookie = [] ∧ (2 : Int) = (toHel (ChR.mk c.t c.f c.v)).snd ∧ (true && true) = true) ((∃ (b : List Int), ∃ (i : Int), ∃ (k : Nat), [O.d (D.ints IntKind.u8 c.v), O.d (D.v (Value.int IntKind.i64 (0 : Int))), O.d (D.v (Value.int IntKind.i64 (4 : Int)))] = [O.d (D.ints IntKind.u8 b), O.d (D.v (Value.int IntKind.i64 i)), O.d (D.v (Value.int IntKind.i64 (↑k : Int)))] ∧
  sm b.length ∧ okB b ∧ okI i ∧ (1 : Nat) ≤ k ∧ k ≤ (7 : Nat)) ∧ (∃ (b : List Int), ∃ (i : Int), ∃ (k : Nat), [O.d (D.ints IntKind.u8 c.v), O.d (D.v (Value.int IntKind.i64 (4 : Int))), O.d (D.v (Value.int IntKind.i64 (4 : Int)))] = [O.d (D.ints IntKind.u8 b), O.d (D.v (Value.int IntKind.i64 i)), O.d (D.v (Value.int IntKind.i64 (↑k : Int)))] ∧
  sm b.length ∧ okB b ∧ okI i ∧ (1 : Nat) ≤ k ∧ k ≤ (7 : Nat)) ∧ (∃ (b : List Int), ∃ (i : Int), ∃ (k : Nat), [O.d (D.ints IntKind.u8 c.v), O.d (D.v (Value.int IntKind.i64 (8 : Int))), O.d (D.v (Value.int IntKind.i64 (2 : Int)))] = [O.d (D.ints IntKind.u8 b), O.d (D.v (Value.int IntKind.i64 i)), O.d (D.v (Value.int IntKind.i64 (↑k : Int)))] ∧
  sm b.length ∧ okB b ∧ okI i ∧ (1 : Nat) ≤ k ∧ k ≤ (7 : Nat)) ∧ (∃ (b : List Int), ∃ (i : Int), ∃ (k : Nat), [O.d (D.ints IntKind.u8 c.v), O.d (D.v (Value.int IntKind.i64 (10 : Int))), O.d (D.v (Value.int IntKind.i64 (2 : Int)))] = [O.d (D.ints IntKind.u8 b), O.d (D.v (Value.int IntKind.i64 i)), O.d (D.v (Value.int IntKind.i64 (↑k : Int)))] ∧
  sm b.length ∧ okB b ∧ okI i ∧ (1 : Nat) ≤ k ∧ k ≤ (7 : Nat)) ∧ (∃ (b : List Int), ∃ (i : Int), ∃ (k : Nat), [O.d (D.ints IntKind.u8 c.v), O.d (D.v (Value.int IntKind.i64 (12 : Int))), O.d (D.v (Value.int IntKind.i64 (4 : Int)))] = [O.d (D.ints IntKind.u8 b), O.d (D.v (Value.int IntKind.i64 i)), O.d (D.v (Value.int IntKind.i64 (↑k : Int)))] ∧
  sm b.length ∧ okB b ∧ okI i ∧ (1 : Nat) ≤ k ∧ k ≤ (7 : Nat)) ∧ True ∧ sw (decide (c.t = (2 : Int))) (True ∧ sw (decide ((↑c.v.length : Int) < (20 : Int))) ((0 : Int) = (toHel (ChR.mk c.t c.f c.v)).fst.tag ∧
  (0 : Int) = (toHel (ChR.mk c.t c.f c.v)).fst.win ∧ (0 : Int) = (toHel (ChR.mk c.t c.f c.v)).fst.out ∧ (0 : Int) = (toHel (ChR.mk c.t c.f c.v)).fst.inn ∧
  (0 : Int) = (toHel (ChR.mk c.t c.f c.v)).fst.tsn ∧ (toHel (ChR.mk c.t c.f c.v)).fst.cookie = [] ∧ (2 : Int) = (toHel (ChR.mk c.t c.f c.v)).snd ∧ (true && true) = true) ((∃ (b : List Int), ∃ (i : Int), ∃ (k : Nat), [O.d (D.ints IntKind.u8 c.v), O.d (D.v (Value.int IntKind.i64 (18 : Int))), O.d (D.v (Value.int IntKind.i64 (2 : Int)))] = [O.d (D.ints IntKind.u8 b), O.d (D.v (Value.int IntKind.i64 i)), O.d (D.v (Value.int IntKind.i64 (↑k : Int)))] ∧
  sm b.length ∧ okB b ∧ okI i ∧ (1 : Nat) ≤ k ∧ k ≤ (7 : Nat)) ∧ True ∧ True ∧ sw (decide (IntKind.i64.wrap (valF (partF c.v (18 : Int) (↑(Int.toNat (2 : Int)) : Int)).fst - (4 : Int)) < (0 : Int))) ((0 : Int) = (toHel (ChR.mk c.t c.f c.v)).fst.tag ∧
  (0 : Int) = (toHel (ChR.mk c.t c.f c.v)).fst.win ∧ (0 : Int) = (toHel (ChR.mk c.t c.f c.v)).fst.out ∧ (0 : Int) = (toHel (ChR.mk c.t c.f c.v)).fst.inn ∧
  (0 : Int) = (toHel (ChR.mk c.t c.f c.v)).fst.tsn ∧ (toHel (ChR.mk c.t c.f c.v)).fst.cookie = [] ∧ (2 : Int) = (toHel (ChR.mk c.t c.f c.v)).snd ∧ (true && true) = true) (True ∧
  True ∧ sw (decide (IntKind.i64.wrap ((↑c.v.length : Int) - (20 : Int)) < IntKind.i64.wrap (valF (partF c.v (18 : Int) (↑(Int.toNat (2 : Int)) : Int)).fst - (4 : Int)))) ((0 : Int) = (toHel (ChR.mk c.t c.f c.v)).fst.tag ∧
  (0 : Int) = (toHel (ChR.mk c.t c.f c.v)).fst.win ∧ (0 : Int) = (toHel (ChR.mk c.t c.f c.v)).fst.out ∧ (0 : Int) = (toHel (ChR.mk c.t c.f c.v)).fst.inn ∧
  (0 : Int) = (toHel (ChR.mk c.t c.f c.v)).fst.tsn ∧ (toHel (ChR.mk c.t c.f c.v)).fst.cookie = [] ∧ (2 : Int) = (toHel (ChR.mk c.t c.f c.v)).snd ∧ (true && true) = true) (True ∧
  ((0 : Int) ≤ (20 : Int) ∧ (20 : Int) ≤ IntKind.i64.wrap ((20 : Int) + IntKind.i64.wrap (valF (partF c.v (18 : Int) (↑(Int.toNat (2 : Int)) : Int)).fst - (4 : Int))) ∧
  IntKind.i64.wrap ((20 : Int) + IntKind.i64.wrap (valF (partF c.v (18 : Int) (↑(Int.toNat (2 : Int)) : Int)).fst - (4 : Int))) ≤ (↑c.v.length : Int)) ∧ True ∧
  ((0 : Nat) + (List.take ((IntKind.i64.wrap ((20 : Int) + IntKind.i64.wrap (valF (partF c.v (18 : Int) (↑(Int.toNat (2 : Int)) : Int)).fst - (4 : Int)))).toNat - Int.toNat (20 : Int)) (List.drop (Int.toNat (20 : Int)) c.v)).length) * Try.prog.types[(5 : Nat)].bytes ≤ (140737488355328 : Nat) ∧
  True ∧ (∃ (h : HelR), ∃ (b : Bool), [O.agg [O.d (D.v (Value.int IntKind.u32 (IntKind.u32.wrap (valF (partF c.v (0 : Int) (↑(Int.toNat (4 : Int)) : Int)).fst)))), O.d (D.v (Value.int IntKind.u32 (IntKind.u32.wrap (valF (partF c.v (4 : Int) (↑(Int.toNat (4 : Int)) : Int)).fst)))), O.d (D.v (Value.int IntKind.u16 (IntKind.u16.wrap (valF (partF c.v (8 : Int) (↑(Int.toNat (2 : Int)) : Int)).fst)))), O.d (D.v (Value.int IntKind.u16 (IntKind.u16.wrap (valF (partF c.v (10 : Int) (↑(Int.toNat (2 : Int)) : Int)).fst)))), O.d (D.v (Value.int IntKind.u32 (IntKind.u32.wrap (valF (partF c.v (12 : Int) (↑(Int.toNat (4 : Int)) : Int)).fst)))), O.d (D.ints IntKind.u8 ([] ++ List.take ((IntKind.i64.wrap ((20 : Int) + IntKind.i64.wrap (valF (partF c.v (18 : Int) (↑(Int.toNat (2 : Int)) : Int)).fst - (4 : Int)))).toNat - Int.toNat (20 : Int)) (List.drop (Int.toNat (20 : Int)) c.v)))], O.d (D.v (Value.bool (decide (c.t = (2 : Int)))))] = [O.agg [O.d (D.v (Value.int IntKind.u32 h.tag)), O.d (D.v (Value.int IntKind.u32 h.win)), O.d (D.v (Value.int IntKind.u16 h.out)), O.d (D.v (Value.int IntKind.u16 h.inn)), O.d (D.v (Value.int IntKind.u32 h.tsn)), O.d (D.ints IntKind.u8 h.cookie)], O.d (D.v (Value.bool b))] ∧
  okHel h) ∧ True ∧ sw (!decide ((fromHel (HelR.mk (IntKind.u32.wrap (valF (partF c.v (0 : Int) (↑(Int.toNat (4 : Int)) : Int)).fst)) (IntKind.u32.wrap (valF (partF c.v (4 : Int) (↑(Int.toNat (4 : Int)) : Int)).fst)) (IntKind.u16.wrap (valF (partF c.v (8 : Int) (↑(Int.toNat (2 : Int)) : Int)).fst)) (IntKind.u16.wrap (valF (partF c.v (10 : Int) (↑(Int.toNat (2 : Int)) : Int)).fst)) (IntKind.u32.wrap (valF (partF c.v (12 : Int) (↑(Int.toNat (4 : Int)) : Int)).fst)) ([] ++ List.take ((IntKind.i64.wrap ((20 : Int) + IntKind.i64.wrap (valF (partF c.v (18 : Int) (↑(Int.toNat (2 : Int)) : Int)).fst - (4 : Int)))).toNat - Int.toNat (20 : Int)) (List.drop (Int.toNat (20 : Int)) c.v))) (decide (c.t = (2 : Int)))).snd = (0 : Int))) ((0 : Int) = (toHel (ChR.mk c.t c.f c.v)).fst.tag ∧
  (0 : Int) = (toHel (ChR.mk c.t c.f c.v)).fst.win ∧ (0 : Int) = (toHel (ChR.mk c.t c.f c.v)).fst.out ∧ (0 : Int) = (toHel (ChR.mk c.t c.f c.v)).fst.inn ∧
  (0 : Int) = (toHel (ChR.mk c.t c.f c.v)).fst.tsn ∧ (toHel (ChR.mk c.t c.f c.v)).fst.cookie = [] ∧ (2 : Int) = (toHel (ChR.mk c.t c.f c.v)).snd ∧ (true && true) = true) ((∃ (c_1 : ChR), ∃ (d : ChR), [O.agg [O.d (D.v (Value.int IntKind.u8 (fromHel (HelR.mk (IntKind.u32.wrap (valF (partF c.v (0 : Int) (↑(Int.toNat (4 : Int)) : Int)).fst)) (IntKind.u32.wrap (valF (partF c.v (4 : Int) (↑(Int.toNat (4 : Int)) : Int)).fst)) (IntKind.u16.wrap (valF (partF c.v (8 : Int) (↑(Int.toNat (2 : Int)) : Int)).fst)) (IntKind.u16.wrap (valF (partF c.v (10 : Int) (↑(Int.toNat (2 : Int)) : Int)).fst)) (IntKind.u32.wrap (valF (partF c.v (12 : Int) (↑(Int.toNat (4 : Int)) : Int)).fst)) ([] ++ List.take ((IntKind.i64.wrap ((20 : Int) + IntKind.i64.wrap (valF (partF c.v (18 : Int) (↑(Int.toNat (2 : Int)) : Int)).fst - (4 : Int)))).toNat - Int.toNat (20 : Int)) (List.drop (Int.toNat (20 : Int)) c.v))) (decide (c.t = (2 : Int)))).fst.t)), O.d (D.v (Value.int IntKind.u8 (fromHel (HelR.mk (IntKind.u32.wrap (valF (partF c.v (0 : Int) (↑(Int.toNat (4 : Int)) : Int)).fst)) (IntKind.u32.wrap (valF (partF c.v (4 : Int) (↑(Int.toNat (4 : Int)) : Int)).fst)) (IntKind.u16.wrap (valF (partF c.v (8 : Int) (↑(Int.toNat (2 : Int)) : Int)).fst)) (IntKind.u16.wrap (valF (partF c.v (10 : Int) (↑(Int.toNat (2 : Int)) : Int)).fst)) (IntKind.u32.wrap (valF (partF c.v (12 : Int) (↑(Int.toNat (4 : Int)) : Int)).fst)) ([] ++ List.take ((IntKind.i64.wrap ((20 : Int) + IntKind.i64.wrap (valF (partF c.v (18 : Int) (↑(Int.toNat (2 : Int)) : Int)).fst - (4 : Int)))).toNat - Int.toNat (20 : Int)) (List.drop (Int.toNat (20 : Int)) c.v))) (decide (c.t = (2 : Int)))).fst.f)), O.d (D.ints IntKind.u8 (fromHel (HelR.mk (IntKind.u32.wrap (valF (partF c.v (0 : Int) (↑(Int.toNat (4 : Int)) : Int)).fst)) (IntKind.u32.wrap (valF (partF c.v (4 : Int) (↑(Int.toNat (4 : Int)) : Int)).fst)) (IntKind.u16.wrap (valF (partF c.v (8 : Int) (↑(Int.toNat (2 : Int)) : Int)).fst)) (IntKind.u16.wrap (valF (partF c.v (10 : Int) (↑(Int.toNat (2 : Int)) : Int)).fst)) (IntKind.u32.wrap (valF (partF c.v (12 : Int) (↑(Int.toNat (4 : Int)) : Int)).fst)) ([] ++ List.take ((IntKind.i64.wrap ((20 : Int) + IntKind.i64.wrap (valF (partF c.v (18 : Int) (↑(Int.toNat (2 : Int)) : Int)).fst - (4 : Int)))).toNat - Int.toNat (20 : Int)) (List.drop (Int.toNat (20 : Int)) c.v))) (decide (c.t = (2 : Int)))).fst.v)], O.agg [O.d (D.v (Value.int IntKind.u8 c.t)), O.d (D.v (Value.int IntKind.u8 c.f)), O.d (D.ints IntKind.u8 c.v)]] = [O.agg [O.d (D.v (Value.int IntKind.u8 c_1.t)), O.d (D.v (Value.int IntKind.u8 c_1.f)), O.d (D.ints IntKind.u8 c_1.v)], O.agg [O.d (D.v (Value.int IntKind.u8 d.t)), O.d (D.v (Value.int IntKind.u8 d.f)), O.d (D.ints IntKind.u8 d.v)]]) ∧
  sw (!sameCh (ChR.mk (fromHel (HelR.mk (IntKind.u32.wrap (valF (partF c.v (0 : Int) (↑(Int.toNat (4 : Int)) : Int)).fst)) (IntKind.u32.wrap (valF (partF c.v (4 : Int) (↑(Int.toNat (4 : Int)) : Int)).fst)) (IntKind.u16.wrap (valF (partF c.v (8 : Int) (↑(Int.toNat (2 : Int)) : Int)).fst)) (IntKind.u16.wrap (valF (partF c.v (10 : Int) (↑(Int.toNat (2 : Int)) : Int)).fst)) (IntKind.u32.wrap (valF (partF c.v (12 : Int) (↑(Int.toNat (4 : Int)) : Int)).fst)) ([] ++ List.take ((IntKind.i64.wrap ((20 : Int) + IntKind.i64.wrap (valF (partF c.v (18 : Int) (↑(Int.toNat (2 : Int)) : Int)).fst - (4 : Int)))).toNat - Int.toNat (20 : Int)) (List.drop (Int.toNat (20 : Int)) c.v))) (decide (c.t = (2 : Int)))).fst.t (fromHel (HelR.mk (IntKind.u32.wrap (valF (partF c.v (0 : Int) (↑(Int.toNat (4 : Int)) : Int)).fst)) (IntKind.u32.wrap (valF (partF c.v (4 : Int) (↑(Int.toNat (4 : Int)) : Int)).fst)) (IntKind.u16.wrap (valF (partF c.v (8 : Int) (↑(Int.toNat (2 : Int)) : Int)).fst)) (IntKind.u16.wrap (valF (partF c.v (10 : Int) (↑(Int.toNat (2 : Int)) : Int)).fst)) (IntKind.u32.wrap (valF (partF c.v (12 : Int) (↑(Int.toNat (4 : Int)) : Int)).fst)) ([] ++ List.take ((IntKind.i64.wrap ((20 : Int) + IntKind.i64.wrap (valF (partF c.v (18 : Int) (↑(Int.toNat (2 : Int)) : Int)).fst - (4 : Int)))).toNat - Int.toNat (20 : Int)) (List.drop (Int.toNat (20 : Int)) c.v))) (decide (c.t = (2 : Int)))).fst.f (fromHel (HelR.mk (IntKind.u32.wrap (valF (partF c.v (0 : Int) (↑(Int.toNat (4 : Int)) : Int)).fst)) (IntKind.u32.wrap (valF (partF c.v (4 : Int) (↑(Int.toNat (4 : Int)) : Int)).fst)) (IntKind.u16.wrap (valF (partF c.v (8 : Int) (↑(Int.toNat (2 : Int)) : Int)).fst)) (IntKind.u16.wrap (valF (partF c.v (10 : Int) (↑(Int.toNat (2 : Int)) : Int)).fst)) (IntKind.u32.wrap (valF (partF c.v (12 : Int) (↑(Int.toNat (4 : Int)) : Int)).fst)) ([] ++ List.take ((IntKind.i64.wrap ((20 : Int) + IntKind.i64.wrap (valF (partF c.v (18 : Int) (↑(Int.toNat (2 : Int)) : Int)).fst - (4 : Int)))).toNat - Int.toNat (20 : Int)) (List.drop (Int.toNat (20 : Int)) c.v))) (decide (c.t = (2 : Int)))).fst.v) (ChR.mk c.t c.f c.v)) ((0 : Int) = (toHel (ChR.mk c.t c.f c.v)).fst.tag ∧
  (0 : Int) = (toHel (ChR.mk c.t c.f c.v)).fst.win ∧ (0 : Int) = (toHel (ChR.mk c.t c.f c.v)).fst.out ∧ (0 : Int) = (toHel (ChR.mk c.t c.f c.v)).fst.inn ∧
  (0 : Int) = (toHel (ChR.mk c.t c.f c.v)).fst.tsn ∧ (toHel (ChR.mk c.t c.f c.v)).fst.cookie = [] ∧ (2 : Int) = (toHel (ChR.mk c.t c.f c.v)).snd ∧ (true && true) = true) (IntKind.u32.wrap (valF (partF c.v (0 : Int) (↑(Int.toNat (4 : Int)) : Int)).fst) = (toHel (ChR.mk c.t c.f c.v)).fst.tag ∧
  IntKind.u32.wrap (valF (partF c.v (4 : Int) (↑(Int.toNat (4 : Int)) : Int)).fst) = (toHel (ChR.mk c.t c.f c.v)).fst.win ∧ IntKind.u16.wrap (valF (partF c.v (8 : Int) (↑(Int.toNat (2 : Int)) : Int)).fst) = (toHel (ChR.mk c.t c.f c.v)).fst.out ∧
  IntKind.u16.wrap (valF (partF c.v (10 : Int) (↑(Int.toNat (2 : Int)) : Int)).fst) = (toHel (ChR.mk c.t c.f c.v)).fst.inn ∧ IntKind.u32.wrap (valF (partF c.v (12 : Int) (↑(Int.toNat (4 : Int)) : Int)).fst) = (toHel (ChR.mk c.t c.f c.v)).fst.tsn ∧
  [] ++ List.take ((IntKind.i64.wrap ((20 : Int) + IntKind.i64.wrap (valF (partF c.v (18 : Int) (↑(Int.toNat (2 : Int)) : Int)).fst - (4 : Int)))).toNat - Int.toNat (20 : Int)) (List.drop (Int.toNat (20 : Int)) c.v) = (toHel (ChR.mk c.t c.f c.v)).fst.cookie ∧
  (0 : Int) = (toHel (ChR.mk c.t c.f c.v)).snd ∧ (!false && true && true) = true)))))) (True ∧ (∃ (h : HelR), ∃ (b : Bool), [O.agg [O.d (D.v (Value.int IntKind.u32 (IntKind.u32.wrap (valF (partF c.v (0 : Int) (↑(Int.toNat (4 : Int)) : Int)).fst)))), O.d (D.v (Value.int IntKind.u32 (IntKind.u32.wrap (valF (partF c.v (4 : Int) (↑(Int.toNat (4 : Int)) : Int)).fst)))), O.d (D.v (Value.int IntKind.u16 (IntKind.u16.wrap (valF (partF c.v (8 : Int) (↑(Int.toNat (2 : Int)) : Int)).fst)))), O.d (D.v (Value.int IntKind.u16 (IntKind.u16.wrap (valF (partF c.v (10 : Int) (↑(Int.toNat (2 : Int)) : Int)).fst)))), O.d (D.v (Value.int IntKind.u32 (IntKind.u32.wrap (valF (partF c.v (12 : Int) (↑(Int.toNat (4 : Int)) : Int)).fst)))), O.d (D.ints IntKind.u8 [])], O.d (D.v (Value.bool (decide (c.t = (2 : Int)))))] = [O.agg [O.d (D.v (Value.int IntKind.u32 h.tag)), O.d (D.v (Value.int IntKind.u32 h.win)), O.d (D.v (Value.int IntKind.u16 h.out)), O.d (D.v (Value.int IntKind.u16 h.inn)), O.d (D.v (Value.int IntKind.u32 h.tsn)), O.d (D.ints IntKind.u8 h.cookie)], O.d (D.v (Value.bool b))] ∧
  okHel h) ∧ True ∧ sw (!decide ((fromHel (HelR.mk (IntKind.u32.wrap (valF (partF c.v (0 : Int) (↑(Int.toNat (4 : Int)) : Int)).fst)) (IntKind.u32.wrap (valF (partF c.v (4 : Int) (↑(Int.toNat (4 : Int)) : Int)).fst)) (IntKind.u16.wrap (valF (partF c.v (8 : Int) (↑(Int.toNat (2 : Int)) : Int)).fst)) (IntKind.u16.wrap (valF (partF c.v (10 : Int) (↑(Int.toNat (2 : Int)) : Int)).fst)) (IntKind.u32.wrap (valF (partF c.v (12 : Int) (↑(Int.toNat (4 : Int)) : Int)).fst)) []) (decide (c.t = (2 : Int)))).snd = (0 : Int))) ((0 : Int) = (toHel (ChR.mk c.t c.f c.v)).fst.tag ∧
  (0 : Int) = (toHel (ChR.mk c.t c.f c.v)).fst.win ∧ (0 : Int) = (toHel (ChR.mk c.t c.f c.v)).fst.out ∧ (0 : Int) = (toHel (ChR.mk c.t c.f c.v)).fst.inn ∧
  (0 : Int) = (toHel (ChR.mk c.t c.f c.v)).fst.tsn ∧ (toHel (ChR.mk c.t c.f c.v)).fst.cookie = [] ∧ (2 : Int) = (toHel (ChR.mk c.t c.f c.v)).snd ∧ (true && true) = true) ((∃ (c_1 : ChR), ∃ (d : ChR), [O.agg [O.d (D.v (Value.int IntKind.u8 (fromHel (HelR.mk (IntKind.u32.wrap (valF (partF c.v (0 : Int) (↑(Int.toNat (4 : Int)) : Int)).fst)) (IntKind.u32.wrap (valF (partF c.v (4 : Int) (↑(Int.toNat (4 : Int)) : Int)).fst)) (IntKind.u16.wrap (valF (partF c.v (8 : Int) (↑(Int.toNat (2 : Int)) : Int)).fst)) (IntKind.u16.wrap (valF (partF c.v (10 : Int) (↑(Int.toNat (2 : Int)) : Int)).fst)) (IntKind.u32.wrap (valF (partF c.v (12 : Int) (↑(Int.toNat (4 : Int)) : Int)).fst)) []) (decide (c.t = (2 : Int)))).fst.t)), O.d (D.v (Value.int IntKind.u8 (fromHel (HelR.mk (IntKind.u32.wrap (valF (partF c.v (0 : Int) (↑(Int.toNat (4 : Int)) : Int)).fst)) (IntKind.u32.wrap (valF (partF c.v (4 : Int) (↑(Int.toNat (4 : Int)) : Int)).fst)) (IntKind.u16.wrap (valF (partF c.v (8 : Int) (↑(Int.toNat (2 : Int)) : Int)).fst)) (IntKind.u16.wrap (valF (partF c.v (10 : Int) (↑(Int.toNat (2 : Int)) : Int)).fst)) (IntKind.u32.wrap (valF (partF c.v (12 : Int) (↑(Int.toNat (4 : Int)) : Int)).fst)) []) (decide (c.t = (2 : Int)))).fst.f)), O.d (D.ints IntKind.u8 (fromHel (HelR.mk (IntKind.u32.wrap (valF (partF c.v (0 : Int) (↑(Int.toNat (4 : Int)) : Int)).fst)) (IntKind.u32.wrap (valF (partF c.v (4 : Int) (↑(Int.toNat (4 : Int)) : Int)).fst)) (IntKind.u16.wrap (valF (partF c.v (8 : Int) (↑(Int.toNat (2 : Int)) : Int)).fst)) (IntKind.u16.wrap (valF (partF c.v (10 : Int) (↑(Int.toNat (2 : Int)) : Int)).fst)) (IntKind.u32.wrap (valF (partF c.v (12 : Int) (↑(Int.toNat (4 : Int)) : Int)).fst)) []) (decide (c.t = (2 : Int)))).fst.v)], O.agg [O.d (D.v (Value.int IntKind.u8 c.t)), O.d (D.v (Value.int IntKind.u8 c.f)), O.d (D.ints IntKind.u8 c.v)]] = [O.agg [O.d (D.v (Value.int IntKind.u8 c_1.t)), O.d (D.v (Value.int IntKind.u8 c_1.f)), O.d (D.ints IntKind.u8 c_1.v)], O.agg [O.d (D.v (Value.int IntKind.u8 d.t)), O.d (D.v (Value.int IntKind.u8 d.f)), O.d (D.ints IntKind.u8 d.v)]]) ∧
  sw (!sameCh (ChR.mk (fromHel (HelR.mk (IntKind.u32.wrap (valF (partF c.v (0 : Int) (↑(Int.toNat (4 : Int)) : Int)).fst)) (IntKind.u32.wrap (valF (partF c.v (4 : Int) (↑(Int.toNat (4 : Int)) : Int)).fst)) (IntKind.u16.wrap (valF (partF c.v (8 : Int) (↑(Int.toNat (2 : Int)) : Int)).fst)) (IntKind.u16.wrap (valF (partF c.v (10 : Int) (↑(Int.toNat (2 : Int)) : Int)).fst)) (IntKind.u32.wrap (valF (partF c.v (12 : Int) (↑(Int.toNat (4 : Int)) : Int)).fst)) []) (decide (c.t = (2 : Int)))).fst.t (fromHel (HelR.mk (IntKind.u32.wrap (valF (partF c.v (0 : Int) (↑(Int.toNat (4 : Int)) : Int)).fst)) (IntKind.u32.wrap (valF (partF c.v (4 : Int) (↑(Int.toNat (4 : Int)) : Int)).fst)) (IntKind.u16.wrap (valF (partF c.v (8 : Int) (↑(Int.toNat (2 : Int)) : Int)).fst)) (IntKind.u16.wrap (valF (partF c.v (10 : Int) (↑(Int.toNat (2 : Int)) : Int)).fst)) (IntKind.u32.wrap (valF (partF c.v (12 : Int) (↑(Int.toNat (4 : Int)) : Int)).fst)) []) (decide (c.t = (2 : Int)))).fst.f (fromHel (HelR.mk (IntKind.u32.wrap (valF (partF c.v (0 : Int) (↑(Int.toNat (4 : Int)) : Int)).fst)) (IntKind.u32.wrap (valF (partF c.v (4 : Int) (↑(Int.toNat (4 : Int)) : Int)).fst)) (IntKind.u16.wrap (valF (partF c.v (8 : Int) (↑(Int.toNat (2 : Int)) : Int)).fst)) (IntKind.u16.wrap (valF (partF c.v (10 : Int) (↑(Int.toNat (2 : Int)) : Int)).fst)) (IntKind.u32.wrap (valF (partF c.v (12 : Int) (↑(Int.toNat (4 : Int)) : Int)).fst)) []) (decide (c.t = (2 : Int)))).fst.v) (ChR.mk c.t c.f c.v)) ((0 : Int) = (toHel (ChR.mk c.t c.f c.v)).fst.tag ∧
  (0 : Int) = (toHel (ChR.mk c.t c.f c.v)).fst.win ∧ (0 : Int) = (toHel (ChR.mk c.t c.f c.v)).fst.out ∧ (0 : Int) = (toHel (ChR.mk c.t c.f c.v)).fst.inn ∧
  (0 : Int) = (toHel (ChR.mk c.t c.f c.v)).fst.tsn ∧ (toHel (ChR.mk c.t c.f c.v)).fst.cookie = [] ∧ (2 : Int) = (toHel (ChR.mk c.t c.f c.v)).snd ∧ (true && true) = true) (IntKind.u32.wrap (valF (partF c.v (0 : Int) (↑(Int.toNat (4 : Int)) : Int)).fst) = (toHel (ChR.mk c.t c.f c.v)).fst.tag ∧
  IntKind.u32.wrap (valF (partF c.v (4 : Int) (↑(Int.toNat (4 : Int)) : Int)).fst) = (toHel (ChR.mk c.t c.f c.v)).fst.win ∧ IntKind.u16.wrap (valF (partF c.v (8 : Int) (↑(Int.toNat (2 : Int)) : Int)).fst) = (toHel (ChR.mk c.t c.f c.v)).fst.out ∧
  IntKind.u16.wrap (valF (partF c.v (10 : Int) (↑(Int.toNat (2 : Int)) : Int)).fst) = (toHel (ChR.mk c.t c.f c.v)).fst.inn ∧ IntKind.u32.wrap (valF (partF c.v (12 : Int) (↑(Int.toNat (4 : Int)) : Int)).fst) = (toHel (ChR.mk c.t c.f c.v)).fst.tsn ∧
  (toHel (ChR.mk c.t c.f c.v)).fst.cookie = [] ∧ (0 : Int) = (toHel (ChR.mk c.t c.f c.v)).snd ∧ (true && true) = true))))) := by
  simp only [↓sw_iff, ↓Bool.and_eq_true, ↓decide_eq_true_eq, ↓decide_eq_false_iff_not, ↓Bool.not_eq_true', ↓Bool.not_eq_false', true_and, and_true, Nat.zero_add, List.nil_append, Nat.mul_one, bytes5, toNat2, toNat4, ch_eta, num_def]
  intro c h1 h2
  obtain ⟨w1, w2, w3, w4, w5, w6, w7⟩ := num_w h1
  simp only [w1, w2, w3, w4, w5, w7, hel1_eta, hel1_nil, toHel_eq h1 h2]
  have hh := helRef_ok h1 h2
  have n18 := num_rng h1 18 (k := 2)
  have p2 : (256 : Int) ^ 2 = 65536 := rfl
  rw [p2] at n18
  have h2' := h2
  unfold sm at h2'
  have e20 : IntKind.i64.wrap ((c.v.length : Int) - 20) = (c.v.length : Int) - 20 := wrap_i64_id (by omega) (by omega)
  have e21 : IntKind.i64.wrap (20 + (numAt c.v 18 2 - 4)) = 20 + (numAt c.v 18 2 - 4) := wrap_i64_id (by omega) (by omega)
  have t20 : Int.toNat 20 = 20 := rfl
  simp only [e20, e21, t20]
  refine ⟨fun a => ⟨fun b => err_leaf (ref_e1 (.inl ⟨a, b⟩)), fun b => ⟨fun l => err_leaf (ref_e1 (.inr (by omega))), fun l => ?_⟩⟩, fun a => ⟨fun l => err_leaf (ref_e1 (.inr (by omega))), fun l => ?_⟩⟩
  all_goals
    have c1 : ¬ (c.t ≠ 1 ∧ c.t ≠ 2 ∨ c.v.length < 16) := by omega
    refine ⟨⟨c.v, 0, 4, rfl, h2, h1, by unfold okI; omega, by decide, by decide⟩, ⟨c.v, 4, 4, rfl, h2, h1, by unfold okI; omega, by decide, by decide⟩, ⟨c.v, 8, 2, rfl, h2, h1, by unfold okI; omega, by decide, by decide⟩, ⟨c.v, 10, 2, rfl, h2, h1, by unfold okI; omega, by decide, by decide⟩, ⟨c.v, 12, 4, rfl, h2, h1, by unfold okI; omega, by decide, by decide⟩,
      fun t2 => ⟨fun l2 => err_leaf (ref_e2 ⟨t2, by omega⟩), fun l2 => ⟨⟨c.v, 18, 2, rfl, h2, h1, by unfold okI; omega, by decide, by decide⟩, fun n0 => err_leaf (ref_e3 ⟨t2, .inl n0⟩), fun n0 => ⟨fun n1 => err_leaf (ref_e3 ⟨t2, .inr n1⟩), fun n1 => ?_⟩⟩⟩, fun t2 => ?_⟩
    · have c2 : ¬ (c.t = 2 ∧ c.v.length < 20) := by omega
      have c3 : ¬ (c.t = 2 ∧ (numAt c.v 18 2 - 4 < 0 ∨ (c.v.length : Int) - 20 < numAt c.v 18 2 - 4)) := by omega
      have e22 : (20 + (numAt c.v 18 2 - 4)).toNat - 20 = (numAt c.v 18 2 - 4).toNat := by omega
      rw [e22]
      have ho : helRef c = hel1 c.v ((c.v.drop 20).take (numAt c.v 18 2 - 4).toNat) := by unfold helRef; rw [if_pos t2]; rfl
      rw [ho] at hh
      have hb : okB (fromHel (hel1 c.v ((c.v.drop 20).take (numAt c.v 18 2 - 4).toNat)) (decide (c.t = 2))).1.v := fromHel_okB hh.2.2.2.2.2.1 _
      rw [sameCh_eq hb h1]
      have hl3 : ((c.v.drop 20).take (numAt c.v 18 2 - 4).toNat).length ≤ c.v.length := by rw [List.length_take, List.length_drop]; omega
      exact ⟨⟨by omega, by omega, by omega⟩, by omega, ⟨_, _, rfl, hh⟩, fun e => err_leaf (ref_e4 ho (.inl e)), fun e => ⟨⟨_, _, rfl⟩, fun e2 => err_leaf (ref_e4 ho (.inr e2)), fun e2 => ok_leaf (ref_ok ho c1 c2 c3 e e2)⟩⟩
    · have c2 : ¬ (c.t = 2 ∧ c.v.length < 20) := fun x => t2 x.1
      have c3 : ¬ (c.t = 2 ∧ (numAt c.v 18 2 - 4 < 0 ∨ (c.v.length : Int) - 20 < numAt c.v 18 2 - 4)) := fun x => t2 x.1
      have ho : helRef c = hel0 c.v := by unfold helRef; rw [if_neg t2]
      rw [ho] at hh
      have hb : okB (fromHel (hel0 c.v) (decide (c.t = 2))).1.v := fromHel_okB hh.2.2.2.2.2.1 _
      rw [sameCh_eq hb h1]
      exact ⟨⟨hel0 c.v, _, rfl, hh⟩, fun e => err_leaf (ref_e4 ho (.inl e)), fun e => ⟨⟨(fromHel (hel0 c.v) (decide (c.t = 2))).1, c, rfl⟩, fun e2 => err_leaf (ref_e4 ho (.inr e2)), fun e2 => ok_leaf0 (ref_ok ho c1 c2 c3 e e2)⟩⟩
set_option maxRecDepth 100000 in
theorem ok33 : FnIs Try.prog 33 toHelC := by
  refine fnIs (C := (ctrs c16)) (by kernel_rfl) c16_ok Try.func33 (code := code33) (by kernel_rfl) (by kernel_rfl) ?_
  rintro a ⟨c, rfl, h1, h2⟩
  exact ⟨anns [] [2, 9, 13], kcast (vc33 c h1 h2) (by kernel_rfl)⟩

noncomputable def code32 : Code := match Try.f32.body with | some c => c | none => .skip
set_option maxHeartbeats 4000000 in
theorem vc32 : ∀ (h g : HelR), True ∧ sw (decide (h.tag = g.tag)) (SV.p (2 : Nat) (1 : Nat) = SV.p (2 : Nat) (1 : Nat)) True ∧ sw (decide (h.tag = g.tag)) ([decide (h.tag = g.tag)] = [decide (h.tag = g.tag)] ∧
  SV.c (Value.int IntKind.u32 h.win) = SV.c (Value.int IntKind.u32 h.win)) True ∧ sw (decide (h.tag = g.tag)) (SV.p (3 : Nat) (1 : Nat) = SV.p (3 : Nat) (1 : Nat)) True ∧
  sw (decide (h.tag = g.tag)) ([decide (h.tag = g.tag)] = [decide (h.tag = g.tag)] ∧ SV.c (Value.int IntKind.u32 g.win) = SV.c (Value.int IntKind.u32 g.win)) True ∧
  sw (decide (h.tag = g.tag)) ([decide (h.tag = g.tag)] = [decide (h.tag = g.tag)] ∧ [decide (h.tag = g.tag)] = [decide (h.tag = g.tag)] ∧ True ∧ SV.c (Value.bool (decide (h.win = g.win))) = SV.c (Value.bool (decide (h.win = g.win)))) True ∧
  [decide (h.tag = g.tag)] = [decide (h.tag = g.tag)] ∧ sw (decide (h.tag = g.tag) && decide (h.win = g.win)) (SV.p (2 : Nat) (2 : Nat) = SV.p (2 : Nat) (2 : Nat)) True ∧
  sw (decide (h.tag = g.tag) && decide (h.win = g.win)) ([decide (h.tag = g.tag) && decide (h.win = g.win)] = [decide (h.tag = g.tag) && decide (h.win = g.win)] ∧
  SV.c (Value.int IntKind.u16 h.out) = SV.c (Value.int IntKind.u16 h.out)) True ∧ sw (decide (h.tag = g.tag) && decide (h.win = g.win)) (SV.p (3 : Nat) (2 : Nat) = SV.p (3 : Nat) (2 : Nat)) True ∧
  sw (decide (h.tag = g.tag) && decide (h.win = g.win)) ([decide (h.tag = g.tag) && decide (h.win = g.win)] = [decide (h.tag = g.tag) && decide (h.win = g.win)] ∧
  SV.c (Value.int IntKind.u16 g.out) = SV.c (Value.int IntKind.u16 g.out)) True ∧ sw (decide (h.tag = g.tag) && decide (h.win = g.win)) ([decide (h.tag = g.tag) && decide (h.win = g.win)] = [decide (h.tag = g.tag) && decide (h.win = g.win)] ∧
  [decide (h.tag = g.tag) && decide (h.win = g.win)] = [decide (h.tag = g.tag) && decide (h.win = g.win)] ∧ True ∧ SV.c (Value.bool (decide (h.out = g.out))) = SV.c (Value.bool (decide (h.out = g.out)))) True ∧
  [decide (h.tag = g.tag) && decide (h.win = g.win)] = [decide (h.tag = g.tag) && decide (h.win = g.win)] ∧ sw (decide (h.tag = g.tag) && decide (h.win = g.win) && decide (h.out = g.out)) (SV.p (2 : Nat) (3 : Nat) = SV.p (2 : Nat) (3 : Nat)) True ∧
  sw (decide (h.tag = g.tag) && decide (h.win = g.win) && decide (h.out = g.out)) ([decide (h.tag = g.tag) && decide (h.win = g.win) && decide (h.out = g.out)] = [decide (h.tag = g.tag) && decide (h.win = g.win) && decide (h.out = g.out)] ∧
  SV.c (Value.int IntKind.u16 h.inn) = SV.c (Value.int IntKind.u16 h.inn)) True ∧ sw (decide (h.tag = g.tag) && decide (h.win = g.win) && decide (h.out = g.out)) (SV.p (3 : Nat) (3 : Nat) = SV.p (3 : Nat) (3 : Nat)) True ∧
  sw (decide (h.tag = g.tag) && decide (h.win = g.win) && decide (h.out = g.out)) ([decide (h.tag = g.tag) && decide (h.win = g.win) && decide (h.out = g.out)] = [decide (h.tag = g.tag) && decide (h.win = g.win) && decide (h.out = g.out)] ∧
  SV.c (Value.int IntKind.u16 g.inn) = SV.c (Value.int IntKind.u16 g.inn)) True ∧ sw (decide (h.tag = g.tag) && decide (h.win = g.win) && decide (h.out = g.out)) ([decide (h.tag = g.tag) && decide (h.win = g.win) && decide (h.out = g.out)] = [decide (h.tag = g.tag) && decide (h.win = g.win) && decide (h.out = g.out)] ∧
  [decide (h.tag = g.tag) && decide (h.win = g.win) && decide (h.out = g.out)] = [decide (h.tag = g.tag) && decide (h.win = g.win) && decide (h.out = g.out)] ∧
  True ∧ SV.c (Value.bool (decide (h.inn = g.inn))) = SV.c (Value.bool (decide (h.inn = g.inn)))) True ∧ [decide (h.tag = g.tag) && decide (h.win = g.win) && decide (h.out = g.out)] = [decide (h.tag = g.tag) && decide (h.win = g.win) && decide (h.out = g.out)] ∧
  sw (decide (h.tag = g.tag) && decide (h.win = g.win) && decide (h.out = g.out) && decide (h.inn = g.inn)) (SV.p (2 : Nat) (4 : Nat) = SV.p (2 : Nat) (4 : Nat)) True ∧
  sw (decide (h.tag = g.tag) && decide (h.win = g.win) && decide (h.out = g.out) && decide (h.inn = g.inn)) ([decide (h.tag = g.tag) && decide (h.win = g.win) && decide (h.out = g.out) && decide (h.inn = g.inn)] = [decide (h.tag = g.tag) && decide (h.win = g.win) && decide (h.out = g.out) && decide (h.inn = g.inn)] ∧
  SV.c (Value.int IntKind.u32 h.tsn) = SV.c (Value.int IntKind.u32 h.tsn)) True ∧ sw (decide (h.tag = g.tag) && decide (h.win = g.win) && decide (h.out = g.out) && decide (h.inn = g.inn)) (SV.p (3 : Nat) (4 : Nat) = SV.p (3 : Nat) (4 : Nat)) True ∧
  sw (decide (h.tag = g.tag) && decide (h.win = g.win) && decide (h.out = g.out) && decide (h.inn = g.inn)) ([decide (h.tag = g.tag) && decide (h.win = g.win) && decide (h.out = g.out) && decide (h.inn = g.inn)] = [decide (h.tag = g.tag) && decide (h.win = g.win) && decide (h.out = g.out) && decide (h.inn = g.inn)] ∧
  SV.c (Value.int IntKind.u32 g.tsn) = SV.c (Value.int IntKind.u32 g.tsn)) True ∧ sw (decide (h.tag = g.tag) && decide (h.win = g.win) && decide (h.out = g.out) && decide (h.inn = g.inn)) ([decide (h.tag = g.tag) && decide (h.win = g.win) && decide (h.out = g.out) && decide (h.inn = g.inn)] = [decide (h.tag = g.tag) && decide (h.win = g.win) && decide (h.out = g.out) && decide (h.inn = g.inn)] ∧
  [decide (h.tag = g.tag) && decide (h.win = g.win) && decide (h.out = g.out) && decide (h.inn = g.inn)] = [decide (h.tag = g.tag) && decide (h.win = g.win) && decide (h.out = g.out) && decide (h.inn = g.inn)] ∧
  True ∧ SV.c (Value.bool (decide (h.tsn = g.tsn))) = SV.c (Value.bool (decide (h.tsn = g.tsn)))) True ∧ [decide (h.tag = g.tag) && decide (h.win = g.win) && decide (h.out = g.out) && decide (h.inn = g.inn)] = [decide (h.tag = g.tag) && decide (h.win = g.win) && decide (h.out = g.out) && decide (h.inn = g.inn)] ∧
  sw (decide (h.tag = g.tag) && decide (h.win = g.win) && decide (h.out = g.out) && decide (h.inn = g.inn) && decide (h.tsn = g.tsn)) (SV.p (2 : Nat) (5 : Nat) = SV.p (2 : Nat) (5 : Nat)) True ∧
  sw (decide (h.tag = g.tag) && decide (h.win = g.win) && decide (h.out = g.out) && decide (h.inn = g.inn) && decide (h.tsn = g.tsn)) ([decide (h.tag = g.tag) && decide (h.win = g.win) && decide (h.out = g.out) && decide (h.inn = g.inn) && decide (h.tsn = g.tsn)] = [decide (h.tag = g.tag) && decide (h.win = g.win) && decide (h.out = g.out) && decide (h.inn = g.inn) && decide (h.tsn = g.tsn)] ∧
  SV.a (0 : Nat) = SV.a (0 : Nat)) True ∧ sw (decide (h.tag = g.tag) && decide (h.win = g.win) && decide (h.out = g.out) && decide (h.inn = g.inn) && decide (h.tsn = g.tsn)) ([decide (h.tag = g.tag) && decide (h.win = g.win) && decide (h.out = g.out) && decide (h.inn = g.inn) && decide (h.tsn = g.tsn)] = [decide (h.tag = g.tag) && decide (h.win = g.win) && decide (h.out = g.out) && decide (h.inn = g.inn) && decide (h.tsn = g.tsn)] ∧
  SV.c (Value.string (bstr h.cookie)) = SV.c (Value.string (bstr h.cookie))) True ∧ sw (decide (h.tag = g.tag) && decide (h.win = g.win) && decide (h.out = g.out) && decide (h.inn = g.inn) && decide (h.tsn = g.tsn)) (SV.p (3 : Nat) (5 : Nat) = SV.p (3 : Nat) (5 : Nat)) True ∧
  sw (decide (h.tag = g.tag) && decide (h.win = g.win) && decide (h.out = g.out) && decide (h.inn = g.inn) && decide (h.tsn = g.tsn)) ([decide (h.tag = g.tag) && decide (h.win = g.win) && decide (h.out = g.out) && decide (h.inn = g.inn) && decide (h.tsn = g.tsn)] = [decide (h.tag = g.tag) && decide (h.win = g.win) && decide (h.out = g.out) && decide (h.inn = g.inn) && decide (h.tsn = g.tsn)] ∧
  SV.a (1 : Nat) = SV.a (1 : Nat)) True ∧ sw (decide (h.tag = g.tag) && decide (h.win = g.win) && decide (h.out = g.out) && decide (h.inn = g.inn) && decide (h.tsn = g.tsn)) ([decide (h.tag = g.tag) && decide (h.win = g.win) && decide (h.out = g.out) && decide (h.inn = g.inn) && decide (h.tsn = g.tsn)] = [decide (h.tag = g.tag) && decide (h.win = g.win) && decide (h.out = g.out) && decide (h.inn = g.inn) && decide (h.tsn = g.tsn)] ∧
  SV.c (Value.string (bstr g.cookie)) = SV.c (Value.string (bstr g.cookie))) True ∧ sw (decide (h.tag = g.tag) && decide (h.win = g.win) && decide (h.out = g.out) && decide (h.inn = g.inn) && decide (h.tsn = g.tsn)) ([decide (h.tag = g.tag) && decide (h.win = g.win) && decide (h.out = g.out) && decide (h.inn = g.inn) && decide (h.tsn = g.tsn)] = [decide (h.tag = g.tag) && decide (h.win = g.win) && decide (h.out = g.out) && decide (h.inn = g.inn) && decide (h.tsn = g.tsn)] ∧
  [decide (h.tag = g.tag) && decide (h.win = g.win) && decide (h.out = g.out) && decide (h.inn = g.inn) && decide (h.tsn = g.tsn)] = [decide (h.tag = g.tag) && decide (h.win = g.win) && decide (h.out = g.out) && decide (h.inn = g.inn) && decide (h.tsn = g.tsn)] ∧
  True ∧ SV.c (Value.bool (decide ((bstr h.cookie).data.toList = (bstr g.cookie).data.toList))) = SV.c (Value.bool (decide ((bstr h.cookie).data.toList = (bstr g.cookie).data.toList)))) True ∧
  [decide (h.tag = g.tag) && decide (h.win = g.win) && decide (h.out = g.out) && decide (h.inn = g.inn) && decide (h.tsn = g.tsn)] = [decide (h.tag = g.tag) && decide (h.win = g.win) && decide (h.out = g.out) && decide (h.inn = g.inn) && decide (h.tsn = g.tsn)] ∧
  (decide (h.tag = g.tag) && decide (h.win = g.win) && decide (h.out = g.out) && decide (h.inn = g.inn) && decide (h.tsn = g.tsn) && decide ((bstr h.cookie).data.toList = (bstr g.cookie).data.toList)) = sameHel (HelR.mk h.tag h.win h.out h.inn h.tsn h.cookie) (HelR.mk g.tag g.win g.out g.inn g.tsn g.cookie) ∧
  (true && true) = true := by
  simp only [↓sw_iff, ↓Bool.and_eq_true, ↓Bool.and_eq_false_iff, ↓decide_eq_true_eq, ↓decide_eq_false_iff_not, true_and, and_true, implies_true, bytes_dec, hel_eta]
  intro h g
  rfl
set_option maxRecDepth 100000 in
theorem ok32 : FnIs Try.prog 32 sameHelC := by
  refine fnIs (C := (ctrs c0)) (by kernel_rfl) c0_ok Try.func32 (code := code32) (by kernel_rfl) (by kernel_rfl) ?_
  rintro a ⟨h, g, rfl⟩
  exact ⟨anns [], kcast (vc32 h g) (by kernel_rfl)⟩

end Go.ZR

/- A list of chunks, however it was laid, copied; the statement of hellos. -/
set_option maxRecDepth 100000
namespace Go.ZR
open Go.Z Go.ZM Go.Proofs
def ownWC : Ctr := rC 1 (fun a => ∃ l A, a = [.d A] ∧ asCh A l ∧ okChs l) fun a => [.own 45 (chsD (chsOf (dO (at_ a 0))))]
theorem ok15w : FnIs Try.prog 15 ownWC := by
  refine ok15.weak fun a hp => ?_
  obtain ⟨l, A, rfl, ⟨r1, r2⟩, h⟩ := hp
  refine ⟨[.d (chsD l)], ⟨l, rfl, h⟩, toL_cons (toO_d r2) (toL_refl _), ?_, rfl⟩
  show [O.own 45 (chsD (chsOf (chsD l)))] = [O.own 45 (chsD (chsOf A))]
  rw [r1, show chsOf (chsD l) = l from chsOf_chs l]
theorem chsOf_one (c : ChR) : chsOf (.recs 3 1 fun i j => [D.v (.int .u8 c.t), D.v (.int .u8 c.f), D.ints .u8 c.v].getD (i * 3 + j) (.v undef)) = [c] := rfl
theorem asCh_one (c : ChR) : asCh (.recs 3 1 fun i j => [D.v (.int .u8 c.t), D.v (.int .u8 c.f), D.ints .u8 c.v].getD (i * 3 + j) (.v undef)) [c] :=
  ⟨rfl, reads_recs fun i hi j hj => by
    obtain rfl : i = 0 := by omega
    rw [Nat.zero_mul, Nat.zero_add]
    exact ch_cell (c := c) (l := [c]) (i := 0) rfl hj⟩
def chOk (c : ChR) : Prop := ((0 ≤ c.t ∧ c.t ≤ 255) ∧ (0 ≤ c.f ∧ c.f ≤ 255) ∧ okB c.v) ∧ sm c.v.length
def helLawC : Ctr := trueC 3 fun a => ∃ h b c, a = [helO h, bO b, chO c] ∧ okHel h ∧ chOk c
def c17 : List (Nat × Ctr) := [(17, ansC), (29, fromHelC), (30, fromHelC), (25, sameC), (31, toHelC), (33, toHelC), (32, sameHelC), (15, ownWC)]
theorem c17_ok : COk Try.prog (ctrs c17) := cok_cons ok17 (cok_cons ok29 (cok_cons ok30 (cok_cons ok25 (cok_cons ok31 (cok_cons ok33 (cok_cons ok32 (cok_cons ok15w cok_nil)))))))
end Go.ZR

/- A piece of a message: plain functions, laws, contracts. -/
set_option maxRecDepth 100000
namespace Go.ZM
open Go.Z Go.ZR

structure PieR where
  tsn : Int
  str : Int
  seq : Int
  b : Bool
  e : Bool
  u : Bool
  bytes : List Int
def noPie : PieR := ⟨0, 0, 0, false, false, false, []⟩
def okPie (p : PieR) : Prop := (0 ≤ p.tsn ∧ p.tsn ≤ 4294967295) ∧ (0 ≤ p.str ∧ p.str ≤ 65535) ∧ (0 ≤ p.seq ∧ p.seq ≤ 65535) ∧ okB p.bytes ∧ sm p.bytes.length
def flagF (b : Bool) (n : Int) : Int := if b = true then n else 0
def pieF (p : PieR) : Int := flagF p.u 4 + flagF p.b 2 + flagF p.e 1
def pieH (p : PieR) : List Int := be p.tsn 4 ++ be p.str 2 ++ be p.seq 2
def pieB (p : PieR) : List Int := pieH p ++ be 46 4 ++ p.bytes
def fromPie (p : PieR) : ChR × Int :=
  if p.bytes.length = 0 ∨ 8 ≤ p.str then (noCh, 2) else if 256 < p.bytes.length then (noCh, 4) else (⟨0, pieF p, pieB p⟩, 0)
def bitF (f m : Int) : Bool := decide (0 < bits .and .u8 f m)
def pie1 (v : List Int) (f : Int) (X : List Int) : PieR := ⟨numAt v 0 4, numAt v 4 2, numAt v 6 2, bitF f 2, bitF f 1, bitF f 4, X⟩
/-- As the program reads it. -/
def pieOf (c : ChR) : PieR := pie1 c.v c.f (if 12 ≤ c.v.length then c.v.drop 12 else [])
def toPie (c : ChR) : PieR × Int := if (fromPie (pieOf c)).2 ≠ 0 ∨ sameB (fromPie (pieOf c)).1 c = false then (noPie, 2) else (pieOf c, 0)
def samePie (p q : PieR) : Bool := decide (p.tsn = q.tsn) && decide (p.str = q.str) && decide (p.seq = q.seq) && (p.b == q.b) && (p.e == q.e) && (p.u == q.u) && decide (bstr p.bytes = bstr q.bytes)
/-- As the document reads it. -/
def pieRef (c : ChR) : PieR := ⟨numAt c.v 0 4, numAt c.v 4 2, numAt c.v 6 2, decide (c.f / 2 % 2 = 1), decide (c.f % 2 = 1), decide (4 ≤ c.f), c.v.drop 12⟩
def badPie (c : ChR) : Prop := c.t ≠ 0 ∨ 7 < c.f ∨ c.v.length < 13 ∨ 268 < c.v.length ∨ 8 ≤ numAt c.v 4 2 ∨ numAt c.v 8 4 ≠ 46
instance (c : ChR) : Decidable (badPie c) := by unfold badPie; infer_instance
def toPieRef (c : ChR) : PieR × Int := if badPie c then (noPie, 2) else (pieRef c, 0)

theorem pieH_len (p : PieR) : (pieH p).length = 8 := by simp [pieH, be_len]
theorem pieB_len (p : PieR) : (pieB p).length = 12 + p.bytes.length := by simp [pieB, pieH_len, be_len]; omega
theorem flag_or (p : PieR) : bits .or .u8 (bits .or .u8 (flagF p.u 4) (flagF p.b 2)) (flagF p.e 1) = pieF p := by
  unfold pieF
  cases p.u <;> cases p.b <;> cases p.e <;> rfl
theorem bit_pieF (p : PieR) : bitF (pieF p) 2 = p.b ∧ bitF (pieF p) 1 = p.e ∧ bitF (pieF p) 4 = p.u := by
  unfold pieF
  cases p.u <;> cases p.b <;> cases p.e <;> decide +kernel
theorem bit_all : ∀ n : Fin 256, (bitF (n : Int) 2 = decide ((n : Int) / 2 % 2 = 1) ∧ bitF (n : Int) 1 = decide ((n : Int) % 2 = 1)) ∧ (((n : Int) ≤ 7 → bitF (n : Int) 4 = decide (4 ≤ (n : Int))) ∧ ((n : Int) ≤ 7 ↔ flagF (bitF n 4) 4 + flagF (bitF n 2) 2 + flagF (bitF n 1) 1 = (n : Int))) := by decide +kernel
theorem bit_f {f : Int} (h0 : 0 ≤ f) (h1 : f ≤ 255) : (bitF f 2 = decide (f / 2 % 2 = 1) ∧ bitF f 1 = decide (f % 2 = 1)) ∧ (f ≤ 7 → bitF f 4 = decide (4 ≤ f)) ∧ (f ≤ 7 ↔ flagF (bitF f 4) 4 + flagF (bitF f 2) 2 + flagF (bitF f 1) 1 = f) := by
  have := bit_all ⟨f.toNat, by omega⟩
  simp only [show ((f.toNat : Nat) : Int) = f by omega] at this
  exact this
theorem at_take {v : List Int} (hv : okB v) {i k : Nat} (h : i + k ≤ v.length) : be (numAt v (i : Int) k) k = (v.drop i).take k := by
  unfold numAt getF
  rw [part_get (by omega) (by omega) (by omega) (by omega)]
  simp only [Int.toNat_natCast]
  have hl : ((v.drop i).take k).length = k := by rw [List.length_take, List.length_drop]; omega
  have := be_val (okB_take (okB_drop hv i) k)
  rw [hl] at this
  exact this
theorem take_drop_add (v : List Int) (i k : Nat) : (v.drop i).take k ++ v.drop (i + k) = v.drop i := by
  rw [← List.drop_drop]; exact List.take_append_drop k _
theorem pie_split {v : List Int} (hv : okB v) (h : 12 ≤ v.length) : be (numAt v 0 4) 4 ++ be (numAt v 4 2) 2 ++ be (numAt v 6 2) 2 ++ be (numAt v 8 4) 4 ++ v.drop 12 = v := by
  rw [show be (numAt v 0 4) 4 = _ from at_take (i := 0) hv (by omega), show be (numAt v 4 2) 2 = _ from at_take (i := 4) hv (by omega), show be (numAt v 6 2) 2 = _ from at_take (i := 6) hv (by omega), show be (numAt v 8 4) 4 = _ from at_take (i := 8) hv (by omega)]
  rw [List.append_assoc, take_drop_add, List.append_assoc, take_drop_add, List.append_assoc, take_drop_add, take_drop_add, List.drop_zero]
theorem pie_nums {p : PieR} (ok : okPie p) : numAt (pieB p) 0 4 = p.tsn ∧ numAt (pieB p) 4 2 = p.str ∧ numAt (pieB p) 6 2 = p.seq ∧ numAt (pieB p) 8 4 = 46 ∧ (pieB p).drop 12 = p.bytes := by
  obtain ⟨h1, h2, h3, _⟩ := ok
  have p4 : (256 : Int) ^ 4 = 4294967296 := rfl
  have p2 : (256 : Int) ^ 2 = 65536 := rfl
  refine ⟨?_, ?_, ?_, ?_, ?_⟩
  · have := num_in (v := pieB p) (a := []) (n := p.tsn) (k := 4) (r := be p.str 2 ++ be p.seq 2 ++ be 46 4 ++ p.bytes) 0 (by simp [pieB, pieH]) rfl
    rw [p4] at this; exact this.trans (by omega)
  · have := num_in (v := pieB p) (a := be p.tsn 4) (n := p.str) (k := 2) (r := be p.seq 2 ++ be 46 4 ++ p.bytes) 4 (by simp [pieB, pieH]) (by simp [be_len])
    rw [p2] at this; exact this.trans (by omega)
  · have := num_in (v := pieB p) (a := be p.tsn 4 ++ be p.str 2) (n := p.seq) (k := 2) (r := be 46 4 ++ p.bytes) 6 (by simp [pieB, pieH]) (by simp [be_len])
    rw [p2] at this; exact this.trans (by omega)
  · exact num_in (v := pieB p) (a := pieH p) (n := 46) (k := 4) (r := p.bytes) 8 (by simp [pieB]) (pieH_len p)
  · have : pieB p = (pieH p ++ be 46 4) ++ p.bytes := by simp [pieB]
    rw [this, List.drop_append_of_le_length (by simp [pieH_len, be_len]), List.drop_of_length_le (by simp [pieH_len, be_len]), List.nil_append]
theorem fromPie_ok {p : PieR} (e : (fromPie p).2 = 0) : (p.bytes.length ≠ 0 ∧ p.str < 8 ∧ p.bytes.length ≤ 256) ∧ (fromPie p).1 = ⟨0, pieF p, pieB p⟩ := by
  unfold fromPie at e ⊢
  split at e
  · cases e
  rename_i h1
  split at e
  · cases e
  rename_i h2
  rw [if_neg h1, if_neg h2]
  rw [not_or] at h1
  exact ⟨⟨h1.1, by omega, by omega⟩, rfl⟩
theorem fromPie_go {p : PieR} (h1 : p.bytes.length ≠ 0) (h2 : p.str < 8) (h3 : p.bytes.length ≤ 256) : fromPie p = (⟨0, pieF p, pieB p⟩, 0) := by
  unfold fromPie
  rw [if_neg (by omega), if_neg (by omega)]
theorem toPie_made {p : PieR} (ok : okPie p) (e : (fromPie p).2 = 0) : toPie (fromPie p).1 = (p, 0) := by
  obtain ⟨h, h1⟩ := fromPie_ok e
  obtain ⟨n1, n2, n3, n4, n5⟩ := pie_nums ok
  obtain ⟨b1, b2, b3⟩ := bit_pieF p
  have hp : pieOf (fromPie p).1 = p := by
    rw [h1]
    unfold pieOf pie1
    simp only
    rw [n1, n2, n3, n5, b1, b2, b3, if_pos (by rw [pieB_len]; omega)]
  unfold toPie
  rw [hp, e, sameB_eq.2 rfl]; simp
theorem toPie_eq {c : ChR} (hv : okB c.v) (hf : 0 ≤ c.f ∧ c.f ≤ 255) : toPie c = toPieRef c := by
  obtain ⟨⟨f1, f2⟩, f3, f4⟩ := bit_f hf.1 hf.2
  by_cases hb : badPie c
  · unfold toPieRef
    rw [if_pos hb]
    unfold toPie
    by_cases e : (fromPie (pieOf c)).2 = 0
    · have hs : sameB (fromPie (pieOf c)).1 c = false := by
        cases hs : sameB (fromPie (pieOf c)).1 c with
        | false => rfl
        | true =>
          exfalso
          obtain ⟨⟨h1, h2, h3⟩, h4⟩ := fromPie_ok e
          have hc := sameB_eq.1 hs
          rw [h4] at hc
          have hl : 12 ≤ c.v.length := by
            rcases Nat.lt_or_ge c.v.length 12 with h | h
            · exfalso
              apply h1
              unfold pieOf pie1
              simp only
              rw [if_neg (by omega)]; rfl
            · exact h
          have hX : (pieOf c).bytes = c.v.drop 12 := by unfold pieOf pie1; simp only; rw [if_pos hl]
          rw [hX, List.length_drop] at h1 h3
          have ht : c.t = 0 := by rw [← hc]
          have hff : pieF (pieOf c) = c.f := by rw [← congrArg ChR.f hc]
          have hvv : pieB (pieOf c) = c.v := by rw [← congrArg ChR.v hc]
          have h46 : numAt c.v 8 4 = 46 := by
            rw [← hvv]
            exact num_in (v := pieB (pieOf c)) (a := pieH (pieOf c)) (n := 46) (k := 4) (r := (pieOf c).bytes) 8 (by simp [pieB]) (pieH_len _)
          have h7 : c.f ≤ 7 := f4.2 hff
          have h8 : numAt c.v 4 2 < 8 := h2
          unfold badPie at hb
          omega
      rw [if_pos (.inr hs)]
    · rw [if_pos (.inl e)]
  · unfold toPieRef
    rw [if_neg hb]
    unfold badPie at hb
    have hl : 12 ≤ c.v.length := by omega
    have hX : pieOf c = pieRef c := by
      unfold pieOf pie1 pieRef
      rw [f1, f2, f3 (by omega), if_pos hl]
    have hP : pieB (pieRef c) = c.v := by
      have := pie_split hv hl
      rw [show numAt c.v 8 4 = 46 by omega] at this
      exact this
    have hF : pieF (pieRef c) = c.f := by rw [← hX]; exact f4.1 (by omega)
    have hbl : (pieRef c).bytes.length = c.v.length - 12 := List.length_drop
    have hg : fromPie (pieRef c) = (c, 0) := by
      rw [fromPie_go (by omega) (by show numAt c.v 4 2 < 8; omega) (by omega), hP, hF]
      have ht : c.t = 0 := by omega
      cases c; simp only at ht ⊢; rw [ht]
    unfold toPie
    rw [hX, hg, sameB_eq.2 rfl]; simp
theorem samePie_refl (h : PieR) : samePie h h = true := by simp [samePie]
theorem fromPie_len (p : PieR) : (fromPie p).1.v.length ≤ 300 := by
  unfold fromPie
  split
  · exact Nat.zero_le _
  split
  · exact Nat.zero_le _
  · simp only; rw [pieB_len]; omega
theorem fromPie_okB {p : PieR} (hc : okB p.bytes) : okB (fromPie p).1.v := by
  unfold fromPie
  split
  · exact fun x hx => by cases hx
  split
  · exact fun x hx => by cases hx
  exact okB_append (okB_append (okB_append (okB_append (be_ok _ _) (be_ok _ _)) (be_ok _ _)) (be_ok _ _)) hc
theorem pieF_rng (p : PieR) : 0 ≤ pieF p ∧ pieF p ≤ 7 := by
  unfold pieF; cases p.u <;> cases p.b <;> cases p.e <;> decide
theorem fromPie_f (p : PieR) : 0 ≤ (fromPie p).1.f ∧ (fromPie p).1.f ≤ 255 := by
  unfold fromPie
  split
  · exact ⟨by decide, by decide⟩
  split
  · exact ⟨by decide, by decide⟩
  · have := pieF_rng p; simp only; omega
theorem pie1_ok {v X : List Int} {f : Int} (hv : okB v) (hX : okB X) (hs : sm X.length) : okPie (pie1 v f X) := by
  have a1 := num_rng hv 0 (k := 4)
  have a2 := num_rng hv 4 (k := 2)
  have a3 := num_rng hv 6 (k := 2)
  have p4 : (256 : Int) ^ 4 = 4294967296 := rfl
  have p2 : (256 : Int) ^ 2 = 65536 := rfl
  rw [p4] at a1
  rw [p2] at a2 a3
  refine ⟨?_, ?_, ?_, hX, hs⟩ <;> simp only [pie1] <;> omega
end Go.ZM
namespace Go.ZR
open Go.Z Go.ZM Go.Proofs
def pieL (p : PieR) (ck : O) : O := .agg [iO .u32 p.tsn, iO .u16 p.str, iO .u16 p.seq, bO p.b, bO p.e, bO p.u, ck]
def pieO (p : PieR) : O := pieL p (bsO p.bytes)
def pieN (p : PieR) : O := pieL p (bsN p.bytes)
def pieOfO : O → PieR
  | .agg [a, b, c, d, e, f, g] => ⟨vi (dO a), vi (dO b), vi (dO c), vb (dO d), vb (dO e), vb (dO f), vl (dO g)⟩
  | _ => noPie
def flagC : Ctr := nC 2 true (fun a => ∃ b n, a = [bO b, iO .u8 n]) fun a => [iO .u8 (flagF (vb (dO (at_ a 0))) (vi (dO (at_ a 1))))]
def fromPieC : Ctr := nC 1 false (fun a => ∃ p, a = [pieO p] ∧ okPie p) fun a => [chN (fromPie (pieOfO (at_ a 0))).1, iO .i64 (fromPie (pieOfO (at_ a 0))).2]
def toPieC : Ctr := nC 1 false (fun a => ∃ c, a = [chO c] ∧ okB c.v ∧ sm c.v.length ∧ 0 ≤ c.f ∧ c.f ≤ 255) fun a => [pieN (toPie (chOf (at_ a 0))).1, iO .i64 (toPie (chOf (at_ a 0))).2]
def samePieC : Ctr := nC 2 true (fun a => ∃ h g, a = [pieO h, pieO g]) fun a => [bO (samePie (pieOfO (at_ a 0)) (pieOfO (at_ a 1)))]
def c18 : List (Nat × Ctr) := [(45, putC), (52, flagC)]
def c19 : List (Nat × Ctr) := [(53, rdC), (54, cloneC), (23, fromPieC), (55, sameBC)]
end Go.ZR
