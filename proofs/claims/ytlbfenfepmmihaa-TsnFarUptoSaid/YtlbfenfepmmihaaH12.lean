/- Part 12 of what the closing text rests on. -/
import Derived.Test.YtlbfenfepmmihaaH11
import Derived.Test.YtlbfenfepmmihaaRows
/- Bytes and numbers: contracts. -/
namespace Go.ZR
open Go.Z
def vi : D → Int
  | .v (.int _ n) => n
  | _ => 0
def vb : D → Bool
  | .v (.bool b) => b
  | _ => false
def vl : D → List Int
  | .ints _ l => l
  | _ => []
end Go.ZR
namespace Go.ZM
open Go.Z Go.ZR
def sm (n : Nat) : Prop := n ≤ 1099511627776
def okI (n : Int) : Prop := -2199023255552 ≤ n ∧ n ≤ 2199023255552
/-- Some bytes; or why there are none. -/
def partF (b : List Int) (i n : Int) : List Int × Int :=
  if i < 0 ∨ n < 0 then ([], 1) else if (b.length : Int) < i ∨ (b.length : Int) - i < n then ([], 3) else ((b.drop i.toNat).take n.toNat, 0)
def getF (b : List Int) (i : Int) (k : Nat) : Int × Int := (valF (partF b i k).1, (partF b i k).2)
theorem part_ok {b : List Int} (h : okB b) (i n : Int) : okB (partF b i n).1 := by
  unfold partF
  split
  · exact fun x hx => by cases hx
  split
  · exact fun x hx => by cases hx
  · exact okB_take (okB_drop h _) _
theorem part_len {b : List Int} {i : Int} {k : Nat} : (partF b i k).1.length ≤ k := by
  unfold partF
  split
  · exact Nat.zero_le _
  split
  · exact Nat.zero_le _
  · rw [Int.toNat_natCast]; exact List.length_take_le _ _
end Go.ZM
namespace Go.ZR
open Go.Z Go.ZM
def iO (k : IntKind) (n : Int) : O := .d (.v (.int k n))
def bO (b : Bool) : O := .d (.v (.bool b))
def sO (s : ByteArray) : O := .d (.v (.string s))
def bsO (l : List Int) : O := .d (.ints .u8 l)
def bsN (l : List Int) : O := .own 5 (.ints .u8 l)
def dO : O → D
  | .d x => x
  | _ => .v (.bool false)
def at_ (a : List O) (i : Nat) : O := a.getD i .any
/-- A contract: what is read is lent; results that are new. -/
def nC (n : Nat) (quiet : Bool) (pre : List O → Prop) (res : List O → List O) : Ctr where
  own := []
  pre := pre
  res := res
  upd := fun _ => List.replicate n .any
  ro := false
  quiet := quiet
def cloneC : Ctr := nC 1 false (fun a => ∃ l, a = [bsO l] ∧ sm l.length) fun a => [bsN (vl (dO (at_ a 0)))]
def padC : Ctr := nC 1 true (fun a => ∃ n : Nat, a = [iO .i64 n] ∧ n ≤ 2199023255552) fun a => [iO .i64 (padN (vi (dO (at_ a 0))).toNat : Nat)]
def paddedC : Ctr := nC 1 false (fun a => ∃ l, a = [bsO l] ∧ sm l.length) fun a => [bsN (padF (vl (dO (at_ a 0))))]
def putC : Ctr := nC 3 false (fun a => ∃ (b : List Int) (n : Int) (k : Nat), a = [bsO b, iO .u64 n, iO .i64 k] ∧ sm b.length ∧ 1 ≤ k ∧ k ≤ 8) fun a =>
  [bsN (vl (dO (at_ a 0)) ++ be (vi (dO (at_ a 1))) (vi (dO (at_ a 2))).toNat)]
def partA (a : List O) : List Int × Int := partF (vl (dO (at_ a 0))) (vi (dO (at_ a 1))) (vi (dO (at_ a 2)))
def partC : Ctr := nC 3 false (fun a => ∃ (b : List Int) (i n : Int), a = [bsO b, iO .i64 i, iO .i64 n] ∧ sm b.length ∧ okI i ∧ okI n) fun a => [bsN (partA a).1, iO .i64 (partA a).2]
def getA (a : List O) : Int × Int := getF (vl (dO (at_ a 0))) (vi (dO (at_ a 1))) (vi (dO (at_ a 2))).toNat
def getC (m : Nat) : Ctr := nC 3 false (fun a => ∃ (b : List Int) (i : Int) (k : Nat), a = [bsO b, iO .i64 i, iO .i64 k] ∧ sm b.length ∧ okB b ∧ okI i ∧ 1 ≤ k ∧ k ≤ m) fun a => [iO .u64 (getA a).1, iO .i64 (getA a).2]
def numC : Ctr := nC 3 false (fun a => ∃ (b : List Int) (i : Int) (k : Nat), a = [bsO b, iO .i64 i, iO .i64 k] ∧ sm b.length ∧ okB b ∧ okI i ∧ 1 ≤ k ∧ k ≤ 7) fun a => [iO .i64 (getA a).1]

def putAnn (b : List Int) (n : Int) (k : Nat) : LoopAnn where
  γ := Nat
  pre := fun j => j ≤ k
  μ := fun j => k - j
  items := fun j => [(19, .c (iO .i64 (j : Int))), (7, .c (bsN (b ++ (be n k).take j)))]
def putAnn' (b : List Int) (n : Int) (k : Nat) : LoopAnn where
  γ := Nat
  pre := fun j => j ≤ k
  μ := fun j => k - j
  items := fun j => [(8, .c (iO .i64 ((k : Int) - 1 - (j : Int)))), (7, .c (bsN (b ++ (be n k).take j)))]
def zAnn (b : List Int) : LoopAnn where
  γ := Nat
  pre := fun j => j ≤ padN b.length
  μ := fun j => padN b.length - j
  items := fun j => [(3, .c (bsN (b ++ List.replicate j 0)))]
def valAnn (s t : Nat) (p : List Int) : LoopAnn where
  γ := Nat
  pre := fun j => j ≤ p.length
  μ := fun j => p.length - j
  items := fun j => [(s, .c (iO .i64 (j : Int))), (t, .c (iO .u64 (valF (p.take j))))]
def c0 : List (Nat × Ctr) := []
def c1 : List (Nat × Ctr) := [(82, cloneC), (241, padC)]
def c2 : List (Nat × Ctr) := [(201, partC), (266, partC)]
def c3 : List (Nat × Ctr) := [(245, getC 8)]
theorem c0_ok {P : Program} : COk P (ctrs c0) := cok_nil
end Go.ZR

/- Tracks of pieces: what they are; contracts. -/
set_option maxRecDepth 100000
namespace Go.ZM
open Go.Z
/-- A track: the last one in order, those beyond, in the order in which they came, dups. -/
structure Trk where
  c : Int
  ks : List Int
  du : List Int
def noTrk : Trk := ⟨0, [], []⟩
def trues (ks : List Int) : List Bool := ks.map fun _ => true
def w32 (x : Int) : Int := x % 4294967296
def newF (first : Int) : Trk := ⟨w32 (first - 1), [], []⟩
def againF (t : Trk) (x : Int) : Trk := if t.du.length < 64 then ⟨t.c, t.ks, t.du ++ [x]⟩ else t
def delK (ks : List Int) (x : Int) : List Int := mdel ks (midx ks x)
def putK (ks : List Int) (x : Int) : List Int := mputK ks (midx ks x) x
/-- On as far as the next one came. -/
def onF : Nat → Trk → Trk
  | 0, t => t
  | n + 1, t => if w32 (t.c + 1) ∈ t.ks then onF n ⟨w32 (t.c + 1), delK t.ks (w32 (t.c + 1)), t.du⟩ else t
def gotF (t : Trk) (x : Int) : Trk × Int :=
  let d := w32 (x - t.c)
  if d = 0 ∨ 2147483648 ≤ d ∨ x ∈ t.ks then (againF t x, 9) else if 512 < d then (t, 10) else (onF ((putK t.ks x).length + 1) ⟨t.c, putK t.ks x, t.du⟩, 0)
def near (c k : Int) : Prop := inU k ∧ 1 ≤ w32 (k - c) ∧ w32 (k - c) ≤ 512
def okT (t : Trk) : Prop := inU t.c ∧ t.ks.Nodup ∧ (∀ k ∈ t.ks, near t.c k) ∧ t.du.length ≤ 64
theorem below_len : ∀ {n : Nat} {l : List Nat}, l.Nodup → (∀ x ∈ l, x < n) → l.length ≤ n
  | 0, [], _, _ => Nat.le_refl _
  | 0, x :: _, _, h => absurd (h x (by simp)) (Nat.not_lt_zero _)
  | n + 1, l, hd, h => by
    by_cases hm : n ∈ l
    · have h1 := below_len (n := n) (hd.erase n) fun x hx => by
        have := (hd.mem_erase_iff).1 hx
        have := h x this.2
        omega
      have h2 := List.length_erase_of_mem hm
      have : 0 < l.length := List.length_pos_of_mem hm
      omega
    · have := below_len (n := n) hd fun x hx => by
        have := h x hx
        have : x ≠ n := fun e => hm (e ▸ hx)
        omega
      omega
theorem near_inj {c a b : Int} (ha : near c a) (hb : near c b) (h : w32 (a - c) = w32 (b - c)) : a = b := by
  unfold near inU w32 at *
  omega
theorem near_len {c : Int} {ks : List Int} (hd : ks.Nodup) (h : ∀ k ∈ ks, near c k) : ks.length ≤ 512 := by
  have h1 : (ks.map fun k => (w32 (k - c)).toNat - 1).Nodup := by
    rw [List.nodup_iff_pairwise_ne, List.pairwise_map]
    refine List.Pairwise.imp_of_mem (fun {a b} ha hb hne e => hne ?_) hd
    have na := h a ha
    have nb := h b hb
    refine near_inj na nb ?_
    unfold near at na nb
    omega
  have h2 := below_len (n := 512) h1 fun x hx => by
    obtain ⟨k, hk, rfl⟩ := List.mem_map.1 hx
    have := h k hk
    unfold near at this
    omega
  simpa using h2
theorem okT_keys {t : Trk} (h : okT t) : okKeys t.ks := ⟨h.2.1, fun x hx => (h.2.2.1 x hx).1, by have := near_len h.2.1 h.2.2.1; omega⟩
theorem midx_none {ks : List Int} {x : Int} : midx ks x = none ↔ x ∉ ks := by
  induction ks with
  | nil => simp [midx]
  | cons k ks ih =>
    unfold midx
    by_cases e : x = k
    · simp [e]
    · rw [if_neg e]
      cases hm : midx ks x with
      | none => simp [e, ih.1 hm]
      | some j =>
        have : x ∈ ks := by
          by_cases hx : x ∈ ks
          · exact hx
          · rw [ih.2 hx] at hm; cases hm
        simp [this]
theorem there_iff (ks : List Int) (x : Int) : (oget (trues ks) (midx ks x)).getD false = decide (x ∈ ks) := by
  cases hm : midx ks x with
  | none => rw [decide_eq_false (midx_none.1 hm)]; rfl
  | some j =>
    have h1 := midx_lt hm
    have hx : x ∈ ks := List.mem_of_getElem? h1
    rw [decide_eq_true hx]
    simp [oget, trues, h1]
theorem trues_put (ks : List Int) (x : Int) : mputV (trues ks) (midx ks x) true = trues (putK ks x) := by
  unfold putK
  cases hm : midx ks x with
  | none => simp [mputV, mputK, trues]
  | some j =>
    have h1 := midx_lt hm
    have hj := (List.getElem?_eq_some_iff.1 h1).1
    apply List.ext_getElem
    · simp [mputV, mputK, trues]
    · intro i a b
      simp [mputV, mputK, trues, List.getElem_set]
theorem trues_del (ks : List Int) (x : Int) : mdel (trues ks) (midx ks x) = trues (delK ks x) := by
  unfold delK
  cases hm : midx ks x with
  | none => rfl
  | some j =>
    simp only [mdel, trues]
    rw [List.eraseIdx_eq_take_drop_succ, List.eraseIdx_eq_take_drop_succ, List.map_append, List.map_take, List.map_drop]
theorem mem_put {ks : List Int} {x y : Int} : y ∈ putK ks x ↔ y ∈ ks ∨ y = x := by
  unfold putK
  cases hm : midx ks x with
  | none => simp [mputK]
  | some j =>
    have hx : x ∈ ks := List.mem_of_getElem? (midx_lt hm)
    simp only [mputK]
    exact ⟨.inl, fun h => h.elim id fun e => e ▸ hx⟩
theorem put_nodup {ks : List Int} (h : ks.Nodup) (x : Int) : (putK ks x).Nodup := by
  unfold putK
  cases hm : midx ks x with
  | none =>
    have hx := midx_none.1 hm
    simp only [mputK]
    exact List.nodup_append.2 ⟨h, by simp, fun a ha b hb => by simp at hb; subst hb; exact fun e => hx (e ▸ ha)⟩
  | some j => exact h
theorem del_eq {ks : List Int} (h : ks.Nodup) (x : Int) : delK ks x = ks.erase x := by
  induction ks with
  | nil => rfl
  | cons k ks ih =>
    unfold delK midx
    by_cases e : x = k
    · subst e; simp [mdel]
    · rw [if_neg e, List.erase_cons_tail (by simpa using fun h => e h.symm)]
      have ih := ih (List.nodup_cons.1 h).2
      unfold delK at ih
      rw [← ih]
      cases midx ks x <;> rfl
end Go.ZM
namespace Go.ZR
open Go.Z Go.ZM Go.Proofs
def trL (t : Trk) : List O := [iO .u32 t.c, .map (.ints .u32 t.ks) (.bools (trues t.ks)), .own 22 (.ints .u32 t.du)]
def trO (t : Trk) : O := .ptr 127 (trL t)
def colK : Col → List Int
  | .ints _ l => l
  | _ => []
def dux : O → List Int
  | .own _ (.ints _ l) => l
  | _ => []
def mapk : O → List Int
  | .map (.ints _ l) _ => l
  | _ => []
def trOf : O → Trk
  | .ptr _ [c, m, d] => ⟨vi (dO c), mapk m, dux d⟩
  | _ => noTrk
def trC (args : Nat) (pre : List O → Prop) (res : List O → List O) (upd : List O → Trk) : Ctr where
  own := true :: List.replicate args false
  pre := pre
  res := res
  upd := fun a => trO (upd a) :: List.replicate args .any
  ro := false
  quiet := false
def newC : Ctr := nC 1 false (fun a => ∃ f, a = [iO .u32 f]) fun a => [trO (newF (vi (dO (at_ a 0))))]
def againC : Ctr := trC 1 (fun a => ∃ t x, a = [trO t, iO .u32 x] ∧ okT t) (fun _ => [iO .i64 9]) fun a => againF (trOf (at_ a 0)) (vi (dO (at_ a 1)))
def gotC : Ctr := trC 1 (fun a => ∃ t x, a = [trO t, iO .u32 x] ∧ okT t ∧ inU x) (fun a => [iO .i64 (gotF (trOf (at_ a 0)) (vi (dO (at_ a 1)))).2]) fun a => (gotF (trOf (at_ a 0)) (vi (dO (at_ a 1)))).1
def cumC : Ctr := trC 0 (fun a => ∃ t, a = [trO t]) (fun a => [iO .u32 (trOf (at_ a 0)).c]) fun a => trOf (at_ a 0)
noncomputable def aheadC : Ctr := trC 0 (fun a => ∃ t, a = [trO t] ∧ okT t) (fun a => [.own 22 (.ints .u32 (byFar' (trOf (at_ a 0)).c (trOf (at_ a 0)).ks))]) fun a => trOf (at_ a 0)
noncomputable def s1 : List (Nat × Ctr) := [(61, sfC)]
theorem s1_ok : COk Try.prog (ctrs s1) := cok_cons Go.Proofs.Ytlbfenfepmmihaa.ok61 cok_nil
def s2 : List (Nat × Ctr) := [(60, againC)]
def gotA (t : Trk) : LoopAnn where
  γ := Trk
  pre := fun g => okT g ∧ onF (g.ks.length + 1) g = onF (t.ks.length + 1) t
  μ := fun g => g.ks.length
  items := fun g => [(0, .blk [.o (iO .u32 g.c), .o (.map (.ints .u32 g.ks) (.bools (trues g.ks))), .same])]
end Go.ZR

/- Tracks: walked. -/
namespace Go.ZR
open Go.Proofs
open Go.Z Go.ZM Go.RowKit
set_option maxRecDepth 100000
theorem bytes22 : Try.prog.types[(22 : Nat)].bytes = 4 := by kernel_rfl
theorem trk_eta (t : Trk) : Trk.mk t.c t.ks t.du = t := by cases t; rfl
noncomputable def i21c62 : Code := match Try.f62.body with | some c => c | none => .skip
noncomputable def i21_62 : InlF := ⟨i21c62, Try.f62.ntmps, Try.f62.results.toList, anns []⟩
noncomputable def i21 : List (Nat × InlF) := [(62, i21_62)]
theorem i21_ok : InlsOk Try.prog i21 := ⟨inlOk Try.func62 (by kernel_rfl) (by kernel_rfl), trivial⟩
noncomputable def code17 : Code := match Try.f17.body with | some c => c | none => .skip
set_option maxHeartbeats 4000000 in
theorem vc17 : ∀ (f : Int), True ∧ IntKind.u32.wrap (f - (1 : Int)) = (newF f).c ∧ [] = (newF f).ks ∧ [] = trues (newF f).ks ∧ (newF f).du = [] ∧ (!(Nat.beq (0 : Nat) (1 : Nat) || false) && (!false && true) && true) = true := by
  simp only [↓Bool.and_eq_true, ↓Bool.not_eq_true', true_and, and_true, Bool.or_false, Nat.beq]
  intro f
  refine ⟨IntKind.wrap_u32 _, ?_⟩
  repeat' (first | exact rfl | constructor)
set_option maxRecDepth 100000 in
theorem ok17 : FnIs Try.prog 17 newC := by
  refine fnIs (C := (ctrs c0)) (by kernel_rfl) c0_ok Try.func17 (code := code17) (by kernel_rfl) (by kernel_rfl) ?_
  rintro a ⟨f, rfl⟩
  exact ⟨anns [], kcast (vc17 f) (by kernel_rfl)⟩

noncomputable def code60 : Code := match Try.f60.body with | some c => c | none => .skip
set_option maxHeartbeats 4000000 in
theorem vc60 : ∀ (t : Trk) (x : Int), okT t → True ∧ sw (decide ((↑t.du.length : Int) < (64 : Int))) (True ∧ (t.du.length + (1 : Nat)) * Try.prog.types[(22 : Nat)].bytes ≤ (140737488355328 : Nat) ∧
  t.c = (againF (Trk.mk t.c t.ks t.du) x).c ∧ t.ks = (againF (Trk.mk t.c t.ks t.du) x).ks ∧ trues t.ks = trues (againF (Trk.mk t.c t.ks t.du) x).ks ∧ t.du ++ [x] = (againF (Trk.mk t.c t.ks t.du) x).du ∧
  (9 : Int) = (9 : Int) ∧ (!(Nat.beq (0 : Nat) (2 : Nat) || (Nat.beq (4 : Nat) (2 : Nat) || false)) && (!(Nat.beq (4 : Nat) (0 : Nat) || false) && (!false && true)) && true) = true) (t.c = (againF (Trk.mk t.c t.ks t.du) x).c ∧
  t.ks = (againF (Trk.mk t.c t.ks t.du) x).ks ∧ trues t.ks = trues (againF (Trk.mk t.c t.ks t.du) x).ks ∧ t.du = (againF (Trk.mk t.c t.ks t.du) x).du ∧ (9 : Int) = (9 : Int) ∧
  (!(Nat.beq (0 : Nat) (2 : Nat) || (Nat.beq (1 : Nat) (2 : Nat) || false)) && (!(Nat.beq (1 : Nat) (0 : Nat) || false) && (!false && true)) && true) = true) := by
  simp only [↓sw_iff, ↓Bool.and_eq_true, ↓decide_eq_true_eq, ↓decide_eq_false_iff_not, ↓Bool.not_eq_true', true_and, and_true, Bool.or_false, Nat.beq, bytes22, trk_eta]
  intro t x h
  have h' := h.2.2.2
  refine ⟨fun hl => ⟨by omega, ?_⟩, fun hl => ?_⟩
  · unfold againF
    rw [if_pos (by omega)]
    repeat' (first | exact rfl | constructor)
  · unfold againF
    rw [if_neg (by omega)]
    repeat' (first | exact rfl | constructor)
set_option maxRecDepth 100000 in
theorem ok60 : FnIs Try.prog 60 againC := by
  refine fnIs (C := (ctrs c0)) (by kernel_rfl) c0_ok Try.func60 (code := code60) (by kernel_rfl) (by kernel_rfl) ?_
  rintro a ⟨t, x, rfl, h⟩
  exact ⟨anns [], kcast (vc60 t x h) (by kernel_rfl)⟩

noncomputable def code20 : Code := match Try.f20.body with | some c => c | none => .skip
set_option maxHeartbeats 4000000 in
theorem vc20 : ∀ (t : Trk), t.c = t.c ∧ t.ks = t.ks ∧ trues t.ks = trues t.ks ∧ t.du = t.du ∧ t.c = t.c ∧ (!(Nat.beq (0 : Nat) (2 : Nat) || (Nat.beq (1 : Nat) (2 : Nat) || false)) && (!(Nat.beq (1 : Nat) (0 : Nat) || false) && (!false && true)) && true) = true := by
  simp only [↓Bool.and_eq_true, ↓Bool.not_eq_true', and_true, implies_true, Bool.or_false, Nat.beq]
set_option maxRecDepth 100000 in
theorem ok20 : FnIs Try.prog 20 cumC := by
  refine fnIs (C := (ctrs c0)) (by kernel_rfl) c0_ok Try.func20 (code := code20) (by kernel_rfl) (by kernel_rfl) ?_
  rintro a ⟨t, rfl⟩
  exact ⟨anns [], kcast (vc20 t) (by kernel_rfl)⟩

noncomputable def code21 : Code := match Try.f21.body with | some c => c | none => .skip
set_option maxHeartbeats 4000000 in
theorem vc21 : ∀ (t : Trk), okT t → (∃ (F : Nat → D), ∃ (f : Nat → D), ∃ (G : Nat → D), ∃ (g : Nat → D), ∃ (h_1 : Nat → D), ∃ (ks : List Int), ∃ (vs : Col), ∃ (n : Nat), ∃ (c : Int), [O.d (D.fn (110 : Nat) (0 : Nat) (1 : Nat) fun (i : Nat) => [D.ptr (125 : Nat) (1 : Nat) fun (i : Nat) => [D.map (Col.ints IntKind.u32 t.ks) (Col.bools (trues t.ks))].getD i (D.v undef)].getD i (D.v undef)), O.d (D.fn (63 : Nat) (0 : Nat) (1 : Nat) fun (i : Nat) => [D.ptr (25 : Nat) (1 : Nat) fun (i : Nat) => [D.ptr (127 : Nat) (3 : Nat) fun (i : Nat) => [D.v (Value.int IntKind.u32 t.c), D.map (Col.ints IntKind.u32 t.ks) (Col.bools (trues t.ks)), D.ints IntKind.u32 t.du].getD i (D.v undef)].getD i (D.v undef)].getD i (D.v undef))] = [O.d (D.fn (110 : Nat) (0 : Nat) (1 : Nat) F), O.d (D.fn (63 : Nat) (0 : Nat) (1 : Nat) G)] ∧
  F (0 : Nat) = D.ptr (125 : Nat) (1 : Nat) f ∧ f (0 : Nat) = D.map (Col.ints IntKind.u32 ks) vs ∧ G (0 : Nat) = D.ptr (25 : Nat) (1 : Nat) g ∧ g (0 : Nat) = D.ptr (127 : Nat) n h_1 ∧
  (1 : Nat) ≤ n ∧ h_1 (0 : Nat) = D.v (Value.int IntKind.u32 c) ∧ okKeys ks) ∧ t.c = t.c ∧ t.ks = t.ks ∧ trues t.ks = trues t.ks ∧ t.du = t.du ∧ byFar' t.c t.ks = byFar' t.c t.ks ∧
  (!(Nat.beq (0 : Nat) (2 : Nat) || (Nat.beq (1 : Nat) (2 : Nat) || (Nat.beq (5 : Nat) (2 : Nat) || false))) && (!(Nat.beq (1 : Nat) (0 : Nat) || (Nat.beq (5 : Nat) (0 : Nat) || false)) && (!(Nat.beq (5 : Nat) (1 : Nat) || false) && (!false && true))) && true) = true := by
  simp only [↓Bool.and_eq_true, ↓Bool.not_eq_true', and_true, Bool.or_false, Nat.beq]
  intro t h
  exact ⟨_, _, _, _, _, _, _, _, _, rfl, rfl, rfl, rfl, rfl, by omega, rfl, okT_keys h⟩
set_option maxRecDepth 100000 in
theorem ok21 : FnIs Try.prog 21 aheadC := by
  refine fnIs (C := (ctrsJ Try.prog s1 i21 1)) (by kernel_rfl) (cokJ (by kernel_rfl) s1_ok i21_ok) Try.func21 (code := code21) (by kernel_rfl) (by kernel_rfl) ?_
  rintro a ⟨t, rfl, h⟩
  exact ⟨anns [], kcast (vc21 t h) (by kernel_rfl)⟩

end Go.ZR

/- Got: walked. -/
namespace Go.ZR
open Go.Proofs
open Go.Z Go.ZM Go.RowKit
set_option maxRecDepth 100000
theorem tstep_ok {g : Trk} (h : okT g) (hm : w32 (g.c + 1) ∈ g.ks) : okT ⟨w32 (g.c + 1), delK g.ks (w32 (g.c + 1)), g.du⟩ ∧ (delK g.ks (w32 (g.c + 1))).length + 1 = g.ks.length := by
  obtain ⟨h1, h2, h3, h4⟩ := h
  rw [del_eq h2]
  have hl := List.length_erase_of_mem hm
  have hp : 0 < g.ks.length := List.length_pos_of_mem hm
  refine ⟨⟨by unfold inU w32; simp only; omega, h2.erase _, fun k hk => ?_, h4⟩, by omega⟩
  have hk := (h2.mem_erase_iff).1 hk
  have := h3 k hk.2
  have hne := hk.1
  unfold near inU w32 at *
  refine ⟨this.1, ?_, ?_⟩ <;> simp only <;> omega
theorem on_step {g : Trk} (h : okT g) (hm : w32 (g.c + 1) ∈ g.ks) : onF (g.ks.length + 1) g = onF ((delK g.ks (w32 (g.c + 1))).length + 1) ⟨w32 (g.c + 1), delK g.ks (w32 (g.c + 1)), g.du⟩ := by
  rw [(tstep_ok h hm).2]
  conv => lhs; unfold onF
  rw [if_pos hm]
theorem on_stop {g : Trk} {n : Nat} (hm : ¬ w32 (g.c + 1) ∈ g.ks) : onF (n + 1) g = g := by
  unfold onF; rw [if_neg hm]
theorem on_du : ∀ (n : Nat) (t : Trk), (onF n t).du = t.du
  | 0, _ => rfl
  | n + 1, t => by
    unfold onF
    split
    · exact on_du n _
    · rfl
theorem ton_ok : ∀ (n : Nat) {t : Trk}, okT t → okT (onF n t)
  | 0, _, h => h
  | n + 1, t, h => by
    unfold onF
    split
    · rename_i hm; exact ton_ok n (tstep_ok h hm).1
    · exact h
theorem tput_ok {t : Trk} {x : Int} (h : okT t) (hx : inU x) (h0 : ¬ w32 (x - t.c) = 0) (h1 : ¬ 512 < w32 (x - t.c)) : okT ⟨t.c, putK t.ks x, t.du⟩ := by
  obtain ⟨g1, g2, g3, g4⟩ := h
  refine ⟨g1, put_nodup g2 x, fun k hk => ?_, g4⟩
  rcases mem_put.1 hk with hk | rfl
  · exact g3 k hk
  · refine ⟨hx, ?_, ?_⟩
    · unfold w32 at *; simp only; omega
    · unfold w32 at *; simp only; omega
theorem tagain_ok {t : Trk} (h : okT t) (x : Int) : okT (againF t x) := by
  unfold againF
  split
  · exact ⟨h.1, h.2.1, h.2.2.1, by simp; omega⟩
  · exact h
theorem got_again {t : Trk} {x : Int} (h : w32 (x - t.c) = 0 ∨ 2147483648 ≤ w32 (x - t.c) ∨ x ∈ t.ks) : gotF t x = (againF t x, 9) := by
  unfold gotF; simp only; rw [if_pos h]
theorem got_far {t : Trk} {x : Int} (h : ¬ (w32 (x - t.c) = 0 ∨ 2147483648 ≤ w32 (x - t.c) ∨ x ∈ t.ks)) (h1 : 512 < w32 (x - t.c)) : gotF t x = (t, 10) := by
  unfold gotF; simp only; rw [if_neg h, if_pos h1]
theorem got_new {t : Trk} {x : Int} (h : ¬ (w32 (x - t.c) = 0 ∨ 2147483648 ≤ w32 (x - t.c) ∨ x ∈ t.ks)) (h1 : ¬ 512 < w32 (x - t.c)) : gotF t x = (onF ((putK t.ks x).length + 1) ⟨t.c, putK t.ks x, t.du⟩, 0) := by
  unfold gotF; simp only; rw [if_neg h, if_neg h1]
theorem tgot_ok {t : Trk} {x : Int} (h : okT t) (hx : inU x) : okT (gotF t x).1 := by
  by_cases h1 : w32 (x - t.c) = 0 ∨ 2147483648 ≤ w32 (x - t.c) ∨ x ∈ t.ks
  · rw [got_again h1]; exact tagain_ok h x
  · by_cases h2 : 512 < w32 (x - t.c)
    · rw [got_far h1 h2]; exact h
    · rw [got_new h1 h2]; exact ton_ok _ (tput_ok h hx (fun e => h1 (.inl e)) h2)
theorem s2_ok : COk Try.prog (ctrs s2) := cok_cons ok60 cok_nil
noncomputable def code19 : Code := match Try.f19.body with | some c => c | none => .skip
set_option maxHeartbeats 4000000 in
theorem vc19 : ∀ (t : Trk) (x : Int), okT t → inU x → True ∧ True ∧ sw (decide (IntKind.u32.wrap (x - t.c) = (0 : Int))) ((∃ (t_1 : Trk), ∃ (x_1 : Int), [O.ptr (127 : Nat) [O.d (D.v (Value.int IntKind.u32 t.c)), O.map (Col.ints IntKind.u32 t.ks) (Col.bools (trues t.ks)), O.own (22 : Nat) (D.ints IntKind.u32 t.du)], O.d (D.v (Value.int IntKind.u32 x))] = [O.ptr (127 : Nat) [O.d (D.v (Value.int IntKind.u32 t_1.c)), O.map (Col.ints IntKind.u32 t_1.ks) (Col.bools (trues t_1.ks)), O.own (22 : Nat) (D.ints IntKind.u32 t_1.du)], O.d (D.v (Value.int IntKind.u32 x_1))] ∧
  okT t_1) ∧ (againF (Trk.mk t.c t.ks t.du) x).c = (gotF (Trk.mk t.c t.ks t.du) x).fst.c ∧ (againF (Trk.mk t.c t.ks t.du) x).ks = (gotF (Trk.mk t.c t.ks t.du) x).fst.ks ∧
  trues (againF (Trk.mk t.c t.ks t.du) x).ks = trues (gotF (Trk.mk t.c t.ks t.du) x).fst.ks ∧ (againF (Trk.mk t.c t.ks t.du) x).du = (gotF (Trk.mk t.c t.ks t.du) x).fst.du ∧
  (9 : Int) = (gotF (Trk.mk t.c t.ks t.du) x).snd ∧ (!(Nat.beq (3 : Nat) (2 : Nat) || (Nat.beq (4 : Nat) (2 : Nat) || false)) && (!(Nat.beq (4 : Nat) (3 : Nat) || false) && (!false && true)) && true) = true) (True ∧
  sw (decide ((2147483648 : Int) ≤ IntKind.u32.wrap (x - t.c))) ((∃ (t_1 : Trk), ∃ (x_1 : Int), [O.ptr (127 : Nat) [O.d (D.v (Value.int IntKind.u32 t.c)), O.map (Col.ints IntKind.u32 t.ks) (Col.bools (trues t.ks)), O.own (22 : Nat) (D.ints IntKind.u32 t.du)], O.d (D.v (Value.int IntKind.u32 x))] = [O.ptr (127 : Nat) [O.d (D.v (Value.int IntKind.u32 t_1.c)), O.map (Col.ints IntKind.u32 t_1.ks) (Col.bools (trues t_1.ks)), O.own (22 : Nat) (D.ints IntKind.u32 t_1.du)], O.d (D.v (Value.int IntKind.u32 x_1))] ∧
  okT t_1) ∧ (againF (Trk.mk t.c t.ks t.du) x).c = (gotF (Trk.mk t.c t.ks t.du) x).fst.c ∧ (againF (Trk.mk t.c t.ks t.du) x).ks = (gotF (Trk.mk t.c t.ks t.du) x).fst.ks ∧
  trues (againF (Trk.mk t.c t.ks t.du) x).ks = trues (gotF (Trk.mk t.c t.ks t.du) x).fst.ks ∧ (againF (Trk.mk t.c t.ks t.du) x).du = (gotF (Trk.mk t.c t.ks t.du) x).fst.du ∧
  (9 : Int) = (gotF (Trk.mk t.c t.ks t.du) x).snd ∧ (!(Nat.beq (3 : Nat) (2 : Nat) || (Nat.beq (4 : Nat) (2 : Nat) || false)) && (!(Nat.beq (4 : Nat) (3 : Nat) || false) && (!false && true)) && true) = true) (sw ((oget (trues t.ks) (midx t.ks x)).getD false) ((∃ (t_1 : Trk), ∃ (x_1 : Int), [O.ptr (127 : Nat) [O.d (D.v (Value.int IntKind.u32 t.c)), O.map (Col.ints IntKind.u32 t.ks) (Col.bools (trues t.ks)), O.own (22 : Nat) (D.ints IntKind.u32 t.du)], O.d (D.v (Value.int IntKind.u32 x))] = [O.ptr (127 : Nat) [O.d (D.v (Value.int IntKind.u32 t_1.c)), O.map (Col.ints IntKind.u32 t_1.ks) (Col.bools (trues t_1.ks)), O.own (22 : Nat) (D.ints IntKind.u32 t_1.du)], O.d (D.v (Value.int IntKind.u32 x_1))] ∧
  okT t_1) ∧ (againF (Trk.mk t.c t.ks t.du) x).c = (gotF (Trk.mk t.c t.ks t.du) x).fst.c ∧ (againF (Trk.mk t.c t.ks t.du) x).ks = (gotF (Trk.mk t.c t.ks t.du) x).fst.ks ∧
  trues (againF (Trk.mk t.c t.ks t.du) x).ks = trues (gotF (Trk.mk t.c t.ks t.du) x).fst.ks ∧ (againF (Trk.mk t.c t.ks t.du) x).du = (gotF (Trk.mk t.c t.ks t.du) x).fst.du ∧
  (9 : Int) = (gotF (Trk.mk t.c t.ks t.du) x).snd ∧ (!(Nat.beq (3 : Nat) (2 : Nat) || (Nat.beq (4 : Nat) (2 : Nat) || false)) && (!(Nat.beq (4 : Nat) (3 : Nat) || false) && (!false && true)) && true) = true) (True ∧
  sw (decide ((512 : Int) < IntKind.u32.wrap (x - t.c))) (t.c = (gotF (Trk.mk t.c t.ks t.du) x).fst.c ∧ t.ks = (gotF (Trk.mk t.c t.ks t.du) x).fst.ks ∧ trues t.ks = trues (gotF (Trk.mk t.c t.ks t.du) x).fst.ks ∧
  t.du = (gotF (Trk.mk t.c t.ks t.du) x).fst.du ∧ (10 : Int) = (gotF (Trk.mk t.c t.ks t.du) x).snd ∧ (!(Nat.beq (0 : Nat) (2 : Nat) || (Nat.beq (1 : Nat) (2 : Nat) || false)) && (!(Nat.beq (1 : Nat) (0 : Nat) || false) && (!false && true)) && true) = true) (∃ (g0 : Trk), (okT g0 ∧
  onF (g0.ks.length + (1 : Nat)) g0 = onF ((putK t.ks x).length + (1 : Nat)) (Trk.mk t.c (putK t.ks x) t.du)) ∧ t.c = g0.c ∧ mputK t.ks (midx t.ks x) x = g0.ks ∧
  mputV (trues t.ks) (midx t.ks x) true = trues g0.ks ∧ SV.a (1 : Nat) = SV.a (1 : Nat) ∧ (!(Nat.beq (0 : Nat) (2 : Nat) || false) && (!false && true) && true) = true ∧
  ∀ (g : Trk), okT g ∧ onF (g.ks.length + (1 : Nat)) g = onF ((putK t.ks x).length + (1 : Nat)) (Trk.mk t.c (putK t.ks x) t.du) → True ∧ sw ((oget (trues g.ks) (midx g.ks (IntKind.u32.wrap (g.c + (1 : Int))))).getD false) (True ∧
  (∃ (g' : Trk), (okT g' ∧ onF (g'.ks.length + (1 : Nat)) g' = onF ((putK t.ks x).length + (1 : Nat)) (Trk.mk t.c (putK t.ks x) t.du)) ∧ g'.ks.length < g.ks.length ∧
  (IntKind.u32.wrap (g.c + (1 : Int)) = g'.c ∧ mdel g.ks (midx g.ks (IntKind.u32.wrap (g.c + (1 : Int)))) = g'.ks ∧ mdel (trues g.ks) (midx g.ks (IntKind.u32.wrap (g.c + (1 : Int)))) = trues g'.ks ∧
  SV.a (1 : Nat) = SV.a (1 : Nat) ∧ (!(Nat.beq (3 : Nat) (2 : Nat) || false) && (!false && true) && true && ((Nat.ble (3 : Nat) (2 : Nat) || (Nat.beq (2 : Nat) (2 : Nat) || (Nat.beq (0 : Nat) (2 : Nat) || false))) && ((Nat.ble (3 : Nat) (3 : Nat) || (Nat.beq (2 : Nat) (3 : Nat) || (Nat.beq (0 : Nat) (3 : Nat) || false))) && true))) = true) ∧
  (some (SV.c (Value.int IntKind.i64 (0 : Int))) = some (SV.c (Value.int IntKind.i64 (0 : Int))) ∧ some (SV.p (2 : Nat) (0 : Nat)) = some (SV.p (2 : Nat) (0 : Nat)) ∧
  True) ∧ some (R.own (22 : Nat) (D.ints IntKind.u32 t.du)) = some (R.own (22 : Nat) (D.ints IntKind.u32 t.du)) ∧ True) ∧ True) (g.c = (gotF (Trk.mk t.c t.ks t.du) x).fst.c ∧
  g.ks = (gotF (Trk.mk t.c t.ks t.du) x).fst.ks ∧ trues g.ks = trues (gotF (Trk.mk t.c t.ks t.du) x).fst.ks ∧ t.du = (gotF (Trk.mk t.c t.ks t.du) x).fst.du ∧
  (0 : Int) = (gotF (Trk.mk t.c t.ks t.du) x).snd ∧ (!(Nat.beq (3 : Nat) (2 : Nat) || (Nat.beq (1 : Nat) (2 : Nat) || false)) && (!(Nat.beq (1 : Nat) (3 : Nat) || false) && (!false && true)) && true) = true))))) := by
  simp only [↓sw_iff, ↓Bool.and_eq_true, ↓decide_eq_true_eq, ↓decide_eq_false_iff_not, ↓Bool.not_eq_true', true_and, and_true, Bool.or_false, Bool.false_or, Nat.ble, Nat.beq, trk_eta, there_iff, trues_put, trues_del, IntKind.wrap_u32]
  intro t x h hx
  have ag : w32 (x - t.c) = 0 ∨ 2147483648 ≤ w32 (x - t.c) ∨ x ∈ t.ks → (againF t x).c = (gotF t x).fst.c ∧ (againF t x).ks = (gotF t x).fst.ks ∧ trues (againF t x).ks = trues (gotF t x).fst.ks ∧ (againF t x).du = (gotF t x).fst.du ∧ 9 = (gotF t x).snd := fun hh => by
    rw [got_again hh]; exact ⟨rfl, rfl, rfl, rfl, rfl⟩
  refine ⟨fun h0 => ⟨⟨t, x, rfl, h⟩, ag (.inl h0)⟩, fun h0 => ⟨fun h1 => ⟨⟨t, x, rfl, h⟩, ag (.inr (.inl h1))⟩, fun h1 => ⟨fun h2 => ⟨⟨t, x, rfl, h⟩, ag (.inr (.inr h2))⟩, fun h2 => ?_⟩⟩⟩
  have hno : ¬ (w32 (x - t.c) = 0 ∨ 2147483648 ≤ w32 (x - t.c) ∨ x ∈ t.ks) := by
    rintro (e | e | e)
    · exact h0 e
    · exact h1 e
    · exact h2 e
  refine ⟨fun h3 => by rw [got_far hno h3]; exact ⟨rfl, rfl, rfl, rfl, rfl⟩, fun h3 => ⟨⟨t.c, putK t.ks x, t.du⟩, ⟨tput_ok h hx h0 h3, rfl⟩, rfl, rfl, rfl, ?_⟩⟩
  rintro g ⟨hg, he⟩
  refine ⟨fun hm => ⟨⟨w32 (g.c + 1), delK g.ks (w32 (g.c + 1)), g.du⟩, ⟨(tstep_ok hg hm).1, ?_⟩, ?_, rfl, rfl, rfl⟩, fun hm => ?_⟩
  · rw [← he, on_step hg hm]
  · have := (tstep_ok hg hm).2
    show (delK g.ks (w32 (g.c + 1))).length < _
    omega
  · rw [got_new hno h3, ← he, on_stop hm]
    refine ⟨rfl, rfl, rfl, ?_, rfl⟩
    have := congrArg Trk.du he
    rw [on_du, on_du] at this
    exact this.symm
set_option maxRecDepth 100000 in
theorem ok19 : FnIs Try.prog 19 gotC := by
  refine fnIs (C := (ctrs s2)) (by kernel_rfl) s2_ok Try.func19 (code := code19) (by kernel_rfl) (by kernel_rfl) ?_
  rintro a ⟨t, x, rfl, h, hx⟩
  exact ⟨anns [(9, gotA ⟨t.c, putK t.ks x, t.du⟩)] [4] (dr := [(9, [1, 5, 6, 7, 8, 9, 10, 11, 12, 13, 14, 15, 16, 17, 18, 19, 20, 21, 22, 23, 24, 25, 26, 27, 28, 29, 30, 31, 32, 33, 34, 35, 36, 37, 38, 39])]), kcast (vc19 t x h hx) (by kernel_rfl)⟩

end Go.ZR

/- Bytes and numbers: walked. -/
namespace Go.ZR
open Go.Proofs
open Go.Z Go.ZM Go.RowKit
set_option maxRecDepth 100000
theorem bytes5 : Try.prog.types[(5 : Nat)].bytes = 1 := by kernel_rfl
theorem part_get {b : List Int} {i n : Int} (h0 : 0 ≤ i) (h1 : 0 ≤ n) (h2 : i ≤ b.length) (h3 : n ≤ b.length - i) : partF b i n = ((b.drop i.toNat).take n.toNat, 0) := by
  unfold partF; rw [if_neg (by omega), if_neg (by omega)]
theorem part_err (b : List Int) (i n : Int) : (partF b i n).2 ≠ 0 → (partF b i n).1 = [] := by
  unfold partF
  split
  · intro _; rfl
  split
  · intro _; rfl
  · intro h; exact absurd rfl h
theorem be_step {b : List Int} {n : Int} {g k : Nat} (hg : g < k) : b ++ (be n k).take g ++ [(n / 256 ^ (k - 1 - g)) % 256] = b ++ (be n k).take (g + 1) := by
  rw [take_succ_getD (by rw [be_len]; exact hg), be_get n hg, List.append_assoc]
theorem val_small {l : List Int} (h : okB l) (hl : l.length ≤ 7) : 0 ≤ valF l ∧ valF l < 256 ^ 7 := by
  have h1 := val_lt h
  have h2 : (256 : Int) ^ l.length ≤ 256 ^ 7 := by
    have : ∀ k : Nat, k ≤ 7 → (256 : Int) ^ k ≤ 256 ^ 7 := by decide
    exact this _ hl
  exact ⟨val_nonneg h, by omega⟩
noncomputable def code82 : Code := match Try.f82.body with | some c => c | none => .skip
set_option maxHeartbeats 4000000 in
theorem vc82 : ∀ (l : List Int), sm l.length → ∀ (t : Bool), (t = true → l.length = (0 : Nat)) → sw t (l = [] ∧ (true && true) = true) (True ∧ ((0 : Nat) + l.length) * Try.prog.types[(5 : Nat)].bytes ≤ (140737488355328 : Nat) ∧
  [] ++ l = l ∧ (!false && true && true) = true) := by
  simp only [↓sw_iff, ↓Bool.and_eq_true, ↓Bool.not_eq_true', true_and, and_true, Nat.zero_add, List.nil_append, Nat.mul_one, bytes5]
  intro l h t ht
  unfold sm at h
  exact ⟨fun e => by have := ht e; exact List.length_eq_zero_iff.1 this, fun _ => by omega⟩
set_option maxRecDepth 100000 in
theorem ok82 : FnIs Try.prog 82 cloneC := by
  refine fnIs (C := (ctrs c0)) (by kernel_rfl) c0_ok Try.func82 (code := code82) (by kernel_rfl) (by kernel_rfl) ?_
  rintro a ⟨l, rfl, h⟩
  exact ⟨anns [], kcast (vc82 l h) (by kernel_rfl)⟩

noncomputable def code241 : Code := match Try.f241.body with | some c => c | none => .skip
set_option maxHeartbeats 4000000 in
theorem vc241 : ∀ (n : Nat), n ≤ (2199023255552 : Nat) → True ∧ True ∧ bits BinOp.and IntKind.i64 (IntKind.i64.wrap ((0 : Int) - (↑n : Int))) (3 : Int) = (↑(padN (↑n : Int).toNat) : Int) ∧
  (true && true) = true := by
  simp only [↓Bool.and_eq_true, true_and, and_true, Int.toNat_natCast]
  intro n h
  exact and_three
set_option maxRecDepth 100000 in
theorem ok241 : FnIs Try.prog 241 padC := by
  refine fnIs (C := (ctrs c0)) (by kernel_rfl) c0_ok Try.func241 (code := code241) (by kernel_rfl) (by kernel_rfl) ?_
  rintro a ⟨n, rfl, h⟩
  exact ⟨anns [], kcast (vc241 n h) (by kernel_rfl)⟩

theorem c1_ok : COk Try.prog (ctrs c1) := cok_cons ok82 (cok_cons ok241 cok_nil)

noncomputable def code199 : Code := match Try.f199.body with | some c => c | none => .skip
set_option maxHeartbeats 4000000 in
theorem vc199 : ∀ (l : List Int), sm l.length → (∃ (l_1 : List Int), [O.d (D.ints IntKind.u8 l)] = [O.d (D.ints IntKind.u8 l_1)] ∧ sm l_1.length) ∧ (∃ (n : Nat), [O.d (D.v (Value.int IntKind.i64 (↑l.length : Int)))] = [O.d (D.v (Value.int IntKind.i64 (↑n : Int)))] ∧
  n ≤ (2199023255552 : Nat)) ∧ ((0 : Int) ≤ (↑(padN (↑l.length : Int).toNat) : Int) ∧ (↑(padN (↑l.length : Int).toNat) : Int) ≤ (9223372036854775807 : Int) ∧
  (↑(padN (↑l.length : Int).toNat) : Int).toNat * Try.prog.types[(5 : Nat)].bytes ≤ (281474976710656 : Nat) ∧ IntKind.u8 = IntKind.u8) ∧ (l.length + (List.replicate (↑(padN (↑l.length : Int).toNat) : Int).toNat (0 : Int)).length) * Try.prog.types[(5 : Nat)].bytes ≤ (140737488355328 : Nat) ∧
  l ++ List.replicate (↑(padN (↑l.length : Int).toNat) : Int).toNat (0 : Int) = padF l ∧ (!false && true && true) = true := by
  simp only [↓Bool.and_eq_true, ↓Bool.not_eq_true', and_true, Int.toNat_natCast, Nat.mul_one, bytes5, List.length_replicate]
  intro l h
  have hp := padN_le l.length
  refine ⟨⟨l, rfl, h⟩, ⟨l.length, rfl, ?_⟩, ⟨by omega, by omega, by omega⟩, ?_, rfl⟩ <;> unfold sm at h <;> omega
set_option maxRecDepth 100000 in
theorem ok199 : FnIs Try.prog 199 paddedC := by
  refine fnIs (C := (ctrs c1)) (by kernel_rfl) c1_ok Try.func199 (code := code199) (by kernel_rfl) (by kernel_rfl) ?_
  rintro a ⟨l, rfl, h⟩
  exact ⟨anns [], kcast (vc199 l h) (by kernel_rfl)⟩

noncomputable def code156 : Code := match Try.f156.body with | some c => c | none => .skip
set_option maxHeartbeats 4000000 in
theorem vc156 : ∀ (l : List Int), sm l.length → True ∧ ((0 : Nat) + l.length) * Try.prog.types[(5 : Nat)].bytes ≤ (140737488355328 : Nat) ∧ ∃ (g0 : Nat), g0 ≤ padN l.length ∧
  [] ++ l = l ++ List.replicate g0 (0 : Int) ∧ (!false && true && true) = true ∧ ∀ (g : Nat), g ≤ padN l.length → (4 : Int) ≠ (0 : Int) ∧ True ∧ sw (!decide ((↑(l ++ List.replicate g (0 : Int)).length : Int).tmod (4 : Int) = (0 : Int))) (True ∧
  ((l ++ List.replicate g (0 : Int)).length + (1 : Nat)) * Try.prog.types[(5 : Nat)].bytes ≤ (140737488355328 : Nat) ∧ ∃ (g' : Nat), g' ≤ padN l.length ∧
  padN l.length - g' < padN l.length - g ∧ (l ++ List.replicate g (0 : Int) ++ [(0 : Int)] = l ++ List.replicate g' (0 : Int) ∧ (!false && true && true && ((Nat.ble (3 : Nat) (5 : Nat) || (Nat.beq (2 : Nat) (5 : Nat) || false)) && true)) = true) ∧
  (some (SV.a (2 : Nat)) = some (SV.a (2 : Nat)) ∧ some (SV.a (0 : Nat)) = some (SV.a (0 : Nat)) ∧ some (SV.a (1 : Nat)) = some (SV.a (1 : Nat)) ∧ some SV.nil = some SV.nil ∧
  some (SV.a (0 : Nat)) = some (SV.a (0 : Nat)) ∧ True) ∧ some R.dead = some R.dead ∧ some (R.ro (D.ints IntKind.u8 l)) = some (R.ro (D.ints IntKind.u8 l)) ∧
  True) (l ++ List.replicate g (0 : Int) = padF l ∧ (!false && true && true) = true) := by
  simp only [↓sw_iff, ↓Bool.and_eq_true, ↓decide_eq_true_eq, ↓decide_eq_false_iff_not, ↓Bool.not_eq_true', ↓Bool.not_eq_false', true_and, and_true, Bool.or_false, Nat.ble, Nat.beq, Nat.zero_add, List.nil_append, List.length_append, Nat.mul_one, bytes5, List.length_replicate]
  intro l h
  unfold sm at h
  refine ⟨by omega, 0, Nat.zero_le _, by simp, ?_⟩
  intro g hg
  have e : ((l.length + g : Nat) : Int).tmod 4 = (((l.length + g) % 4 : Nat) : Int) := rfl
  rw [e]
  have hp := padN_le l.length
  refine ⟨by decide, fun ht => ⟨by omega, g + 1, ?_, ?_, ?_⟩, fun ht => ?_⟩
  · have : ¬ (((l.length + g) % 4 : Nat) : Int) = 0 := ht
    unfold padN at hg ⊢; omega
  · have : ¬ (((l.length + g) % 4 : Nat) : Int) = 0 := ht
    unfold padN at hg ⊢; omega
  · rw [List.replicate_succ', List.append_assoc]
  · have : (((l.length + g) % 4 : Nat) : Int) = 0 := ht
    have : g = padN l.length := by unfold padN at hg ⊢; omega
    rw [this]; rfl
set_option maxRecDepth 100000 in
theorem ok156 : FnIs Try.prog 156 paddedC := by
  refine fnIs (C := (ctrs c0)) (by kernel_rfl) c0_ok Try.func156 (code := code156) (by kernel_rfl) (by kernel_rfl) ?_
  rintro a ⟨l, rfl, h⟩
  exact ⟨anns [(2, zAnn l)], kcast (vc156 l h) (by kernel_rfl)⟩

noncomputable def code198 : Code := match Try.f198.body with | some c => c | none => .skip
set_option maxHeartbeats 4000000 in
theorem vc198 : ∀ (b : List Int) (n : Int) (k : Nat), sm b.length → (1 : Nat) ≤ k → k ≤ (8 : Nat) → (∃ (l : List Int), [O.d (D.ints IntKind.u8 b)] = [O.d (D.ints IntKind.u8 l)] ∧
  sm l.length) ∧ True ∧ sw (decide ((↑k : Int) < (1 : Int))) (b = b ++ be n (↑k : Int).toNat ∧ (!false && true && true) = true) (True ∧ sw (decide ((8 : Int) < (↑k : Int))) (b = b ++ be n (↑k : Int).toNat ∧
  (!false && true && true) = true) (∃ (g0 : Nat), g0 ≤ k ∧ (0 : Int) = (↑g0 : Int) ∧ b = b ++ List.take g0 (be n k) ∧ (!false && true && true) = true ∧ ∀ (g : Nat), g ≤ k →
  True ∧ sw (decide ((↑g : Int) < (↑k : Int))) (True ∧ True ∧ True ∧ (0 : Int) ≤ IntKind.i64.wrap ((8 : Int) * IntKind.i64.wrap (IntKind.i64.wrap ((↑k : Int) - (1 : Int)) - (↑g : Int))) ∧
  True ∧ ((b ++ List.take g (be n k)).length + (1 : Nat)) * Try.prog.types[(5 : Nat)].bytes ≤ (140737488355328 : Nat) ∧ True ∧ ∃ (g' : Nat), g' ≤ k ∧ k - g' < k - g ∧
  (IntKind.i64.wrap ((↑g : Int) + (1 : Int)) = (↑g' : Int) ∧ b ++ List.take g (be n k) ++ [IntKind.u8.wrap (n.fdiv ((2 : Int) ^ min (IntKind.i64.wrap ((8 : Int) * IntKind.i64.wrap (IntKind.i64.wrap ((↑k : Int) - (1 : Int)) - (↑g : Int)))).toNat IntKind.u64.bits))] = b ++ List.take g' (be n k) ∧
  (!false && true && true && ((Nat.ble (2 : Nat) (4 : Nat) || (Nat.beq (1 : Nat) (4 : Nat) || false)) && true)) = true) ∧ (some (SV.c (Value.int IntKind.i64 (↑k : Int))) = some (SV.c (Value.int IntKind.i64 (↑k : Int))) ∧
  some (SV.c (Value.bool (decide ((8 : Int) < (↑k : Int))))) = some (SV.c (Value.bool (decide ((8 : Int) < (↑k : Int))))) ∧ some (SV.c (Value.bool (decide ((8 : Int) < (↑k : Int))))) = some (SV.c (Value.bool (decide ((8 : Int) < (↑k : Int))))) ∧
  some (SV.c (Value.int IntKind.i64 (↑k : Int))) = some (SV.c (Value.int IntKind.i64 (↑k : Int))) ∧ some (SV.b false) = some (SV.b false) ∧ some (SV.c (Value.bool (decide ((↑k : Int) < (1 : Int))))) = some (SV.c (Value.bool (decide ((↑k : Int) < (1 : Int))))) ∧
  some (SV.c (Value.int IntKind.i64 (↑k : Int))) = some (SV.c (Value.int IntKind.i64 (↑k : Int))) ∧ some (SV.a (1 : Nat)) = some (SV.a (1 : Nat)) ∧ some (SV.a (0 : Nat)) = some (SV.a (0 : Nat)) ∧
  some SV.nil = some SV.nil ∧ some (SV.a (0 : Nat)) = some (SV.a (0 : Nat)) ∧ some (SV.c (Value.int IntKind.u64 n)) = some (SV.c (Value.int IntKind.u64 n)) ∧
  some (SV.c (Value.int IntKind.i64 (↑k : Int))) = some (SV.c (Value.int IntKind.i64 (↑k : Int))) ∧ True) ∧ some (R.ro (D.ints IntKind.u8 b)) = some (R.ro (D.ints IntKind.u8 b)) ∧
  True) (b ++ List.take g (be n k) = b ++ be n (↑k : Int).toNat ∧ (!false && true && true) = true))) := by
  simp only [↓sw_iff, ↓Bool.and_eq_true, ↓decide_eq_true_eq, ↓decide_eq_false_iff_not, ↓Bool.not_eq_true', true_and, and_true, Bool.or_false, Nat.ble, Nat.beq, Int.toNat_natCast, List.length_append, Nat.mul_one, bytes5]
  intro b n k h h1 h2
  refine ⟨⟨b, rfl, h⟩, fun e => absurd e (by omega), fun _ => ⟨fun e => absurd e (by omega), fun _ => ⟨0, Nat.zero_le _, rfl, by simp, ?_⟩⟩⟩
  unfold sm at h
  intro g hg
  refine ⟨fun ht => ?_, fun ht => ?_⟩
  · have hlt : g < k := by have := ht; omega
    have e : IntKind.i64.wrap (8 * IntKind.i64.wrap (IntKind.i64.wrap ((k : Int) - 1) - (g : Int))) = ((8 * (k - 1 - g) : Nat) : Int) := by
      rw [wrap_i64_id (n := (k : Int) - 1) (by omega) (by omega), wrap_i64_id (n := (k : Int) - 1 - g) (by omega) (by omega), wrap_i64_id (by omega) (by omega)]; omega
    have hl : ((be n k).take g).length ≤ g := List.length_take_le _ _
    rw [e]
    refine ⟨by omega, by omega, g + 1, hlt, by omega, by rw [wrap_i64_id (by omega) (by omega)]; rfl, ?_⟩
    rw [shr_byte _ (by omega), be_step hlt]
  · have : k ≤ g := by have := ht; omega
    rw [List.take_of_length_le (by rw [be_len]; exact this)]
set_option maxRecDepth 100000 in
theorem ok198 : FnIs Try.prog 198 putC := by
  refine fnIs (C := (ctrs c1)) (by kernel_rfl) c1_ok Try.func198 (code := code198) (by kernel_rfl) (by kernel_rfl) ?_
  rintro a ⟨b, n, k, rfl, h, h1, h2⟩
  exact ⟨anns [(5, putAnn b n k)] [2], kcast (vc198 b n k h h1 h2) (by kernel_rfl)⟩

noncomputable def code65 : Code := match Try.f65.body with | some c => c | none => .skip
set_option maxHeartbeats 4000000 in
theorem vc65 : ∀ (b : List Int) (n : Int) (k : Nat), sm b.length → (1 : Nat) ≤ k → k ≤ (8 : Nat) → True ∧ ((0 : Nat) + b.length) * Try.prog.types[(5 : Nat)].bytes ≤ (140737488355328 : Nat) ∧
  True ∧ sw (decide ((↑k : Int) < (1 : Int))) ([] ++ b = b ++ be n (↑k : Int).toNat ∧ (!false && true && true) = true) (True ∧ sw (decide ((8 : Int) < (↑k : Int))) ([] ++ b = b ++ be n (↑k : Int).toNat ∧
  (!false && true && true) = true) (True ∧ ∃ (g0 : Nat), g0 ≤ k ∧ IntKind.i64.wrap ((↑k : Int) - (1 : Int)) = (↑k : Int) - (1 : Int) - (↑g0 : Int) ∧ [] ++ b = b ++ List.take g0 (be n k) ∧
  (!false && true && true) = true ∧ ∀ (g : Nat), g ≤ k → True ∧ sw (decide ((0 : Int) ≤ (↑k : Int) - (1 : Int) - (↑g : Int))) (True ∧ (0 : Int) ≤ IntKind.u64.wrap (IntKind.i64.wrap ((8 : Int) * ((↑k : Int) - (1 : Int) - (↑g : Int)))) ∧
  True ∧ ((b ++ List.take g (be n k)).length + (1 : Nat)) * Try.prog.types[(5 : Nat)].bytes ≤ (140737488355328 : Nat) ∧ True ∧ ∃ (g' : Nat), g' ≤ k ∧ k - g' < k - g ∧
  (IntKind.i64.wrap ((↑k : Int) - (1 : Int) - (↑g : Int) - (1 : Int)) = (↑k : Int) - (1 : Int) - (↑g' : Int) ∧ b ++ List.take g (be n k) ++ [IntKind.u8.wrap (n.fdiv ((2 : Int) ^ min (IntKind.u64.wrap (IntKind.i64.wrap ((8 : Int) * ((↑k : Int) - (1 : Int) - (↑g : Int))))).toNat IntKind.u64.bits))] = b ++ List.take g' (be n k) ∧
  (!false && true && true && ((Nat.ble (3 : Nat) (5 : Nat) || (Nat.beq (2 : Nat) (5 : Nat) || false)) && true)) = true) ∧ (some (SV.c (Value.int IntKind.i64 (IntKind.i64.wrap ((↑k : Int) - (1 : Int))))) = some (SV.c (Value.int IntKind.i64 (IntKind.i64.wrap ((↑k : Int) - (1 : Int))))) ∧
  some (SV.c (Value.int IntKind.i64 (↑k : Int))) = some (SV.c (Value.int IntKind.i64 (↑k : Int))) ∧ some (SV.c (Value.bool (decide ((8 : Int) < (↑k : Int))))) = some (SV.c (Value.bool (decide ((8 : Int) < (↑k : Int))))) ∧
  some (SV.c (Value.bool (decide ((8 : Int) < (↑k : Int))))) = some (SV.c (Value.bool (decide ((8 : Int) < (↑k : Int))))) ∧ some (SV.c (Value.int IntKind.i64 (↑k : Int))) = some (SV.c (Value.int IntKind.i64 (↑k : Int))) ∧
  some (SV.b false) = some (SV.b false) ∧ some (SV.c (Value.bool (decide ((↑k : Int) < (1 : Int))))) = some (SV.c (Value.bool (decide ((↑k : Int) < (1 : Int))))) ∧
  some (SV.c (Value.int IntKind.i64 (↑k : Int))) = some (SV.c (Value.int IntKind.i64 (↑k : Int))) ∧ some (SV.a (2 : Nat)) = some (SV.a (2 : Nat)) ∧ some (SV.a (0 : Nat)) = some (SV.a (0 : Nat)) ∧
  some (SV.a (1 : Nat)) = some (SV.a (1 : Nat)) ∧ some SV.nil = some SV.nil ∧ some (SV.a (0 : Nat)) = some (SV.a (0 : Nat)) ∧ some (SV.c (Value.int IntKind.u64 n)) = some (SV.c (Value.int IntKind.u64 n)) ∧
  some (SV.c (Value.int IntKind.i64 (↑k : Int))) = some (SV.c (Value.int IntKind.i64 (↑k : Int))) ∧ True) ∧ some R.dead = some R.dead ∧ some (R.ro (D.ints IntKind.u8 b)) = some (R.ro (D.ints IntKind.u8 b)) ∧
  True) (b ++ List.take g (be n k) = b ++ be n (↑k : Int).toNat ∧ (!false && true && true) = true))) := by
  simp only [↓sw_iff, ↓Bool.and_eq_true, ↓decide_eq_true_eq, ↓decide_eq_false_iff_not, ↓Bool.not_eq_true', true_and, and_true, Bool.or_false, Nat.ble, Nat.beq, Int.toNat_natCast, Nat.zero_add, List.nil_append, List.length_append, Nat.mul_one, bytes5]
  intro b n k h h1 h2
  unfold sm at h
  refine ⟨by omega, fun e => absurd e (by omega), fun _ => ⟨fun e => absurd e (by omega), fun _ => ⟨0, Nat.zero_le _, by rw [wrap_i64_id (by omega) (by omega)]; omega, by simp, ?_⟩⟩⟩
  intro g hg
  refine ⟨fun ht => ?_, fun ht => ?_⟩
  · have hlt : g < k := by have := ht; omega
    have e : IntKind.u64.wrap (IntKind.i64.wrap (8 * ((k : Int) - 1 - (g : Int)))) = ((8 * (k - 1 - g) : Nat) : Int) := by
      rw [wrap_i64_id (by omega) (by omega), IntKind.wrap_u64]; omega
    have hl : ((be n k).take g).length ≤ g := List.length_take_le _ _
    rw [e]
    refine ⟨by omega, by omega, g + 1, hlt, by omega, by rw [wrap_i64_id (by omega) (by omega)]; omega, ?_⟩
    rw [shr_byte _ (by omega), be_step hlt]
  · have : k ≤ g := by have := ht; omega
    rw [List.take_of_length_le (by rw [be_len]; exact this)]
set_option maxRecDepth 100000 in
theorem ok65 : FnIs Try.prog 65 putC := by
  refine fnIs (C := (ctrs c0)) (by kernel_rfl) c0_ok Try.func65 (code := code65) (by kernel_rfl) (by kernel_rfl) ?_
  rintro a ⟨b, n, k, rfl, h, h1, h2⟩
  exact ⟨anns [(5, putAnn' b n k)] [2], kcast (vc65 b n k h h1 h2) (by kernel_rfl)⟩

noncomputable def code201 : Code := match Try.f201.body with | some c => c | none => .skip
set_option maxHeartbeats 4000000 in
theorem vc201 : ∀ (b : List Int) (i n : Int), sm b.length → okI i → okI n → True ∧ sw (decide (i < (0 : Int))) ((partF b i n).fst = [] ∧ (1 : Int) = (partF b i n).snd ∧
  (true && true) = true) (True ∧ sw (decide (n < (0 : Int))) ((partF b i n).fst = [] ∧ (1 : Int) = (partF b i n).snd ∧ (true && true) = true) (True ∧ sw (decide ((↑b.length : Int) < i)) ((partF b i n).fst = [] ∧
  (3 : Int) = (partF b i n).snd ∧ (true && true) = true) (True ∧ True ∧ sw (decide (IntKind.i64.wrap ((↑b.length : Int) - i) < n)) ((partF b i n).fst = [] ∧
  (3 : Int) = (partF b i n).snd ∧ (true && true) = true) (True ∧ ((0 : Int) ≤ i ∧ i ≤ IntKind.i64.wrap (i + n) ∧ IntKind.i64.wrap (i + n) ≤ (↑b.length : Int)) ∧
  (∃ (l : List Int), [O.d (D.ints IntKind.u8 (List.take ((IntKind.i64.wrap (i + n)).toNat - i.toNat) (List.drop i.toNat b)))] = [O.d (D.ints IntKind.u8 l)] ∧
  sm l.length) ∧ List.take ((IntKind.i64.wrap (i + n)).toNat - i.toNat) (List.drop i.toNat b) = (partF b i n).fst ∧ (0 : Int) = (partF b i n).snd ∧ (!false && true && true) = true)))) := by
  simp only [↓sw_iff, ↓Bool.and_eq_true, ↓decide_eq_true_eq, ↓decide_eq_false_iff_not, ↓Bool.not_eq_true', true_and, and_true]
  intro b i n h h1 h2
  unfold sm at h
  unfold okI at h1 h2
  have e0 : IntKind.i64.wrap ((b.length : Int) - i) = b.length - i := wrap_i64_id (by omega) (by omega)
  have e1 : IntKind.i64.wrap (i + n) = i + n := wrap_i64_id (by omega) (by omega)
  rw [e0, e1]
  have key : partF b i n = if i < 0 ∨ n < 0 then ([], 1) else if (b.length : Int) < i ∨ (b.length : Int) - i < n then ([], 3) else ((b.drop i.toNat).take n.toNat, 0) := rfl
  refine ⟨fun t => ?_, fun t => ⟨fun t1 => ?_, fun t1 => ⟨fun t2 => ?_, fun t2 => ⟨fun t3 => ?_, fun t3 => ?_⟩⟩⟩⟩
  · rw [key, if_pos (.inl t)]; exact ⟨rfl, rfl⟩
  · rw [key, if_pos (.inr t1)]; exact ⟨rfl, rfl⟩
  · rw [key, if_neg (by have := t; have := t1; omega), if_pos (.inl t2)]; exact ⟨rfl, rfl⟩
  · rw [key, if_neg (by have := t; have := t1; omega), if_pos (.inr t3)]; exact ⟨rfl, rfl⟩
  · have a1 := t; have a2 := t1; have a3 := t2; have a4 := t3
    rw [part_get (by omega) (by omega) (by omega) (by omega), show (i + n).toNat - i.toNat = n.toNat by omega]
    have hl : ((b.drop i.toNat).take n.toNat).length ≤ b.length := by rw [List.length_take, List.length_drop]; omega
    exact ⟨by omega, ⟨_, rfl, by unfold sm; omega⟩, rfl, rfl⟩
set_option maxRecDepth 100000 in
theorem ok201 : FnIs Try.prog 201 partC := by
  refine fnIs (C := (ctrs c1)) (by kernel_rfl) c1_ok Try.func201 (code := code201) (by kernel_rfl) (by kernel_rfl) ?_
  rintro a ⟨b, i, n, rfl, h, h1, h2⟩
  exact ⟨anns [] [1, 3], kcast (vc201 b i n h h1 h2) (by kernel_rfl)⟩

noncomputable def code266 : Code := match Try.f266.body with | some c => c | none => .skip
set_option maxHeartbeats 4000000 in
theorem vc266 : ∀ (b : List Int) (i n : Int), sm b.length → okI i → okI n → True ∧ sw (decide (i < (0 : Int))) ((partF b i n).fst = [] ∧ (1 : Int) = (partF b i n).snd ∧
  (true && true) = true) (True ∧ sw (decide (n < (0 : Int))) ((partF b i n).fst = [] ∧ (1 : Int) = (partF b i n).snd ∧ (true && true) = true) (True ∧ sw (decide ((↑b.length : Int) < i)) ((partF b i n).fst = [] ∧
  (3 : Int) = (partF b i n).snd ∧ (true && true) = true) (True ∧ True ∧ sw (decide (IntKind.i64.wrap ((↑b.length : Int) - i) < n)) ((partF b i n).fst = [] ∧
  (3 : Int) = (partF b i n).snd ∧ (true && true) = true) (True ∧ ((0 : Int) ≤ i ∧ i ≤ IntKind.i64.wrap (i + n) ∧ IntKind.i64.wrap (i + n) ≤ (↑b.length : Int)) ∧
  True ∧ ((0 : Nat) + (List.take ((IntKind.i64.wrap (i + n)).toNat - i.toNat) (List.drop i.toNat b)).length) * Try.prog.types[(5 : Nat)].bytes ≤ (140737488355328 : Nat) ∧
  [] ++ List.take ((IntKind.i64.wrap (i + n)).toNat - i.toNat) (List.drop i.toNat b) = (partF b i n).fst ∧ (0 : Int) = (partF b i n).snd ∧ (!false && true && true) = true)))) := by
  simp only [↓sw_iff, ↓Bool.and_eq_true, ↓decide_eq_true_eq, ↓decide_eq_false_iff_not, ↓Bool.not_eq_true', true_and, and_true, Nat.zero_add, List.nil_append, Nat.mul_one, bytes5]
  intro b i n h h1 h2
  unfold sm at h
  unfold okI at h1 h2
  have e0 : IntKind.i64.wrap ((b.length : Int) - i) = b.length - i := wrap_i64_id (by omega) (by omega)
  have e1 : IntKind.i64.wrap (i + n) = i + n := wrap_i64_id (by omega) (by omega)
  rw [e0, e1]
  have key : partF b i n = if i < 0 ∨ n < 0 then ([], 1) else if (b.length : Int) < i ∨ (b.length : Int) - i < n then ([], 3) else ((b.drop i.toNat).take n.toNat, 0) := rfl
  refine ⟨fun t => ?_, fun t => ⟨fun t1 => ?_, fun t1 => ⟨fun t2 => ?_, fun t2 => ⟨fun t3 => ?_, fun t3 => ?_⟩⟩⟩⟩
  · rw [key, if_pos (.inl t)]; exact ⟨rfl, rfl⟩
  · rw [key, if_pos (.inr t1)]; exact ⟨rfl, rfl⟩
  · rw [key, if_neg (by have := t; have := t1; omega), if_pos (.inl t2)]; exact ⟨rfl, rfl⟩
  · rw [key, if_neg (by have := t; have := t1; omega), if_pos (.inr t3)]; exact ⟨rfl, rfl⟩
  · have a1 := t; have a2 := t1; have a3 := t2; have a4 := t3
    rw [part_get (by omega) (by omega) (by omega) (by omega), show (i + n).toNat - i.toNat = n.toNat by omega]
    have hl : ((b.drop i.toNat).take n.toNat).length ≤ b.length := by rw [List.length_take, List.length_drop]; omega
    exact ⟨by omega, by omega, rfl, rfl⟩
set_option maxRecDepth 100000 in
theorem ok266 : FnIs Try.prog 266 partC := by
  refine fnIs (C := (ctrs c0)) (by kernel_rfl) c0_ok Try.func266 (code := code266) (by kernel_rfl) (by kernel_rfl) ?_
  rintro a ⟨b, i, n, rfl, h, h1, h2⟩
  exact ⟨anns [] [1, 3], kcast (vc266 b i n h h1 h2) (by kernel_rfl)⟩

theorem c2_ok : COk Try.prog (ctrs c2) := cok_cons ok201 (cok_cons ok266 cok_nil)

noncomputable def code205 : Code := match Try.f205.body with | some c => c | none => .skip
set_option maxHeartbeats 4000000 in
theorem vc205 : ∀ (b : List Int) (i : Int) (k : Nat), sm b.length → okB b → okI i → (1 : Nat) ≤ k → k ≤ (8 : Nat) → True ∧ sw (decide ((↑k : Int) < (1 : Int))) ((0 : Int) = valF (partF b i (↑(↑k : Int).toNat : Int)).fst ∧
  (1 : Int) = (partF b i (↑(↑k : Int).toNat : Int)).snd ∧ (true && true) = true) (True ∧ sw (decide ((8 : Int) < (↑k : Int))) ((0 : Int) = valF (partF b i (↑(↑k : Int).toNat : Int)).fst ∧
  (1 : Int) = (partF b i (↑(↑k : Int).toNat : Int)).snd ∧ (true && true) = true) ((∃ (b_1 : List Int), ∃ (i_1 : Int), ∃ (n : Int), [O.d (D.ints IntKind.u8 b), O.d (D.v (Value.int IntKind.i64 i)), O.d (D.v (Value.int IntKind.i64 (↑k : Int)))] = [O.d (D.ints IntKind.u8 b_1), O.d (D.v (Value.int IntKind.i64 i_1)), O.d (D.v (Value.int IntKind.i64 n))] ∧
  sm b_1.length ∧ okI i_1 ∧ okI n) ∧ ∃ (g0 : Nat), g0 ≤ (partF b i (↑k : Int)).fst.length ∧ (0 : Int) = (↑g0 : Int) ∧ (0 : Int) = valF (List.take g0 (partF b i (↑k : Int)).fst) ∧
  (true && true) = true ∧ ∀ (g : Nat), g ≤ (partF b i (↑k : Int)).fst.length → True ∧ sw (decide ((↑g : Int) < (↑(partF b i (↑k : Int)).fst.length : Int))) (((0 : Int) ≤ (↑g : Int) ∧
  (↑g : Int) < (↑(partF b i (↑k : Int)).fst.length : Int)) ∧ (0 : Int) ≤ (8 : Int) ∧ True ∧ True ∧ ∃ (g' : Nat), g' ≤ (partF b i (↑k : Int)).fst.length ∧
  (partF b i (↑k : Int)).fst.length - g' < (partF b i (↑k : Int)).fst.length - g ∧ (IntKind.i64.wrap ((↑g : Int) + (1 : Int)) = (↑g' : Int) ∧ bits BinOp.or IntKind.u64 (IntKind.u64.wrap (valF (List.take g (partF b i (↑k : Int)).fst) * (2 : Int) ^ min (Int.toNat (8 : Int)) IntKind.u64.bits)) (IntKind.u64.wrap ((partF b i (↑k : Int)).fst.getD (↑g : Int).toNat (0 : Int))) = valF (List.take g' (partF b i (↑k : Int)).fst) ∧
  (true && true && true) = true) ∧ (some (SV.c (Value.int IntKind.i64 (↑(partF b i (↑k : Int)).fst.length : Int))) = some (SV.c (Value.int IntKind.i64 (↑(partF b i (↑k : Int)).fst.length : Int))) ∧
  some (SV.a (1 : Nat)) = some (SV.a (1 : Nat)) ∧ some (SV.c (Value.int IntKind.i64 (partF b i (↑k : Int)).snd)) = some (SV.c (Value.int IntKind.i64 (partF b i (↑k : Int)).snd)) ∧
  some (SV.a (1 : Nat)) = some (SV.a (1 : Nat)) ∧ some (SV.c (Value.int IntKind.i64 (partF b i (↑k : Int)).snd)) = some (SV.c (Value.int IntKind.i64 (partF b i (↑k : Int)).snd)) ∧
  some (SV.a (1 : Nat)) = some (SV.a (1 : Nat)) ∧ some (SV.tup [SV.a (1 : Nat), SV.c (Value.int IntKind.i64 (partF b i (↑k : Int)).snd)]) = some (SV.tup [SV.a (1 : Nat), SV.c (Value.int IntKind.i64 (partF b i (↑k : Int)).snd)]) ∧
  some (SV.tup [SV.a (1 : Nat), SV.c (Value.int IntKind.i64 (partF b i (↑k : Int)).snd)]) = some (SV.tup [SV.a (1 : Nat), SV.c (Value.int IntKind.i64 (partF b i (↑k : Int)).snd)]) ∧
  some (SV.c (Value.int IntKind.i64 (↑k : Int))) = some (SV.c (Value.int IntKind.i64 (↑k : Int))) ∧ some (SV.c (Value.int IntKind.i64 i)) = some (SV.c (Value.int IntKind.i64 i)) ∧
  some (SV.a (0 : Nat)) = some (SV.a (0 : Nat)) ∧ some (SV.c (Value.bool (decide ((8 : Int) < (↑k : Int))))) = some (SV.c (Value.bool (decide ((8 : Int) < (↑k : Int))))) ∧
  some (SV.c (Value.bool (decide ((8 : Int) < (↑k : Int))))) = some (SV.c (Value.bool (decide ((8 : Int) < (↑k : Int))))) ∧ some (SV.c (Value.int IntKind.i64 (↑k : Int))) = some (SV.c (Value.int IntKind.i64 (↑k : Int))) ∧
  some (SV.b false) = some (SV.b false) ∧ some (SV.c (Value.bool (decide ((↑k : Int) < (1 : Int))))) = some (SV.c (Value.bool (decide ((↑k : Int) < (1 : Int))))) ∧
  some (SV.c (Value.int IntKind.i64 (↑k : Int))) = some (SV.c (Value.int IntKind.i64 (↑k : Int))) ∧ some (SV.a (0 : Nat)) = some (SV.a (0 : Nat)) ∧ some (SV.c (Value.int IntKind.i64 i)) = some (SV.c (Value.int IntKind.i64 i)) ∧
  some (SV.c (Value.int IntKind.i64 (↑k : Int))) = some (SV.c (Value.int IntKind.i64 (↑k : Int))) ∧ True) ∧ some (R.own (5 : Nat) (D.ints IntKind.u8 (partF b i (↑k : Int)).fst)) = some (R.own (5 : Nat) (D.ints IntKind.u8 (partF b i (↑k : Int)).fst)) ∧
  some (R.ro (D.ints IntKind.u8 b)) = some (R.ro (D.ints IntKind.u8 b)) ∧ True) (valF (List.take g (partF b i (↑k : Int)).fst) = valF (partF b i (↑(↑k : Int).toNat : Int)).fst ∧
  (partF b i (↑k : Int)).snd = (partF b i (↑(↑k : Int).toNat : Int)).snd ∧ (true && true) = true))) := by
  simp only [↓sw_iff, ↓Bool.and_eq_true, ↓decide_eq_true_eq, ↓decide_eq_false_iff_not, true_and, and_true, Int.toNat_natCast]
  intro b i k h hb h1 h2 h3
  have hp := part_ok hb i (k : Int)
  have hl := part_len (b := b) (i := i) (k := k)
  refine ⟨fun t => absurd t (by omega), fun _ => ⟨fun t => absurd t (by omega), fun _ => ⟨⟨b, i, k, rfl, h, h1, by unfold okI; omega⟩, 0, Nat.zero_le _, rfl, rfl, ?_⟩⟩⟩
  intro g hg
  refine ⟨fun t => ?_, fun t => ?_⟩
  · have hlt : g < (partF b i (k : Int)).1.length := by have := t; omega
    have hx := okB_getD hp g
    have hv := val_small (okB_take hp g) (by rw [List.length_take]; omega)
    refine ⟨⟨by omega, by omega⟩, by omega, g + 1, hlt, by omega, by rw [wrap_i64_id (by omega) (by omega)]; rfl, ?_⟩
    rw [or_byte hv.1 hv.2 hx.1 hx.2, take_succ_getD hlt, val_snoc]
  · rw [List.take_of_length_le (by have := t; omega)]
set_option maxRecDepth 100000 in
theorem ok205 : FnIs Try.prog 205 (getC 8) := by
  refine fnIs (C := (ctrs c2)) (by kernel_rfl) c2_ok Try.func205 (code := code205) (by kernel_rfl) (by kernel_rfl) ?_
  rintro a ⟨b, i, k, rfl, h, hb, h1, h2, h3⟩
  exact ⟨anns [(5, valAnn 26 6 (partF b i k).1)] [1], kcast (vc205 b i k h hb h1 h2 h3) (by kernel_rfl)⟩

noncomputable def code245 : Code := match Try.f245.body with | some c => c | none => .skip
set_option maxHeartbeats 4000000 in
theorem vc245 : ∀ (b : List Int) (i : Int) (k : Nat), sm b.length → okB b → okI i → (1 : Nat) ≤ k → k ≤ (8 : Nat) → True ∧ sw (decide ((↑k : Int) < (1 : Int))) ((0 : Int) = valF (partF b i (↑(↑k : Int).toNat : Int)).fst ∧
  (1 : Int) = (partF b i (↑(↑k : Int).toNat : Int)).snd ∧ (true && true) = true) (True ∧ sw (decide ((8 : Int) < (↑k : Int))) ((0 : Int) = valF (partF b i (↑(↑k : Int).toNat : Int)).fst ∧
  (1 : Int) = (partF b i (↑(↑k : Int).toNat : Int)).snd ∧ (true && true) = true) (True ∧ sw (decide (i < (0 : Int))) ((0 : Int) = valF (partF b i (↑(↑k : Int).toNat : Int)).fst ∧
  (1 : Int) = (partF b i (↑(↑k : Int).toNat : Int)).snd ∧ (true && true) = true) ((∃ (b_1 : List Int), ∃ (i_1 : Int), ∃ (n : Int), [O.d (D.ints IntKind.u8 b), O.d (D.v (Value.int IntKind.i64 i)), O.d (D.v (Value.int IntKind.i64 (↑k : Int)))] = [O.d (D.ints IntKind.u8 b_1), O.d (D.v (Value.int IntKind.i64 i_1)), O.d (D.v (Value.int IntKind.i64 n))] ∧
  sm b_1.length ∧ okI i_1 ∧ okI n) ∧ True ∧ sw (!decide ((partF b i (↑k : Int)).snd = (0 : Int))) ((0 : Int) = valF (partF b i (↑(↑k : Int).toNat : Int)).fst ∧
  (partF b i (↑k : Int)).snd = (partF b i (↑(↑k : Int).toNat : Int)).snd ∧ (true && true) = true) (∃ (g0 : Nat), g0 ≤ (partF b i (↑k : Int)).fst.length ∧
  (0 : Int) = (↑g0 : Int) ∧ (0 : Int) = valF (List.take g0 (partF b i (↑k : Int)).fst) ∧ (true && true) = true ∧ ∀ (g : Nat), g ≤ (partF b i (↑k : Int)).fst.length →
  True ∧ sw (decide ((↑g : Int) < (↑(partF b i (↑k : Int)).fst.length : Int))) (True ∧ ((0 : Int) ≤ (↑g : Int) ∧ (↑g : Int) < (↑(partF b i (↑k : Int)).fst.length : Int)) ∧
  True ∧ True ∧ ∃ (g' : Nat), g' ≤ (partF b i (↑k : Int)).fst.length ∧ (partF b i (↑k : Int)).fst.length - g' < (partF b i (↑k : Int)).fst.length - g ∧ (IntKind.i64.wrap ((↑g : Int) + (1 : Int)) = (↑g' : Int) ∧
  IntKind.u64.wrap (IntKind.u64.wrap (valF (List.take g (partF b i (↑k : Int)).fst) * (256 : Int)) + IntKind.u64.wrap ((partF b i (↑k : Int)).fst.getD (↑g : Int).toNat (0 : Int))) = valF (List.take g' (partF b i (↑k : Int)).fst) ∧
  (true && true && true) = true) ∧ (some (SV.c (Value.bool !decide ((partF b i (↑k : Int)).snd = (0 : Int)))) = some (SV.c (Value.bool !decide ((partF b i (↑k : Int)).snd = (0 : Int)))) ∧
  some (SV.c (Value.int IntKind.i64 (partF b i (↑k : Int)).snd)) = some (SV.c (Value.int IntKind.i64 (partF b i (↑k : Int)).snd)) ∧ some (SV.c (Value.int IntKind.i64 (partF b i (↑k : Int)).snd)) = some (SV.c (Value.int IntKind.i64 (partF b i (↑k : Int)).snd)) ∧
  some (SV.a (1 : Nat)) = some (SV.a (1 : Nat)) ∧ some (SV.c (Value.int IntKind.i64 (partF b i (↑k : Int)).snd)) = some (SV.c (Value.int IntKind.i64 (partF b i (↑k : Int)).snd)) ∧
  some (SV.a (1 : Nat)) = some (SV.a (1 : Nat)) ∧ some (SV.tup [SV.a (1 : Nat), SV.c (Value.int IntKind.i64 (partF b i (↑k : Int)).snd)]) = some (SV.tup [SV.a (1 : Nat), SV.c (Value.int IntKind.i64 (partF b i (↑k : Int)).snd)]) ∧
  some (SV.tup [SV.a (1 : Nat), SV.c (Value.int IntKind.i64 (partF b i (↑k : Int)).snd)]) = some (SV.tup [SV.a (1 : Nat), SV.c (Value.int IntKind.i64 (partF b i (↑k : Int)).snd)]) ∧
  some (SV.c (Value.int IntKind.i64 (↑k : Int))) = some (SV.c (Value.int IntKind.i64 (↑k : Int))) ∧ some (SV.c (Value.int IntKind.i64 i)) = some (SV.c (Value.int IntKind.i64 i)) ∧
  some (SV.a (0 : Nat)) = some (SV.a (0 : Nat)) ∧ some (SV.c (Value.bool (decide (i < (0 : Int))))) = some (SV.c (Value.bool (decide (i < (0 : Int))))) ∧
  some (SV.c (Value.bool (decide (i < (0 : Int))))) = some (SV.c (Value.bool (decide (i < (0 : Int))))) ∧ some (SV.c (Value.int IntKind.i64 i)) = some (SV.c (Value.int IntKind.i64 i)) ∧
  some (SV.b false) = some (SV.b false) ∧ some (SV.c (Value.bool (decide ((8 : Int) < (↑k : Int))))) = some (SV.c (Value.bool (decide ((8 : Int) < (↑k : Int))))) ∧
  some (SV.c (Value.bool (decide ((8 : Int) < (↑k : Int))))) = some (SV.c (Value.bool (decide ((8 : Int) < (↑k : Int))))) ∧ some (SV.c (Value.int IntKind.i64 (↑k : Int))) = some (SV.c (Value.int IntKind.i64 (↑k : Int))) ∧
  some (SV.b false) = some (SV.b false) ∧ some (SV.c (Value.bool (decide ((↑k : Int) < (1 : Int))))) = some (SV.c (Value.bool (decide ((↑k : Int) < (1 : Int))))) ∧
  some (SV.c (Value.int IntKind.i64 (↑k : Int))) = some (SV.c (Value.int IntKind.i64 (↑k : Int))) ∧ some (SV.c (Value.int IntKind.i64 (0 : Int))) = some (SV.c (Value.int IntKind.i64 (0 : Int))) ∧
  some (SV.c (Value.int IntKind.u64 (0 : Int))) = some (SV.c (Value.int IntKind.u64 (0 : Int))) ∧ some (SV.a (0 : Nat)) = some (SV.a (0 : Nat)) ∧ some (SV.c (Value.int IntKind.i64 i)) = some (SV.c (Value.int IntKind.i64 i)) ∧
  some (SV.c (Value.int IntKind.i64 (↑k : Int))) = some (SV.c (Value.int IntKind.i64 (↑k : Int))) ∧ True) ∧ some (R.own (5 : Nat) (D.ints IntKind.u8 (partF b i (↑k : Int)).fst)) = some (R.own (5 : Nat) (D.ints IntKind.u8 (partF b i (↑k : Int)).fst)) ∧
  some (R.ro (D.ints IntKind.u8 b)) = some (R.ro (D.ints IntKind.u8 b)) ∧ True) (valF (List.take g (partF b i (↑k : Int)).fst) = valF (partF b i (↑(↑k : Int).toNat : Int)).fst ∧
  (0 : Int) = (partF b i (↑(↑k : Int).toNat : Int)).snd ∧ (true && true) = true))))) := by
  simp only [↓sw_iff, ↓Bool.and_eq_true, ↓decide_eq_true_eq, ↓decide_eq_false_iff_not, ↓Bool.not_eq_true', ↓Bool.not_eq_false', true_and, and_true, Int.toNat_natCast]
  intro b i k h hb h1 h2 h3
  have hp := part_ok hb i (k : Int)
  have hl := part_len (b := b) (i := i) (k := k)
  have he := part_err b i (k : Int)
  refine ⟨fun t => absurd t (by omega), fun _ => ⟨fun t => absurd t (by omega), fun _ => ⟨fun t => ?_, fun _ => ⟨⟨b, i, k, rfl, h, h1, by unfold okI; omega⟩, fun t => ?_, fun t => ⟨0, Nat.zero_le _, rfl, rfl, ?_⟩⟩⟩⟩⟩
  · have key : partF b i (k : Int) = ([], 1) := by unfold partF; rw [if_pos (.inl t)]
    rw [key]; exact ⟨rfl, rfl⟩
  · rw [he t]; rfl
  have he0 : (partF b i (k : Int)).2 = 0 := t
  intro g hg
  refine ⟨fun t => ?_, fun t => ?_⟩
  · have hlt : g < (partF b i (k : Int)).1.length := by have := t; omega
    have hx := okB_getD hp g
    have hv := val_small (okB_take hp g) (by rw [List.length_take]; omega)
    have hv2 : valF ((partF b i (k : Int)).1.take g) < 72057594037927936 := hv.2
    refine ⟨⟨by omega, by omega⟩, g + 1, hlt, by omega, by rw [wrap_i64_id (by omega) (by omega)]; rfl, ?_⟩
    rw [take_succ_getD hlt, val_snoc, IntKind.wrap_u64, IntKind.wrap_u64, IntKind.wrap_u64]
    omega
  · rw [List.take_of_length_le (by have := t; omega)]
    exact ⟨rfl, he0.symm⟩
set_option maxRecDepth 100000 in
theorem ok245 : FnIs Try.prog 245 (getC 8) := by
  refine fnIs (C := (ctrs c2)) (by kernel_rfl) c2_ok Try.func245 (code := code245) (by kernel_rfl) (by kernel_rfl) ?_
  rintro a ⟨b, i, k, rfl, h, hb, h1, h2, h3⟩
  exact ⟨anns [(8, valAnn 11 10 (partF b i k).1)] [1], kcast (vc245 b i k h hb h1 h2 h3) (by kernel_rfl)⟩

theorem c3_ok : COk Try.prog (ctrs c3) := cok_cons ok245 cok_nil

noncomputable def code212 : Code := match Try.f212.body with | some c => c | none => .skip
set_option maxHeartbeats 4000000 in
theorem vc212 : ∀ (b : List Int) (i : Int) (k : Nat), sm b.length → okB b → okI i → (1 : Nat) ≤ k → k ≤ (7 : Nat) → (∃ (b_1 : List Int), ∃ (i_1 : Int), ∃ (k_1 : Nat), [O.d (D.ints IntKind.u8 b), O.d (D.v (Value.int IntKind.i64 i)), O.d (D.v (Value.int IntKind.i64 (↑k : Int)))] = [O.d (D.ints IntKind.u8 b_1), O.d (D.v (Value.int IntKind.i64 i_1)), O.d (D.v (Value.int IntKind.i64 (↑k_1 : Int)))] ∧
  sm b_1.length ∧ okB b_1 ∧ okI i_1 ∧ (1 : Nat) ≤ k_1 ∧ k_1 ≤ (8 : Nat)) ∧ IntKind.i64.wrap (valF (partF b i (↑(↑k : Int).toNat : Int)).fst) = valF (partF b i (↑(↑k : Int).toNat : Int)).fst ∧
  (true && true) = true := by
  simp only [↓Bool.and_eq_true, and_true, Int.toNat_natCast]
  intro b i k h hb h1 h2 h3
  refine ⟨⟨b, i, k, rfl, h, hb, h1, h2, by omega⟩, ?_⟩
  have hs := val_small (part_ok hb i (k : Int)) (Nat.le_trans part_len h3)
  have h7 : (256 : Int) ^ 7 = 72057594037927936 := rfl
  rw [wrap_i64_id (by omega) (by omega)]
set_option maxRecDepth 100000 in
theorem ok212 : FnIs Try.prog 212 numC := by
  refine fnIs (C := (ctrs c3)) (by kernel_rfl) c3_ok Try.func212 (code := code212) (by kernel_rfl) (by kernel_rfl) ?_
  rintro a ⟨b, i, k, rfl, h, hb, h1, h2, h3⟩
  exact ⟨anns [], kcast (vc212 b i k h hb h1 h2 h3) (by kernel_rfl)⟩

end Go.ZR

/- Chunks: data, plain functions, contracts. -/
namespace Go.ZM
open Go.Z Go.ZR

structure ChR where
  t : Int
  f : Int
  v : List Int
def noCh : ChR := ⟨0, 0, []⟩
def chCell (l : List ChR) (i j : Nat) : D :=
  match j with
  | 0 => .v (.int .u8 (l.getD i noCh).t)
  | 1 => .v (.int .u8 (l.getD i noCh).f)
  | _ => .ints .u8 (l.getD i noCh).v
def chAt (g : Nat → D) : ChR := ⟨vi (g 0), vi (g 1), vl (g 2)⟩
def chsOf : D → List ChR
  | .recs _ n f => (List.range n).map fun i => chAt (f i)
  | _ => []
theorem range_getD {α : Type} (l : List α) (d : α) : (List.range l.length).map (fun i => l.getD i d) = l := by
  apply List.ext_getElem
  · simp
  · intro i h1 h2; simp [List.getD, List.getElem?_eq_getElem h2]
theorem chsOf_chs (l : List ChR) : chsOf (.recs 3 l.length (chCell l)) = l := range_getD l noCh

def chB (c : ChR) : List Int := [c.t, c.f] ++ (be (4 + (c.v.length : Int)) 2 ++ padF c.v)
def putB (l : List ChR) : List Int := l.flatMap chB
/-- Chunks as bytes, and the error. -/
def putR (l : List ChR) : List Int × Int := if 32 < l.length ∨ 4096 < (putB l).length then ([], 4) else (putB l, 0)
def someNZ (l : List Int) : Bool := l.any fun x => decide (0 < x)
/-- The first chunk's number. -/
def numF (b : List Int) : Nat := (valF ((b.drop 2).take 2)).toNat
/-- The first chunk of bytes; how many it takes; the error. -/
def firstF (b : List Int) : ChR × Nat × Int :=
  if b.length < 4 then (noCh, 0, 3) else
  if numF b < 4 then (noCh, 0, 2) else
  if b.length < numF b + padN (numF b) then (noCh, 0, 3) else
  if someNZ ((b.drop (numF b)).take (padN (numF b))) = true then (noCh, 0, 2) else
  (⟨b.getD 0 0, b.getD 1 0, (b.drop 4).take (numF b - 4)⟩, numF b + padN (numF b), 0)
def getG : Nat → List ChR → List Int → List ChR × Int
  | 0, _, _ => ([], 4)
  | f + 1, l, b => if b.length = 0 then (l, 0) else if 32 ≤ l.length then ([], 4) else
    if (firstF b).2.2 = 0 then getG f (l ++ [(firstF b).1]) (b.drop (firstF b).2.1) else ([], (firstF b).2.2)
def getR (b : List Int) : List ChR × Int := if 4096 < b.length then ([], 4) else getG 33 [] b
def sameCh (c d : ChR) : Bool := decide (c.t = d.t) && decide (c.f = d.f) && decide (bstr c.v = bstr d.v)
def sameChs (l m : List ChR) : Bool := (List.range (min l.length m.length)).all (fun i => sameCh (l.getD i noCh) (m.getD i noCh)) && decide (l.length = m.length)
def okCh (c : ChR) : Prop := sm c.v.length
def okChs (l : List ChR) : Prop := l.length ≤ 1073741824 ∧ ∀ c, c ∈ l → sm c.v.length
end Go.ZM
namespace Go.ZR
open Go.Z Go.ZM
def chsD (l : List ChR) : D := .recs 3 l.length (chCell l)
def chO (c : ChR) : O := .agg [iO .u8 c.t, iO .u8 c.f, bsO c.v]
def chN (c : ChR) : O := .agg [iO .u8 c.t, iO .u8 c.f, bsN c.v]
def chOf : O → ChR
  | .agg [t, f, v] => ⟨vi (dO t), vi (dO f), vl (dO v)⟩
  | _ => noCh
/-- As nC; results may share what is read. -/
def rC (n : Nat) (pre : List O → Prop) (res : List O → List O) : Ctr where
  own := []
  pre := pre
  res := res
  upd := fun _ => List.replicate n .any
  ro := true
  quiet := false
def ownC : Ctr := rC 1 (fun a => ∃ l, a = [.d (chsD l)] ∧ okChs l) fun a => [.own 38 (chsD (chsOf (dO (at_ a 0))))]
def putsC : Ctr := nC 1 false (fun a => ∃ l, a = [.d (chsD l)] ∧ okChs l) fun a => [bsN (putR (chsOf (dO (at_ a 0)))).1, iO .i64 (putR (chsOf (dO (at_ a 0)))).2]
def sizeC : Ctr := nC 1 true (fun a => ∃ c, a = [chO c] ∧ okCh c) fun a => [iO .i64 ((chB (chOf (at_ a 0))).length : Nat)]
def ansC : Ctr := nC 0 true (fun a => a = []) fun _ => [bO true]
def nzD : D := fnD 0 0 []
def nzC : Ctr := nC 2 true (fun a => ∃ l, a = [bsO l, .d nzD] ∧ sm l.length) fun a => [bO (someNZ (vl (dO (at_ a 0))))]
def firstC : Ctr := nC 1 false (fun a => ∃ b, a = [bsO b] ∧ sm b.length ∧ okB b) fun a =>
  [chN (firstF (vl (dO (at_ a 0)))).1, iO .i64 ((firstF (vl (dO (at_ a 0)))).2.1 : Nat), iO .i64 (firstF (vl (dO (at_ a 0)))).2.2]
def getsC : Ctr := rC 1 (fun a => ∃ b, a = [bsO b] ∧ sm b.length ∧ okB b) fun a => [.own 38 (chsD (getR (vl (dO (at_ a 0)))).1), iO .i64 (getR (vl (dO (at_ a 0)))).2]
def sameC : Ctr := nC 2 true (fun a => ∃ c d, a = [chO c, chO d]) fun a => [bO (sameCh (chOf (at_ a 0)) (chOf (at_ a 1)))]
def samesC : Ctr := nC 2 true (fun a => ∃ l m, a = [.d (chsD l), .d (chsD m)] ∧ okChs l ∧ okChs m) fun a => [bO (sameChs (chsOf (dO (at_ a 0))) (chsOf (dO (at_ a 1))))]

def ownAnn (l : List ChR) : LoopAnn where
  γ := Nat
  pre := fun i => i ≤ l.length
  μ := fun i => l.length - i
  items := fun i => [(4, .c (iO .i64 (i : Int))), (3, .c (.own 38 (chsD (l.take i))))]
def sizeAnn (l : List ChR) : LoopAnn where
  γ := Nat
  pre := fun i => i ≤ l.length ∧ (putB (l.take i)).length ≤ 4096
  μ := fun i => l.length - i
  items := fun i => [(15, .c (iO .i64 (i : Int))), (4, .c (iO .i64 ((putB (l.take i)).length : Nat)))]
def outAnn (s t : Nat) (l : List ChR) : LoopAnn where
  γ := Nat
  pre := fun i => i ≤ l.length ∧ (putB (l.take i)).length ≤ 4096
  μ := fun i => l.length - i
  items := fun i => [(s, .c (iO .i64 (i : Int))), (t, .c (bsN (putB (l.take i))))]
def firstAnn : LoopF := .fam (List Int) fun l =>
  { γ := Nat, pre := fun i => i ≤ l.length ∧ ∀ j, j < i → ¬ 0 < l.getD j 0, μ := fun i => l.length - i, items := fun i => [(8, .c (iO .i64 (i : Int)))] }
def getAnn (b : List Int) : LoopAnn where
  γ := List ChR × List Int
  pre := fun g => g.1.length ≤ 32 ∧ g.2.length ≤ 4096 ∧ okB g.2 ∧ getG (33 - g.1.length) g.1 g.2 = getG 33 [] b
  μ := fun g => 33 - g.1.length
  items := fun g => [(4, .c (.own 38 (chsD g.1))), (0, .c (bsO g.2))]
def getAnn' (b : List Int) : LoopAnn where
  γ := List ChR × Nat
  pre := fun g => g.1.length ≤ 32 ∧ g.2 ≤ b.length ∧ getG (33 - g.1.length) g.1 (b.drop g.2) = getG 33 [] b
  μ := fun g => 33 - g.1.length
  items := fun g => [(4, .c (.own 38 (chsD g.1))), (5, .c (iO .i64 (g.2 : Int)))]
def padAnn (b : List Int) : LoopF := .fam (Nat × Nat) fun p =>
  { γ := Nat, pre := fun i => p.1 ≤ i ∧ i ≤ p.2 ∧ ∀ j, p.1 ≤ j → j < i → b.getD j 0 = 0, μ := fun i => p.2 - i, items := fun i => [(8, .c (iO .i64 (i : Int)))] }
def samesAnn (l m : List ChR) : LoopAnn where
  γ := Nat
  pre := fun i => i ≤ l.length ∧ i ≤ m.length ∧ ∀ j, j < i → sameCh (l.getD j noCh) (m.getD j noCh) = true
  μ := fun i => l.length - i
  items := fun i => [(5, .c (iO .i64 (i : Int)))]
def c4 : List (Nat × Ctr) := [(241, padC)]
def c5 : List (Nat × Ctr) := [(198, putC), (199, paddedC)]
def c6 : List (Nat × Ctr) := [(65, putC), (156, paddedC)]
def c7 : List (Nat × Ctr) := [(205, getC 8), (241, padC), (201, partC), (82, cloneC)]
def c8 : List (Nat × Ctr) := []
def c9 : List (Nat × Ctr) := [(212, numC)]
def c10 : List (Nat × Ctr) := [(118, sameC)]
end Go.ZR

/- Chunks: walked. -/
namespace Go.ZR
open Go.Proofs
open Go.Z Go.ZM Go.RowKit
set_option maxRecDepth 100000

theorem bytes38 : Try.prog.types[(38 : Nat)].bytes = 32 := by kernel_rfl
theorem size38 : Try.prog.types[(38 : Nat)].size = 3 := by kernel_rfl
theorem chB_len (c : ChR) : (chB c).length = 4 + c.v.length + padN c.v.length := by simp [chB, be_len, padF_len]; omega
theorem putB_take {l : List ChR} {i : Nat} (h : i < l.length) : putB (l.take (i + 1)) = putB (l.take i) ++ chB (l.getD i noCh) := by
  unfold putB
  rw [List.take_succ_eq_append_getElem h, List.flatMap_append, show l.getD i noCh = l[i] by simp [List.getD, List.getElem?_eq_getElem h]]
  simp
theorem getD_mem {α : Type} {l : List α} {d : α} {i : Nat} (h : i < l.length) : l.getD i d ∈ l := by
  rw [show l.getD i d = l[i] by simp [List.getD, List.getElem?_eq_getElem h]]; exact List.getElem_mem h
theorem ch_cell {l : List ChR} {i : Nat} {c : ChR} (h : l.getD i noCh = c) {j : Nat} (hj : j < 3) : [D.v (.int .u8 c.t), D.v (.int .u8 c.f), D.ints .u8 c.v].getD j (D.v undef) = chCell l i j := by
  subst h
  match j, hj with
  | 0, _ => rfl
  | 1, _ => rfl
  | 2, _ => rfl
theorem blt_t {a b : Nat} (h : a < b) : a.blt b = true := by simpa [Nat.blt_eq] using h
theorem blt_f {a b : Nat} (h : ¬ a < b) : a.blt b = false := by
  cases e : a.blt b with
  | false => rfl
  | true => exact absurd (by simpa [Nat.blt_eq] using e) h
theorem app_ch (l : List ChR) (c : ChR) {i j : Nat} (hi : i < l.length + 1) (hj : j < 3) :
    (bif i.blt l.length then chCell l i j else [D.v (.int .u8 c.t), D.v (.int .u8 c.f), D.ints .u8 c.v].getD ((i - l.length) * 3 + j) (D.v undef)) = chCell (l ++ [c]) i j := by
  by_cases h : i < l.length
  · have e : (l ++ [c]).getD i noCh = l.getD i noCh := by simp [List.getD, List.getElem?_append_left h]
    rw [blt_t h, _root_.cond_true]
    unfold chCell
    rw [e]
  · have hi' : i = l.length := by omega
    have e : (l ++ [c]).getD i noCh = c := by subst hi'; simp [List.getD]
    rw [blt_f h, _root_.cond_false, show (i - l.length) * 3 + j = j by omega]
    exact ch_cell e hj
theorem take_ch {l : List ChR} {i : Nat} (h : i < l.length) : l.take (i + 1) = l.take i ++ [l.getD i noCh] := by
  rw [List.take_succ_eq_append_getElem h, show l.getD i noCh = l[i] by simp [List.getD, List.getElem?_eq_getElem h]]
theorem bytes_dec (a b : ByteArray) : decide (a.data.toList = b.data.toList) = decide (a = b) := by
  rw [decide_eq_decide]
  constructor
  · intro h
    cases a; cases b
    simp only [ByteArray.mk.injEq]
    exact Array.ext' h
  · rintro rfl; rfl
theorem toNat2 : Int.toNat 2 = 2 := rfl
theorem toNat4 : Int.toNat 4 = 4 := rfl
theorem toNat0 : Int.toNat 0 = 0 := rfl
theorem toNat1 : Int.toNat 1 = 1 := rfl
theorem chB_eta (c : ChR) : chB ⟨c.t, c.f, c.v⟩ = chB c := rfl
theorem putB_mono (l : List ChR) (i : Nat) : (putB (l.take i)).length ≤ (putB l).length := by
  have : putB l = putB (l.take i) ++ putB (l.drop i) := by
    unfold putB; rw [← List.flatMap_append, List.take_append_drop]
  rw [this, List.length_append]; omega
theorem put_err1 {l : List ChR} (h : 32 < l.length) : putR l = ([], 4) := by unfold putR; rw [if_pos (.inl h)]
theorem put_err2 {l : List ChR} {i : Nat} (h : 4096 < (putB (l.take i)).length) : putR l = ([], 4) := by
  have := putB_mono l i
  unfold putR; rw [if_pos (.inr (by omega))]
theorem put_ok {l : List ChR} (h : l.length ≤ 32) (h' : (putB l).length ≤ 4096) : putR l = (putB l, 0) := by
  unfold putR; rw [if_neg (by omega)]
theorem wrap_len {n : Nat} (h : n ≤ 1099511627776) : IntKind.u64.wrap (IntKind.i64.wrap (4 + (n : Int))) = 4 + (n : Int) := by
  rw [wrap_i64_id (by omega) (by omega), IntKind.wrap_u64]; omega
theorem putB_step {l : List ChR} {g : Nat} (h : g < l.length) : putB (l.take g) ++ [(l.getD g noCh).t, (l.getD g noCh).f] ++ be (4 + ((l.getD g noCh).v.length : Int)) 2 ++ padF (l.getD g noCh).v = putB (l.take (g + 1)) := by
  rw [putB_take h]; simp [chB]
theorem first_short {b : List Int} (h : b.length < 4) : firstF b = (noCh, 0, 3) := by unfold firstF; rw [if_pos h]
theorem first_form {b : List Int} (h : ¬ b.length < 4) (h1 : numF b < 4) : firstF b = (noCh, 0, 2) := by unfold firstF; rw [if_neg h, if_pos h1]
theorem first_short2 {b : List Int} (h : ¬ b.length < 4) (h1 : ¬ numF b < 4) (h2 : b.length < numF b + padN (numF b)) : firstF b = (noCh, 0, 3) := by
  unfold firstF; rw [if_neg h, if_neg h1, if_pos h2]
theorem first_form2 {b : List Int} (h : ¬ b.length < 4) (h1 : ¬ numF b < 4) (h2 : ¬ b.length < numF b + padN (numF b)) (h3 : someNZ ((b.drop (numF b)).take (padN (numF b))) = true) : firstF b = (noCh, 0, 2) := by
  unfold firstF; rw [if_neg h, if_neg h1, if_neg h2, if_pos h3]
theorem first_ok {b : List Int} (h : ¬ b.length < 4) (h1 : ¬ numF b < 4) (h2 : ¬ b.length < numF b + padN (numF b)) (h3 : someNZ ((b.drop (numF b)).take (padN (numF b))) = false) :
    firstF b = (⟨b.getD 0 0, b.getD 1 0, (b.drop 4).take (numF b - 4)⟩, numF b + padN (numF b), 0) := by
  unfold firstF; rw [if_neg h, if_neg h1, if_neg h2, if_neg (by rw [h3]; simp)]
theorem num_lt {b : List Int} (hb : okB b) : 0 ≤ valF ((b.drop 2).take 2) ∧ valF ((b.drop 2).take 2) < 65536 := by
  have h := okB_take (okB_drop hb 2) 2
  have h1 := val_lt h
  have h2 : ((b.drop 2).take 2).length ≤ 2 := List.length_take_le _ _
  have h3 : ∀ k : Nat, k ≤ 2 → (256 : Int) ^ k ≤ 65536 := by decide
  have := h3 _ h2
  exact ⟨val_nonneg h, by omega⟩
theorem first_all {b : List Int} (h : (firstF b).2.2 = 0) : (firstF b).2.1 ≤ b.length ∧ 4 ≤ (firstF b).2.1 := by
  by_cases h0 : b.length < 4
  · rw [first_short h0] at h; cases h
  by_cases h1 : numF b < 4
  · rw [first_form h0 h1] at h; cases h
  by_cases h2 : b.length < numF b + padN (numF b)
  · rw [first_short2 h0 h1 h2] at h; cases h
  cases h3 : someNZ ((b.drop (numF b)).take (padN (numF b))) with
  | true => rw [first_form2 h0 h1 h2 h3] at h; cases h
  | false => rw [first_ok h0 h1 h2 h3]; simp only; omega
theorem getG_nil {f : Nat} {l : List ChR} : getG (f + 1) l [] = (l, 0) := by rw [getG, if_pos List.length_nil]
theorem getG_full {f : Nat} {l : List ChR} {b : List Int} (hb : b.length ≠ 0) (h : 32 ≤ l.length) : getG (f + 1) l b = ([], 4) := by rw [getG, if_neg hb, if_pos h]
theorem getG_err {f : Nat} {l : List ChR} {b : List Int} (hb : b.length ≠ 0) (h : ¬ 32 ≤ l.length) (he : ¬ (firstF b).2.2 = 0) : getG (f + 1) l b = ([], (firstF b).2.2) := by rw [getG, if_neg hb, if_neg h, if_neg he]
theorem getG_step {f : Nat} {l : List ChR} {b : List Int} (hb : b.length ≠ 0) (h : ¬ 32 ≤ l.length) (he : (firstF b).2.2 = 0) : getG (f + 1) l b = getG f (l ++ [(firstF b).1]) (b.drop (firstF b).2.1) := by
  rw [getG, if_neg hb, if_neg h, if_pos he]
theorem getR_big {b : List Int} (h : 4096 < b.length) : getR b = ([], 4) := by unfold getR; rw [if_pos h]
theorem getR_eq {b : List Int} (h : ¬ 4096 < b.length) : getR b = getG 33 [] b := by unfold getR; rw [if_neg h]
theorem getD_drop {α : Type} (l : List α) (n i : Nat) (d : α) : (l.drop n).getD i d = l.getD (n + i) d := by simp [List.getD, List.getElem?_drop]
theorem nz_true {b : List Int} (hb : okB b) {n k j : Nat} (h1 : n ≤ j) (h2 : j < n + k) (h3 : j < b.length) (h : ¬ b.getD j 0 = 0) : someNZ ((b.drop n).take k) = true := by
  rw [someNZ, List.any_eq_true]
  have := okB_getD hb j
  refine ⟨b.getD j 0, ?_, decide_eq_true (by omega)⟩
  have hl : j - n < ((b.drop n).take k).length := by rw [List.length_take, List.length_drop]; omega
  have e : ((b.drop n).take k).getD (j - n) 0 = b.getD j 0 := by
    simp only [List.getD, List.getElem?_take, List.getElem?_drop]
    rw [if_pos (by omega), show n + (j - n) = j by omega]
  rw [← e]; exact getD_mem hl
theorem nz_false {b : List Int} {n k : Nat} (h : ∀ j, n ≤ j → j < n + k → b.getD j 0 = 0) : someNZ ((b.drop n).take k) = false := by
  rw [someNZ, List.any_eq_false]
  intro x hx
  obtain ⟨i, hi, rfl⟩ := List.mem_iff_getElem.1 hx
  have hl : i < k ∧ i < b.length - n := by rw [List.length_take, List.length_drop] at hi; omega
  have := h (n + i) (by omega) (by omega)
  have e : ((b.drop n).take k)[i] = b.getD (n + i) 0 := by
    rw [List.getElem_take, List.getElem_drop]
    simp [List.getD, List.getElem?_eq_getElem (show n + i < b.length by omega)]
  rw [e, this]; simp
theorem sames_false {l m : List ChR} {g : Nat} (h1 : g < l.length) (h2 : g < m.length) (h : sameCh (l.getD g noCh) (m.getD g noCh) = false) : sameChs l m = false := by
  have : ((List.range (min l.length m.length)).all fun i => sameCh (l.getD i noCh) (m.getD i noCh)) = false := by
    rw [List.all_eq_false]
    exact ⟨g, List.mem_range.2 (by omega), by simpa using h⟩
  unfold sameChs; rw [this]; rfl
theorem sames_end {l m : List ChR} {g : Nat} (hg : min l.length m.length ≤ g) (h : ∀ j, j < g → sameCh (l.getD j noCh) (m.getD j noCh) = true) : decide ((l.length : Int) = (m.length : Int)) = sameChs l m := by
  have : ((List.range (min l.length m.length)).all fun i => sameCh (l.getD i noCh) (m.getD i noCh)) = true := by
    rw [List.all_eq_true]
    intro x hx
    exact h x (by have := List.mem_range.1 hx; omega)
  unfold sameChs; rw [this, Bool.true_and]
  congr 1; apply propext; omega
noncomputable def code118 : Code := match Try.f118.body with | some c => c | none => .skip
set_option maxHeartbeats 4000000 in
theorem vc118 : ∀ (c d : ChR), True ∧ sw (decide (c.t = d.t)) (SV.p (2 : Nat) (1 : Nat) = SV.p (2 : Nat) (1 : Nat)) True ∧ sw (decide (c.t = d.t)) ([decide (c.t = d.t)] = [decide (c.t = d.t)] ∧
  SV.c (Value.int IntKind.u8 c.f) = SV.c (Value.int IntKind.u8 c.f)) True ∧ sw (decide (c.t = d.t)) (SV.p (3 : Nat) (1 : Nat) = SV.p (3 : Nat) (1 : Nat)) True ∧
  sw (decide (c.t = d.t)) ([decide (c.t = d.t)] = [decide (c.t = d.t)] ∧ SV.c (Value.int IntKind.u8 d.f) = SV.c (Value.int IntKind.u8 d.f)) True ∧ sw (decide (c.t = d.t)) ([decide (c.t = d.t)] = [decide (c.t = d.t)] ∧
  [decide (c.t = d.t)] = [decide (c.t = d.t)] ∧ True ∧ SV.c (Value.bool (decide (c.f = d.f))) = SV.c (Value.bool (decide (c.f = d.f)))) True ∧ [decide (c.t = d.t)] = [decide (c.t = d.t)] ∧
  sw (decide (c.t = d.t) && decide (c.f = d.f)) (SV.p (2 : Nat) (2 : Nat) = SV.p (2 : Nat) (2 : Nat)) True ∧ sw (decide (c.t = d.t) && decide (c.f = d.f)) ([decide (c.t = d.t) && decide (c.f = d.f)] = [decide (c.t = d.t) && decide (c.f = d.f)] ∧
  SV.a (0 : Nat) = SV.a (0 : Nat)) True ∧ sw (decide (c.t = d.t) && decide (c.f = d.f)) ([decide (c.t = d.t) && decide (c.f = d.f)] = [decide (c.t = d.t) && decide (c.f = d.f)] ∧
  SV.c (Value.string (bstr c.v)) = SV.c (Value.string (bstr c.v))) True ∧ sw (decide (c.t = d.t) && decide (c.f = d.f)) (SV.p (3 : Nat) (2 : Nat) = SV.p (3 : Nat) (2 : Nat)) True ∧
  sw (decide (c.t = d.t) && decide (c.f = d.f)) ([decide (c.t = d.t) && decide (c.f = d.f)] = [decide (c.t = d.t) && decide (c.f = d.f)] ∧ SV.a (1 : Nat) = SV.a (1 : Nat)) True ∧
  sw (decide (c.t = d.t) && decide (c.f = d.f)) ([decide (c.t = d.t) && decide (c.f = d.f)] = [decide (c.t = d.t) && decide (c.f = d.f)] ∧ SV.c (Value.string (bstr d.v)) = SV.c (Value.string (bstr d.v))) True ∧
  sw (decide (c.t = d.t) && decide (c.f = d.f)) ([decide (c.t = d.t) && decide (c.f = d.f)] = [decide (c.t = d.t) && decide (c.f = d.f)] ∧ [decide (c.t = d.t) && decide (c.f = d.f)] = [decide (c.t = d.t) && decide (c.f = d.f)] ∧
  True ∧ SV.c (Value.bool (decide ((bstr c.v).data.toList = (bstr d.v).data.toList))) = SV.c (Value.bool (decide ((bstr c.v).data.toList = (bstr d.v).data.toList)))) True ∧
  [decide (c.t = d.t) && decide (c.f = d.f)] = [decide (c.t = d.t) && decide (c.f = d.f)] ∧ (decide (c.t = d.t) && decide (c.f = d.f) && decide ((bstr c.v).data.toList = (bstr d.v).data.toList)) = sameCh (ChR.mk c.t c.f c.v) (ChR.mk d.t d.f d.v) ∧
  (true && true) = true := by
  simp only [↓sw_iff, ↓Bool.and_eq_true, ↓Bool.and_eq_false_iff, ↓decide_eq_true_eq, ↓decide_eq_false_iff_not, true_and, and_true, implies_true, bytes_dec]
  intro c d
  rfl
set_option maxRecDepth 100000 in
theorem ok118 : FnIs Try.prog 118 sameC := by
  refine fnIs (C := (ctrs c0)) (by kernel_rfl) c0_ok Try.func118 (code := code118) (by kernel_rfl) (by kernel_rfl) ?_
  rintro a ⟨c, d, rfl⟩
  exact ⟨anns [], kcast (vc118 c d) (by kernel_rfl)⟩

theorem c10_ok : COk Try.prog (ctrs c10) := cok_cons ok118 cok_nil
theorem c9_ok : COk Try.prog (ctrs c9) := cok_cons ok212 cok_nil

end Go.ZR

/- Chunks: what is written is read; what is read, written again, is the same. Contracts of the statements. -/
namespace Go.ZM
open Go.Z Go.ZR
def okCB (l : List ChR) : Prop := ∀ c, c ∈ l → (0 ≤ c.t ∧ c.t ≤ 255) ∧ (0 ≤ c.f ∧ c.f ≤ 255) ∧ okB c.v
theorem chB_ok {c : ChR} (h1 : 0 ≤ c.t ∧ c.t ≤ 255) (h2 : 0 ≤ c.f ∧ c.f ≤ 255) (h3 : okB c.v) : okB (chB c) := by
  refine okB_append (fun x hx => ?_) (okB_append (be_ok _ _) (okB_padF h3))
  simp only [List.mem_cons, List.not_mem_nil, or_false] at hx
  rcases hx with rfl | rfl
  · exact h1
  · exact h2
theorem putB_ok {l : List ChR} (h : okCB l) : okB (putB l) := fun x hx => by
  obtain ⟨c, hc, hx⟩ := List.mem_flatMap.1 hx
  obtain ⟨h1, h2, h3⟩ := h c hc
  exact chB_ok h1 h2 h3 x hx
theorem putB_cons (c : ChR) (l : List ChR) : putB (c :: l) = chB c ++ putB l := by simp [putB]
theorem putB_append (l m : List ChR) : putB (l ++ m) = putB l ++ putB m := by simp [putB]
theorem numF_put (c : ChR) (r : List Int) (h : c.v.length ≤ 65531) : numF (chB c ++ r) = 4 + c.v.length := by
  have : ((chB c ++ r).drop 2).take 2 = be (4 + (c.v.length : Int)) 2 := by
    have e : chB c ++ r = [c.t, c.f] ++ (be (4 + (c.v.length : Int)) 2 ++ (padF c.v ++ r)) := by simp [chB]
    rw [e, List.drop_append_of_le_length (by simp), List.drop_of_length_le (by simp), List.nil_append, List.take_append_of_le_length (by simp [be_len]), List.take_of_length_le (by simp [be_len])]
  unfold numF
  rw [this, val_be]
  have : (256 : Int) ^ 2 = 65536 := rfl
  omega
theorem first_put (c : ChR) (r : List Int) (h : c.v.length ≤ 65531) : firstF (chB c ++ r) = (c, (chB c).length, 0) := by
  have hl := chB_len c
  have hn := numF_put c r h
  have hp : padN (4 + c.v.length) = padN c.v.length := by unfold padN; omega
  have e : chB c ++ r = [c.t, c.f] ++ (be (4 + (c.v.length : Int)) 2 ++ (c.v ++ (List.replicate (padN c.v.length) 0 ++ r))) := by simp [chB, padF]
  have hd : ∀ k, (chB c ++ r).drop (4 + k) = (c.v ++ (List.replicate (padN c.v.length) 0 ++ r)).drop k := fun k => by
    rw [← List.drop_drop]
    congr 1
    rw [e, ← List.append_assoc, List.drop_append_of_le_length (by simp [be_len]), List.drop_of_length_le (by simp [be_len]), List.nil_append]
  have hz : someNZ (((chB c ++ r).drop (numF (chB c ++ r))).take (padN (numF (chB c ++ r)))) = false := by
    rw [hn, hp, hd, List.drop_append_of_le_length (Nat.le_refl _), List.drop_of_length_le (Nat.le_refl _), List.nil_append, List.take_append_of_le_length (by simp), List.take_of_length_le (by simp), someNZ, List.any_eq_false]
    intro x hx
    have := List.eq_of_mem_replicate hx
    simp [this]
  rw [first_ok (by simp; omega) (by omega) (by rw [hn, hp]; simp; omega) hz, hn, hp]
  have h4 := hd 0
  rw [Nat.add_zero, List.drop_zero] at h4
  rw [h4, show 4 + c.v.length - 4 = c.v.length by omega, List.take_append_of_le_length (Nat.le_refl _), List.take_of_length_le (Nat.le_refl _)]
  refine Prod.ext ?_ (Prod.ext ?_ rfl)
  · have e0 : (chB c ++ r).getD 0 0 = c.t := by rw [e]; rfl
    have e1 : (chB c ++ r).getD 1 0 = c.f := by rw [e]; rfl
    simp only [e0, e1]
  · simp only; omega
theorem getG_put : ∀ (l : List ChR) (acc : List ChR) (f : Nat), acc.length + l.length ≤ 32 → f = 33 - acc.length → (∀ c, c ∈ l → c.v.length ≤ 65531) → getG f acc (putB l) = (acc ++ l, 0)
  | [], acc, f, h, hf, _ => by
    obtain ⟨k, rfl⟩ : ∃ k, f = k + 1 := ⟨f - 1, by simp at h; omega⟩
    show getG (k + 1) acc [] = _
    rw [getG_nil, List.append_nil]
  | c :: l, acc, f, h, hf, hv => by
    simp only [List.length_cons] at h
    obtain ⟨k, rfl⟩ : ∃ k, f = k + 1 := ⟨f - 1, by omega⟩
    have hfi := first_put c (putB l) (hv c (List.mem_cons_self ..))
    have hl := chB_len c
    rw [putB_cons, getG_step (by rw [List.length_append]; omega) (by omega) (by rw [hfi]), hfi]
    simp only
    rw [List.drop_append_of_le_length (Nat.le_refl _), List.drop_of_length_le (Nat.le_refl _), List.nil_append, getG_put l (acc ++ [c]) k (by simp; omega) (by simp; omega) (fun d hd => hv d (List.mem_cons_of_mem _ hd))]
    simp
theorem put_small {l : List ChR} (h : (putB l).length ≤ 4096) : ∀ c, c ∈ l → c.v.length ≤ 65531 := fun c hc => by
  have : (chB c).length ≤ (putB l).length := by
    obtain ⟨a, b, rfl⟩ := List.append_of_mem hc
    rw [putB_append, putB_cons]; simp; omega
  rw [chB_len] at this; omega
theorem get_put {l : List ChR} (h : l.length ≤ 32) (h' : (putB l).length ≤ 4096) : getR (putB l) = (l, 0) := by
  rw [getR_eq (by omega), getG_put l [] 33 (by simpa using h) rfl (put_small h')]; rfl
/-- What a first chunk is made of. -/
theorem first_bytes {b : List Int} (hb : okB b) (h : (firstF b).2.2 = 0) : b = chB (firstF b).1 ++ b.drop (firstF b).2.1 ∧ (firstF b).1.v.length ≤ 65531 := by
  by_cases h0 : b.length < 4
  · rw [first_short h0] at h; cases h
  by_cases h1 : numF b < 4
  · rw [first_form h0 h1] at h; cases h
  by_cases h2 : b.length < numF b + padN (numF b)
  · rw [first_short2 h0 h1 h2] at h; cases h
  cases h3 : someNZ ((b.drop (numF b)).take (padN (numF b))) with
  | true => rw [first_form2 h0 h1 h2 h3] at h; cases h
  | false =>
    rw [first_ok h0 h1 h2 h3]
    simp only
    obtain ⟨n0, n1⟩ := num_lt hb
    have hn : (numF b : Int) = valF ((b.drop 2).take 2) := by unfold numF; omega
    have hlv : ((b.drop 4).take (numF b - 4)).length = numF b - 4 := by rw [List.length_take, List.length_drop]; omega
    have hpp : padN (numF b - 4) = padN (numF b) := by unfold padN; omega
    refine ⟨?_, by rw [hlv]; omega⟩
    have s1 : b = b.take 2 ++ b.drop 2 := (List.take_append_drop 2 b).symm
    have s2 : b.drop 2 = (b.drop 2).take 2 ++ b.drop 4 := by
      have := (List.take_append_drop 2 (b.drop 2)).symm
      rw [List.drop_drop] at this; exact this
    have s3 : b.drop 4 = (b.drop 4).take (numF b - 4) ++ b.drop (numF b) := by
      have := (List.take_append_drop (numF b - 4) (b.drop 4)).symm
      rw [List.drop_drop, show 4 + (numF b - 4) = numF b by omega] at this; exact this
    have s4 : b.drop (numF b) = (b.drop (numF b)).take (padN (numF b)) ++ b.drop (numF b + padN (numF b)) := by
      have := (List.take_append_drop (padN (numF b)) (b.drop (numF b))).symm
      rw [List.drop_drop] at this; exact this
    have t1 : b.take 2 = [b.getD 0 0, b.getD 1 0] := by
      match b, h0 with
      | x :: y :: _, _ => rfl
      | [_], h0 => simp at h0
      | [], h0 => simp at h0
    have t2 : (b.drop 2).take 2 = be (4 + (((b.drop 4).take (numF b - 4)).length : Int)) 2 := by
      rw [hlv, show (4 : Int) + ((numF b - 4 : Nat) : Int) = (numF b : Int) by omega, hn]
      have := be_val (okB_take (okB_drop hb 2) 2)
      rw [show ((b.drop 2).take 2).length = 2 by rw [List.length_take, List.length_drop]; omega] at this
      exact this.symm
    have t3 : (b.drop (numF b)).take (padN (numF b)) = List.replicate (padN (numF b)) 0 := by
      rw [List.eq_replicate_iff]
      refine ⟨by rw [List.length_take, List.length_drop]; omega, fun x hx => ?_⟩
      rw [someNZ, List.any_eq_false] at h3
      have a1 := h3 x hx
      have a2 := okB_take (okB_drop hb (numF b)) _ x hx
      have a3 : ¬ 0 < x := by simpa using a1
      omega
    have hc : chB ⟨b.getD 0 0, b.getD 1 0, (b.drop 4).take (numF b - 4)⟩ = b.take 2 ++ ((b.drop 2).take 2 ++ ((b.drop 4).take (numF b - 4) ++ (b.drop (numF b)).take (padN (numF b)))) := by
      unfold chB padF
      simp only
      rw [t1, t2, t3, hlv, hpp]
    rw [hc]
    simp only [List.append_assoc]
    rw [← s4, ← s3, ← s2, ← s1]
theorem put_get : ∀ (f : Nat) (acc : List ChR) (b : List Int) (l : List ChR), okB b → acc.length ≤ 32 → getG f acc b = (l, 0) → ∃ m, l = acc ++ m ∧ putB m = b ∧ l.length ≤ 32
  | 0, acc, b, l, _, _, h => by rw [getG] at h; cases h
  | f + 1, acc, b, l, hb, ha, h => by
    by_cases h0 : b.length = 0
    · have : b = [] := List.length_eq_zero_iff.1 h0
      subst this
      rw [getG_nil] at h
      cases h
      exact ⟨[], by simp, rfl, ha⟩
    by_cases h1 : 32 ≤ acc.length
    · rw [getG_full h0 h1] at h; cases h
    by_cases h2 : (firstF b).2.2 = 0
    · rw [getG_step h0 h1 h2] at h
      obtain ⟨m, h3, h4, h5⟩ := put_get f _ _ l (okB_drop hb _) (by simp; omega) h
      refine ⟨(firstF b).1 :: m, by rw [h3]; simp, ?_, h5⟩
      rw [putB_cons, h4, ← (first_bytes hb h2).1]
    · rw [getG_err h0 h1 h2] at h
      exact absurd (congrArg Prod.snd h) h2
theorem getG_len : ∀ (f : Nat) (acc : List ChR) (b : List Int), okB b → acc.length ≤ 32 → (∀ c, c ∈ acc → c.v.length ≤ 65531) → (getG f acc b).1.length ≤ 32 ∧ ∀ c, c ∈ (getG f acc b).1 → c.v.length ≤ 65531
  | 0, acc, b, _, _, _ => by rw [getG]; exact ⟨Nat.zero_le _, fun c hc => by cases hc⟩
  | f + 1, acc, b, hb, ha, hv => by
    by_cases h0 : b.length = 0
    · have : b = [] := List.length_eq_zero_iff.1 h0
      subst this
      rw [getG_nil]; exact ⟨ha, hv⟩
    by_cases h1 : 32 ≤ acc.length
    · rw [getG_full h0 h1]; exact ⟨Nat.zero_le _, fun c hc => by cases hc⟩
    by_cases h2 : (firstF b).2.2 = 0
    · rw [getG_step h0 h1 h2]
      refine getG_len f _ _ (okB_drop hb _) (by simp; omega) fun c hc => ?_
      rcases List.mem_append.1 hc with hc | hc
      · exact hv c hc
      · rw [List.mem_singleton.1 hc]; exact (first_bytes hb h2).2
    · rw [getG_err h0 h1 h2]; exact ⟨Nat.zero_le _, fun c hc => by cases hc⟩
theorem getR_ok {b : List Int} (hb : okB b) : okChs (getR b).1 := by
  by_cases h : 4096 < b.length
  · rw [getR_big h]; exact ⟨Nat.zero_le _, fun c hc => by cases hc⟩
  · rw [getR_eq h]
    obtain ⟨h1, h2⟩ := getG_len 33 [] b hb (Nat.zero_le _) (fun c hc => by cases hc)
    exact ⟨by omega, fun c hc => by have := h2 c hc; unfold sm; omega⟩
theorem getG_err_nil : ∀ (f : Nat) (acc : List ChR) (b : List Int), (getG f acc b).2 ≠ 0 → (getG f acc b).1 = []
  | 0, acc, b, _ => by rw [getG]
  | f + 1, acc, b, h => by
    by_cases h0 : b.length = 0
    · have : b = [] := List.length_eq_zero_iff.1 h0
      subst this
      rw [getG_nil] at h; exact absurd rfl h
    by_cases h1 : 32 ≤ acc.length
    · rw [getG_full h0 h1]
    by_cases h2 : (firstF b).2.2 = 0
    · rw [getG_step h0 h1 h2] at h ⊢
      exact getG_err_nil f _ _ h
    · rw [getG_err h0 h1 h2]
theorem getR_err {b : List Int} (h : (getR b).2 ≠ 0) : (getR b).1 = [] := by
  by_cases hb : 4096 < b.length
  · rw [getR_big hb]
  · rw [getR_eq hb] at h ⊢; exact getG_err_nil _ _ _ h
theorem getR_put {b : List Int} (hb : okB b) (h : (getR b).2 = 0) : putR (getR b).1 = (b, 0) := by
  by_cases h1 : 4096 < b.length
  · rw [getR_big h1] at h; cases h
  · rw [getR_eq h1] at h ⊢
    obtain ⟨m, e1, e2, e3⟩ := put_get 33 [] b (getG 33 [] b).1 hb (Nat.zero_le _) (Prod.ext rfl h)
    rw [List.nil_append] at e1
    rw [e1, put_ok (by rw [← e1]; exact e3) (by rw [e2]; omega), e2]
theorem sameCh_refl (c : ChR) : sameCh c c = true := by simp [sameCh]
theorem sames_refl (l : List ChR) : sameChs l l = true := by
  have : ((List.range (min l.length l.length)).all fun i => sameCh (l.getD i noCh) (l.getD i noCh)) = true := by
    rw [List.all_eq_true]; intro x _; exact sameCh_refl _
  unfold sameChs; rw [this]; simp
theorem putR_zero {l : List ChR} (h : (putR l).2 = 0) : l.length ≤ 32 ∧ (putB l).length ≤ 4096 ∧ (putR l).1 = putB l := by
  unfold putR at h ⊢
  split at h
  · cases h
  · rename_i hc
    rw [if_neg hc]; exact ⟨by omega, by omega, rfl⟩
theorem putR_len (l : List ChR) : (putR l).1.length ≤ 4096 := by
  unfold putR
  split
  · exact Nat.zero_le _
  · simp only; omega
theorem putR_ok {l : List ChR} (h : okCB l) : okB (putR l).1 := by
  unfold putR
  split
  · exact fun x hx => by cases hx
  · exact putB_ok h
/-- A list of chunks, however it was laid. -/
def asCh (A : D) (l : List ChR) : Prop := chsOf A = l ∧ readsTo A (.recs 3 l.length (chCell l))
end Go.ZM
namespace Go.ZR
open Go.Z Go.ZM Go.Proofs
def trueC (n : Nat) (pre : List O → Prop) : Ctr := nC n false pre fun _ => [bO true]
theorem asCh_self (l : List ChR) : asCh (.recs 3 l.length (chCell l)) l := ⟨chsOf_chs l, readsTo_refl _⟩
def samesWC : Ctr := nC 2 true (fun a => ∃ l m A B, a = [.d A, .d B] ∧ okChs l ∧ okChs m ∧ asCh A l ∧ asCh B m) fun a => [bO (sameChs (chsOf (dO (at_ a 0))) (chsOf (dO (at_ a 1))))]
theorem asCh_app (l m : List ChR) : asCh (.recs 3 (l.length + m.length) (fun i j => bif i.blt l.length then chCell l i j else chCell m (i - l.length) j)) (l ++ m) := by
  have hr : readsTo (.recs 3 (l.length + m.length) (fun i j => bif i.blt l.length then chCell l i j else chCell m (i - l.length) j)) (chsD (l ++ m)) := by
    unfold chsD
    rw [List.length_append]
    refine reads_recs fun i hi j hj => ?_
    by_cases h : i < l.length
    · have e : (l ++ m).getD i noCh = l.getD i noCh := by simp [List.getD, List.getElem?_append_left h]
      rw [blt_t h, _root_.cond_true]; unfold chCell; rw [e]
    · have e : (l ++ m).getD i noCh = m.getD (i - l.length) noCh := by simp [List.getD, List.getElem?_append_right (by omega : l.length ≤ i)]
      rw [blt_f h, _root_.cond_false]; unfold chCell; rw [e]
  refine ⟨?_, hr⟩
  have e : (List.range (l.length + m.length)).map (fun i => chAt fun j => bif i.blt l.length then chCell l i j else chCell m (i - l.length) j) = (List.range (l ++ m).length).map (fun i => (l ++ m).getD i noCh) := by
    rw [List.length_append]
    apply List.map_congr_left
    intro i hi
    have hi := List.mem_range.1 hi
    by_cases h : i < l.length
    · have e : (l ++ m).getD i noCh = l.getD i noCh := by simp [List.getD, List.getElem?_append_left h]
      rw [e, blt_t h]; rfl
    · have e : (l ++ m).getD i noCh = m.getD (i - l.length) noCh := by simp [List.getD, List.getElem?_append_right (by omega : l.length ≤ i)]
      rw [e, blt_f h]; rfl
  exact e.trans (range_getD (l ++ m) noCh)
def putLawC : Ctr := trueC 1 fun a => ∃ l, a = [.d (chsD l)] ∧ okChs l
def getLawC : Ctr := trueC 1 fun a => ∃ b, a = [bsO b] ∧ sm b.length ∧ okB b
def backLawC : Ctr := trueC 3 fun a => ∃ l m b, a = [.d (chsD l), .d (chsD m), bsO b] ∧ okChs l ∧ okChs m ∧ okCB l ∧ okCB m ∧ sm b.length ∧ okB b
def c11 : List (Nat × Ctr) := []
theorem c11_ok : COk Try.prog (ctrs c11) := cok_nil
end Go.ZR

/- What a side says of itself: plain functions, laws, contracts. -/
set_option maxRecDepth 100000
namespace Go.ZM
open Go.Z Go.ZR

structure HelR where
  tag : Int
  win : Int
  out : Int
  inn : Int
  tsn : Int
  cookie : List Int
def noHel : HelR := ⟨0, 0, 0, 0, 0, []⟩
def okHel (h : HelR) : Prop := (0 ≤ h.tag ∧ h.tag ≤ 4294967295) ∧ (0 ≤ h.win ∧ h.win ≤ 4294967295) ∧ (0 ≤ h.out ∧ h.out ≤ 65535) ∧ (0 ≤ h.inn ∧ h.inn ≤ 65535) ∧ (0 ≤ h.tsn ∧ h.tsn ≤ 4294967295) ∧ okB h.cookie ∧ sm h.cookie.length
def helB (h : HelR) : List Int := be h.tag 4 ++ be h.win 4 ++ be h.out 2 ++ be h.inn 2 ++ be h.tsn 4
def greetF (h : HelR) (ack : Bool) : Bool := (!decide (h.tag = 0) && !decide (h.out = 0)) && !decide (h.inn = 0) && (ack || decide (h.cookie.length = 0))
def ckB (h : HelR) : List Int := helB h ++ be 7 2 ++ be (4 + (h.cookie.length : Int)) 2 ++ padF h.cookie
def fromHel (h : HelR) (ack : Bool) : ChR × Int :=
  if greetF h ack = false then (noCh, 2) else if 256 < h.cookie.length then (noCh, 4) else if ack then (⟨2, 0, ckB h⟩, 0) else (⟨1, 0, helB h⟩, 0)
def numAt (v : List Int) (i : Int) (k : Nat) : Int := (getF v i k).1
def hel0 (v : List Int) : HelR := ⟨numAt v 0 4, numAt v 4 4, numAt v 8 2, numAt v 10 2, numAt v 12 4, []⟩
/-- As the program reads it. -/
def helOf (c : ChR) : HelR := if c.t = 2 ∧ numAt c.v 16 2 = 7 then { hel0 c.v with cookie := (partF c.v 20 (numAt c.v 18 2 - 4)).1 } else hel0 c.v
def sameB (c d : ChR) : Bool := decide (c.t = d.t) && decide (c.f = d.f) && decide (c.v = d.v)
def toHel (c : ChR) : HelR × Int := if (fromHel (helOf c) (decide (c.t = 2))).2 ≠ 0 ∨ sameB (fromHel (helOf c) (decide (c.t = 2))).1 c = false then (noHel, 2) else (helOf c, 0)
def sameHel (h g : HelR) : Bool := decide (h.tag = g.tag) && decide (h.win = g.win) && decide (h.out = g.out) && decide (h.inn = g.inn) && decide (h.tsn = g.tsn) && decide (bstr h.cookie = bstr g.cookie)
/-- As the document reads it. -/
def helRef (c : ChR) : HelR := if c.t = 2 then { hel0 c.v with cookie := (c.v.drop 20).take (numAt c.v 18 2 - 4).toNat } else hel0 c.v
def toHelRef (c : ChR) : HelR × Int :=
  if c.t ≠ 1 ∧ c.t ≠ 2 ∨ c.v.length < 16 then (noHel, 2) else
  if c.t = 2 ∧ c.v.length < 20 then (noHel, 2) else
  if c.t = 2 ∧ (numAt c.v 18 2 - 4 < 0 ∨ (c.v.length : Int) - 20 < numAt c.v 18 2 - 4) then (noHel, 2) else
  if (fromHel (helRef c) (decide (c.t = 2))).2 ≠ 0 ∨ sameB (fromHel (helRef c) (decide (c.t = 2))).1 c = false then (noHel, 2) else (helRef c, 0)

theorem num_in {v a r : List Int} {n : Int} {k : Nat} (i : Nat) (h : v = a ++ (be n k ++ r)) (hi : a.length = i) : numAt v (i : Int) k = n % 256 ^ k := by
  subst hi
  have hl : v.length = a.length + (k + r.length) := by rw [h, List.length_append, List.length_append, be_len]
  unfold numAt getF
  rw [part_get (by omega) (by omega) (by omega) (by omega)]
  simp only [Int.toNat_natCast]
  rw [h, List.drop_append_of_le_length (Nat.le_refl _), List.drop_of_length_le (Nat.le_refl _), List.nil_append, List.take_append_of_le_length (by rw [be_len]; exact Nat.le_refl _), List.take_of_length_le (by rw [be_len]; exact Nat.le_refl _), val_be]
theorem helB_len (h : HelR) : (helB h).length = 16 := by simp [helB, be_len]
theorem ckB_len (h : HelR) : (ckB h).length = 20 + h.cookie.length + padN h.cookie.length := by simp [ckB, helB_len, be_len, padF_len]; omega
theorem hel0_of {h : HelR} (ok : okHel h) {v r : List Int} (e : v = helB h ++ r) : hel0 v = { h with cookie := [] } := by
  obtain ⟨h1, h2, h3, h4, h5, _⟩ := ok
  have p4 : (256 : Int) ^ 4 = 4294967296 := rfl
  have p2 : (256 : Int) ^ 2 = 65536 := rfl
  unfold hel0
  have a1 : numAt v 0 4 = h.tag := by
    have := num_in (v := v) (a := []) (n := h.tag) (k := 4) (r := be h.win 4 ++ be h.out 2 ++ be h.inn 2 ++ be h.tsn 4 ++ r) 0 (by rw [e]; simp [helB]) rfl
    rw [p4] at this; exact this.trans (by omega)
  have a2 : numAt v 4 4 = h.win := by
    have := num_in (v := v) (a := be h.tag 4) (n := h.win) (k := 4) (r := be h.out 2 ++ be h.inn 2 ++ be h.tsn 4 ++ r) 4 (by rw [e]; simp [helB]) (by simp [be_len])
    rw [p4] at this; exact this.trans (by omega)
  have a3 : numAt v 8 2 = h.out := by
    have := num_in (v := v) (a := be h.tag 4 ++ be h.win 4) (n := h.out) (k := 2) (r := be h.inn 2 ++ be h.tsn 4 ++ r) 8 (by rw [e]; simp [helB]) (by simp [be_len])
    rw [p2] at this; exact this.trans (by omega)
  have a4 : numAt v 10 2 = h.inn := by
    have := num_in (v := v) (a := be h.tag 4 ++ be h.win 4 ++ be h.out 2) (n := h.inn) (k := 2) (r := be h.tsn 4 ++ r) 10 (by rw [e]; simp [helB]) (by simp [be_len])
    rw [p2] at this; exact this.trans (by omega)
  have a5 : numAt v 12 4 = h.tsn := by
    have := num_in (v := v) (a := be h.tag 4 ++ be h.win 4 ++ be h.out 2 ++ be h.inn 2) (n := h.tsn) (k := 4) (r := r) 12 (by rw [e]; simp [helB]) (by simp [be_len])
    rw [p4] at this; exact this.trans (by omega)
  rw [a1, a2, a3, a4, a5]
/-- What a chunk is that was made of such. -/
theorem fromHel_ok {h : HelR} {ack : Bool} (e : (fromHel h ack).2 = 0) : greetF h ack = true ∧ h.cookie.length ≤ 256 ∧ (fromHel h ack).1 = if ack then ⟨2, 0, ckB h⟩ else ⟨1, 0, helB h⟩ := by
  unfold fromHel at e ⊢
  split at e
  · cases e
  rename_i h1
  split at e
  · cases e
  rename_i h2
  rw [if_neg h1, if_neg h2]
  refine ⟨by simpa using h1, by omega, ?_⟩
  split <;> rfl
theorem sameB_eq {c d : ChR} : sameB c d = true ↔ c = d := by
  cases c; cases d
  simp [sameB]; exact ⟨fun ⟨⟨a, b⟩, c⟩ => ⟨a, b, c⟩, fun ⟨a, b, c⟩ => ⟨⟨a, b⟩, c⟩⟩
theorem ck_num {h : HelR} (hl : h.cookie.length ≤ 256) {v : List Int} (e : v = ckB h) : numAt v 16 2 = 7 ∧ numAt v 18 2 - 4 = (h.cookie.length : Int) ∧ (v.drop 20).take h.cookie.length = h.cookie ∧ 20 + h.cookie.length ≤ v.length := by
  have p2 : (256 : Int) ^ 2 = 65536 := rfl
  have a1 : numAt v 16 2 = 7 := by
    have := num_in (v := v) (a := helB h) (n := 7) (k := 2) (r := be (4 + (h.cookie.length : Int)) 2 ++ padF h.cookie) 16 (by rw [e]; simp [ckB]) (helB_len h)
    exact this
  have a2 : numAt v 18 2 = 4 + (h.cookie.length : Int) := by
    have := num_in (v := v) (a := helB h ++ be 7 2) (n := 4 + (h.cookie.length : Int)) (k := 2) (r := padF h.cookie) 18 (by rw [e]; simp [ckB]) (by simp [helB_len, be_len])
    rw [p2] at this; exact this.trans (by omega)
  refine ⟨a1, by omega, ?_, by rw [e, ckB_len]; omega⟩
  have : v = (helB h ++ be 7 2 ++ be (4 + (h.cookie.length : Int)) 2) ++ (h.cookie ++ List.replicate (padN h.cookie.length) 0) := by rw [e]; simp [ckB, padF]
  rw [this, List.drop_append_of_le_length (by simp [helB_len, be_len]), List.drop_of_length_le (by simp [helB_len, be_len]), List.nil_append, List.take_append_of_le_length (Nat.le_refl _), List.take_of_length_le (Nat.le_refl _)]
theorem num_rng {v : List Int} (hv : okB v) (i : Int) {k : Nat} : 0 ≤ numAt v i k ∧ numAt v i k < 256 ^ k := by
  unfold numAt getF
  have h1 := part_ok hv i (k : Int)
  have h2 := val_lt h1
  have h3 := part_len (b := v) (i := i) (k := k)
  have h4 : ∀ a b : Nat, a ≤ b → (256 : Int) ^ a ≤ 256 ^ b := fun a b h => by
    obtain ⟨c, rfl⟩ := Nat.exists_eq_add_of_le h
    rw [Int.pow_add]
    have := pow_pos' a; have h5 := pow_pos' c
    calc (256 : Int) ^ a = 256 ^ a * 1 := by rw [Int.mul_one]
      _ ≤ 256 ^ a * 256 ^ c := Int.mul_le_mul_of_nonneg_left (by omega) (by omega)
  have := h4 _ _ h3
  exact ⟨val_nonneg h1, by omega⟩
theorem hel0_ok {v : List Int} (hv : okB v) {ck : List Int} (hc : okB ck) (hs : sm ck.length) : okHel { hel0 v with cookie := ck } := by
  have p4 : (256 : Int) ^ 4 = 4294967296 := rfl
  have p2 : (256 : Int) ^ 2 = 65536 := rfl
  have a1 := num_rng hv 0 (k := 4)
  have a2 := num_rng hv 4 (k := 4)
  have a3 := num_rng hv 8 (k := 2)
  have a4 := num_rng hv 10 (k := 2)
  have a5 := num_rng hv 12 (k := 4)
  rw [p4] at a1 a2 a5
  rw [p2] at a3 a4
  refine ⟨?_, ?_, ?_, ?_, ?_, hc, hs⟩ <;> simp only [hel0] <;> omega
theorem partF_sm {b : List Int} (hb : sm b.length) (i n : Int) : sm (partF b i n).1.length := by
  unfold sm at *
  unfold partF
  split
  · exact Nat.zero_le _
  split
  · exact Nat.zero_le _
  · simp only [List.length_take, List.length_drop]; omega
theorem helOf_ok {c : ChR} (hv : okB c.v) (hs : sm c.v.length) : okHel (helOf c) := by
  unfold helOf
  split
  · exact hel0_ok hv (part_ok hv _ _) (partF_sm hs _ _)
  · exact hel0_ok hv (ck := []) (fun x hx => by cases hx) (Nat.zero_le _)
theorem helRef_ok {c : ChR} (hv : okB c.v) (hs : sm c.v.length) : okHel (helRef c) := by
  unfold helRef
  split
  · refine hel0_ok hv (okB_take (okB_drop hv _) _) ?_
    unfold sm at *
    simp only [List.length_take, List.length_drop]; omega
  · exact hel0_ok hv (ck := []) (fun x hx => by cases hx) (Nat.zero_le _)
/-- What was made of such is read as such. -/
theorem helOf_made {h : HelR} {ack : Bool} (ok : okHel h) (e : (fromHel h ack).2 = 0) : helOf (fromHel h ack).1 = h ∧ helRef (fromHel h ack).1 = h ∧ (decide ((fromHel h ack).1.t = 2)) = ack := by
  obtain ⟨h1, h2, h3⟩ := fromHel_ok e
  rw [h3]
  cases ack with
  | true =>
    simp only [if_true]
    obtain ⟨c1, c2, c3, c4⟩ := ck_num h2 (rfl : ckB h = ckB h)
    have h0 := hel0_of ok (v := ckB h) (r := be 7 2 ++ be (4 + (h.cookie.length : Int)) 2 ++ padF h.cookie) (by simp [ckB])
    refine ⟨?_, ?_, rfl⟩
    · unfold helOf
      rw [if_pos ⟨rfl, c1⟩]
      simp only
      rw [c2, part_get (by omega) (by omega) (by omega) (by omega), h0]
      simp only [Int.toNat_natCast]
      rw [show Int.toNat 20 = 20 from rfl, c3]
    · unfold helRef
      rw [if_pos rfl]
      simp only
      rw [c2, h0, Int.toNat_natCast, c3]
  | false =>
    simp only [Bool.false_eq_true, if_false]
    have h0 := hel0_of ok (v := helB h) (r := []) (by simp)
    have hc : h.cookie = [] := by
      simp only [greetF, Bool.and_eq_true, Bool.false_or, decide_eq_true_eq] at h1
      exact List.length_eq_zero_iff.1 h1.2
    have e0 : { h with cookie := [] } = h := by cases h; simp only at hc; subst hc; rfl
    refine ⟨?_, ?_, rfl⟩
    · unfold helOf; rw [if_neg (by simp)]; rw [h0, e0]
    · unfold helRef; rw [if_neg (by simp)]; rw [h0, e0]
theorem toHel_made {h : HelR} {ack : Bool} (ok : okHel h) (e : (fromHel h ack).2 = 0) : toHel (fromHel h ack).1 = (h, 0) := by
  obtain ⟨h1, _, h3⟩ := helOf_made ok e
  unfold toHel
  rw [h1, h3, if_neg]
  rw [e, sameB_eq.2 rfl]; simp
theorem toHel_eq {c : ChR} (hv : okB c.v) (hs : sm c.v.length) : toHel c = toHelRef c := by
  -- a chunk that some such makes is read by both
  have good : ∀ h ack, okHel h → (fromHel h ack).2 = 0 → (fromHel h ack).1 = c → toHelRef c = (h, 0) := by
    intro h ack ok e rfl
    obtain ⟨_, h2, h3⟩ := helOf_made ok e
    obtain ⟨g1, g2, g3⟩ := fromHel_ok e
    unfold toHelRef
    rw [h2, h3, e, sameB_eq.2 rfl, if_neg, if_neg, if_neg, if_neg]
    · simp
    · rw [g3]
      cases ack with
      | true => obtain ⟨c1, c2, c3, c4⟩ := ck_num g2 (rfl : ckB h = ckB h); simp only [if_true]; rw [c2]; omega
      | false => simp
    · rw [g3]
      cases ack with
      | true => simp only [if_true]; rw [ckB_len]; omega
      | false => simp
    · rw [g3]
      cases ack with
      | true => simp only [if_true]; rw [ckB_len]; omega
      | false => simp only [Bool.false_eq_true, if_false]; rw [helB_len]; omega
  by_cases h : (fromHel (helOf c) (decide (c.t = 2))).2 ≠ 0 ∨ sameB (fromHel (helOf c) (decide (c.t = 2))).1 c = false
  · have e1 : toHel c = (noHel, 2) := by unfold toHel; rw [if_pos h]
    rw [e1]
    unfold toHelRef
    split
    · rfl
    split
    · rfl
    split
    · rfl
    split
    · rfl
    · rename_i hh
      exfalso
      rw [not_or] at hh
      have a1 : (fromHel (helRef c) (decide (c.t = 2))).2 = 0 := by simpa using hh.1
      have a2 : (fromHel (helRef c) (decide (c.t = 2))).1 = c := sameB_eq.1 (by simpa using hh.2)
      have := helOf_made (helRef_ok hv hs) a1
      rw [a2] at this
      rw [this.1, a1, a2, sameB_eq.2 rfl] at h
      simp at h
  · have e1 : toHel c = (helOf c, 0) := by unfold toHel; rw [if_neg h]
    rw [not_or] at h
    have a1 : (fromHel (helOf c) (decide (c.t = 2))).2 = 0 := by simpa using h.1
    have a2 : (fromHel (helOf c) (decide (c.t = 2))).1 = c := sameB_eq.1 (by simpa using h.2)
    rw [e1, good _ _ (helOf_ok hv hs) a1 a2]
theorem sameHel_refl (h : HelR) : sameHel h h = true := by simp [sameHel]
theorem fromHel_len (h : HelR) (ack : Bool) : (fromHel h ack).1.v.length ≤ 300 := by
  unfold fromHel
  split
  · exact Nat.zero_le _
  split
  · exact Nat.zero_le _
  split
  · have := padN_le h.cookie.length
    simp only; rw [ckB_len]; omega
  · simp only; rw [helB_len]; omega
theorem fromHel_okB {h : HelR} (hc : okB h.cookie) (ack : Bool) : okB (fromHel h ack).1.v := by
  unfold fromHel
  split
  · exact fun x hx => by cases hx
  split
  · exact fun x hx => by cases hx
  have hb : okB (helB h) := okB_append (okB_append (okB_append (okB_append (be_ok _ _) (be_ok _ _)) (be_ok _ _)) (be_ok _ _)) (be_ok _ _)
  split
  · exact okB_append (okB_append (okB_append hb (be_ok _ _)) (be_ok _ _)) (okB_padF hc)
  · exact hb
theorem bstr_inj {a b : List Int} (ha : okB a) (hb : okB b) (h : bstr a = bstr b) : a = b := by
  unfold bstr at h
  simp only [ByteArray.mk.injEq] at h
  have h := congrArg Array.toList h
  simp only [] at h
  have key : ∀ {a b : List Int}, okB a → okB b → a.map (fun n => UInt8.ofNat n.toNat) = b.map (fun n => UInt8.ofNat n.toNat) → a = b := by
    intro a
    induction a with
    | nil => intro b _ _ h; cases b with
      | nil => rfl
      | cons _ _ => simp at h
    | cons x a ih => intro b ha hb h; cases b with
      | nil => simp at h
      | cons y b =>
        simp only [List.map_cons, List.cons.injEq] at h
        have h1 := ha x (List.mem_cons_self ..)
        have h2 := hb y (List.mem_cons_self ..)
        have h3 := congrArg UInt8.toNat h.1
        simp only [UInt8.toNat_ofNat'] at h3
        have : x = y := by omega
        rw [this, ih (fun z hz => ha z (List.mem_cons_of_mem _ hz)) (fun z hz => hb z (List.mem_cons_of_mem _ hz)) h.2]
  exact key ha hb h
theorem sameCh_eq {c d : ChR} (hc : okB c.v) (hd : okB d.v) : sameCh c d = sameB c d := by
  unfold sameCh sameB
  congr 1
  rw [decide_eq_decide]
  exact ⟨bstr_inj hc hd, fun h => by rw [h]⟩
end Go.ZM

/- What a side says of itself: contracts. -/
set_option maxRecDepth 100000
namespace Go.ZR
open Go.Z Go.ZM Go.Proofs
def helL (h : HelR) (ck : O) : O := .agg [iO .u32 h.tag, iO .u32 h.win, iO .u16 h.out, iO .u16 h.inn, iO .u32 h.tsn, ck]
def helO (h : HelR) : O := helL h (bsO h.cookie)
def helN (h : HelR) : O := helL h (bsN h.cookie)
def helOfO : O → HelR
  | .agg [a, b, c, d, e, f] => ⟨vi (dO a), vi (dO b), vi (dO c), vi (dO d), vi (dO e), vl (dO f)⟩
  | _ => noHel
def greetC : Ctr := nC 2 true (fun a => ∃ h b, a = [helO h, bO b]) fun a => [bO (greetF (helOfO (at_ a 0)) (vb (dO (at_ a 1))))]
def fromHelC : Ctr := nC 2 false (fun a => ∃ h b, a = [helO h, bO b] ∧ okHel h) fun a =>
  [chN (fromHel (helOfO (at_ a 0)) (vb (dO (at_ a 1)))).1, iO .i64 (fromHel (helOfO (at_ a 0)) (vb (dO (at_ a 1)))).2]
def eqC : Ctr := nC 2 true (fun a => ∃ l m, a = [bsO l, bsO m] ∧ sm l.length) fun a => [bO (decide (vl (dO (at_ a 0)) = vl (dO (at_ a 1))))]
def sameBC : Ctr := nC 2 true (fun a => ∃ c d, a = [chO c, chO d] ∧ okCh c) fun a => [bO (sameB (chOf (at_ a 0)) (chOf (at_ a 1)))]
def rdO (v : List Int) (i : Int) (b : Bool) : O := .ptr 302 [bsO v, iO .i64 i, bO b]
def rdOf : O → List Int × Int × Bool
  | .ptr _ [v, i, b] => (vl (dO v), vi (dO i), vb (dO b))
  | _ => ([], 0, false)
def rdC : Ctr where
  own := [true, false]
  pre := fun a => ∃ (v : List Int) (i : Int) (b : Bool) (k : Nat), a = [rdO v i b, iO .i64 k] ∧ sm v.length ∧ okB v ∧ 0 ≤ i ∧ i ≤ 1099511627776 ∧ 1 ≤ k ∧ k ≤ 8
  res := fun a => [iO .u64 (numAt (rdOf (at_ a 0)).1 (rdOf (at_ a 0)).2.1 (vi (dO (at_ a 1))).toNat)]
  upd := fun a => [rdO (rdOf (at_ a 0)).1 ((rdOf (at_ a 0)).2.1 + vi (dO (at_ a 1))) ((rdOf (at_ a 0)).2.2 || !decide ((getF (rdOf (at_ a 0)).1 (rdOf (at_ a 0)).2.1 (vi (dO (at_ a 1))).toNat).2 = 0)), .any]
  ro := true
  quiet := false
def toHelC : Ctr := nC 1 false (fun a => ∃ c, a = [chO c] ∧ okB c.v ∧ sm c.v.length) fun a => [helN (toHel (chOf (at_ a 0))).1, iO .i64 (toHel (chOf (at_ a 0))).2]
def sameHelC : Ctr := nC 2 true (fun a => ∃ h g, a = [helO h, helO g]) fun a => [bO (sameHel (helOfO (at_ a 0)) (helOfO (at_ a 1)))]
def getQ : Ctr := { getC 8 with quiet := true }
def numQ : Ctr := { numC with quiet := true }
theorem ok205q : FnIs Try.prog 205 getQ := ⟨ok205.1, ok205.2⟩
theorem ok212q : FnIs Try.prog 212 numQ := ⟨ok212.1, ok212.2⟩
def eqAnn (l m : List Int) : LoopAnn where
  γ := Nat
  pre := fun i => i ≤ l.length ∧ ∀ j, j < i → l.getD j 0 = m.getD j 0
  μ := fun i => l.length - i
  items := fun i => [(13, .c (iO .i64 (i : Int)))]
def c12 : List (Nat × Ctr) := [(197, greetC), (198, putC), (199, paddedC)]
def c13 : List (Nat × Ctr) := [(163, eqC)]
def c14 : List (Nat × Ctr) := [(205, getQ)]
def c15 : List (Nat × Ctr) := [(200, rdC), (201, partC), (155, fromHelC), (202, sameBC)]
def c16 : List (Nat × Ctr) := [(212, numQ), (116, fromHelC), (118, sameC)]
theorem c14_ok : COk Try.prog (ctrs c14) := cok_cons ok205q cok_nil
end Go.ZR
