/- Part 20 of what the closing text rests on. -/
import Derived.Test.YtlbfenfepmmihaaP19
import Derived.Test.YtlbfenfepmmihaaRows
set_option maxRecDepth 100000
namespace Go.Z
theorem D.recs_ext {X : Nat → Prop} {w : World} {es n : Nat} {f g : Nat → Nat → D} (h : ∀ i, i < n → ∀ j, j < es → f i j = g i j) {c : Value} (hc : (D.recs es n f).holds X w c) : (D.recs es n g).holds X w c := by
  obtain ⟨L, h1, h2, h3, h4, h5, h6⟩ := hc
  exact ⟨L, h1, h2, h3, h4, h5, fun i hi j hj => by rw [← h i hi j hj]; exact h6 i hi j hj⟩
theorem FnIs.weaken {P : Program} {f : Nat} {c d : Ctr} (h : FnIs P f c) (hg : d.gl = c.gl)
    (hp : ∀ (X : Nat → Prop) (w : World) (aa : List O) (vs : List Value) (fp : List Nat), d.pre aa → OL.holds X w aa vs fp → ∃ bs, c.pre bs ∧ OL.holds X w bs vs fp ∧ c.upd bs = d.upd aa ∧ c.res bs = d.res aa) : FnIs P f d := by
  refine ⟨fun w A aa vs fp h1 h2 h3 h4 h5 => ?_, h.2⟩
  obtain ⟨bs, p1, p2, p3, p4⟩ := hp _ w aa vs fp h4 h1
  rw [← p3, ← p4]
  exact h.1 w A bs vs fp p2 h2 h3 p1 (by rw [← hg]; exact h5)
end Go.Z
namespace Go.ZR
open Go.Z Go.ZM Go.Proofs
theorem size43 : Try.prog.types[43].size = 2 := by kernel_rfl
def heaF (h : HeaR) (es n : Nat) (F : Nat → Nat → D) : O := .agg [iO .u32 h.cum, iO .u32 h.win, .d (.recs es n F), .d (.ints .u32 h.dups)]
def isGaps (l : List (Int × Int)) (es n : Nat) (F : Nat → Nat → D) : Prop := es = 2 ∧ l.length = n ∧ ∀ i, i < n → ∀ j, j < 2 → F i j = gapCell l i j
def heardGC : Ctr := { heardQC with pre := fun a => ∃ bs q h es n F, a = [quB bs q, heaF h es n F] ∧ isGaps h.gaps es n F ∧ okQ q ∧ oneP q ∧ okHea h }
theorem gapsOf_ext {l : List (Int × Int)} {es n : Nat} {F : Nat → Nat → D} (h : isGaps l es n F) : gapsOf (.recs es n F) = l := by
  obtain ⟨rfl, rfl, h⟩ := h
  have e := gapsOf_gaps l
  refine Eq.trans ?_ e
  show (List.range l.length).map _ = (List.range l.length).map _
  refine List.map_congr_left fun i hi => ?_
  have hi := List.mem_range.1 hi
  show (vi (F i 0), vi (F i 1)) = (vi (gapCell l i 0), vi (gapCell l i 1))
  rw [h i hi 0 (by decide), h i hi 1 (by decide)]
theorem ok41g : FnIs Try.prog 41 heardGC := by
  refine ok41.weaken rfl fun X w aa vs fp hd hh => ?_
  obtain ⟨bs, q, h, es, n, F, rfl, hF, h1, h2, h3⟩ := hd
  have e : heaOfO (heaF h es n F) = heaOfO (heaO h) := by
    show (⟨h.cum, h.win, gapsOf (.recs es n F), h.dups⟩ : HeaR) = ⟨h.cum, h.win, gapsOf (.recs 2 h.gaps.length (gapCell h.gaps)), h.dups⟩
    rw [gapsOf_ext hF, gapsOf_gaps]
  have ea : heardA [quB bs q, heaF h es n F] = heardA [quB bs q, heaO h] := by
    show heardQ _ (heaOfO (heaF h es n F)) = heardQ _ (heaOfO (heaO h))
    rw [e]
    rfl
  refine ⟨[quB bs q, heaO h], ⟨bs, q, h, rfl, h1, h2, h3⟩, ?_, ?_, ?_⟩
  · obtain ⟨rfl, rfl, hF⟩ := hF
    match vs, hh with
    | [v1, v2], hh =>
      simp only [OL.holds] at hh ⊢
      obtain ⟨f1, f2, e1, a1, f3, f4, e2, a2, a3⟩ := hh
      refine ⟨f1, f2, e1, a1, f3, f4, e2, ?_, a3⟩
      unfold heaF at a2
      unfold heaO
      simp only [O.holds] at a2 ⊢
      obtain ⟨us, e3, a4⟩ := a2
      refine ⟨us, e3, ?_⟩
      match us, a4 with
      | [u1, u2, u3, u4], a4 =>
        simp only [OL.holds] at a4 ⊢
        obtain ⟨g1, g2, k1, b1, g3, g4, k2, b2, g5, g6, k3, b3, b4⟩ := a4
        refine ⟨g1, g2, k1, b1, g3, g4, k2, b2, g5, g6, k3, ?_, b4⟩
        simp only [O.holds] at b3 ⊢
        exact ⟨D.recs_ext hF b3.1, b3.2⟩
  · exact congrArg (fun x => quO (HdR.q x) :: List.replicate 1 O.any) ea.symm
  · exact congrArg (fun x => [O.own 3 (.ints .i64 (HdR.ac x)), .own 3 (.ints .i64 (HdR.fast x)), iO .i64 (HdR.e x)]) ea.symm
end Go.ZR

set_option maxRecDepth 100000
namespace Go.ZM
open Go.Z Go.ZR
def pc1 (b : Int) : PieR := ⟨0, 0, 0, false, false, false, [b]⟩
end Go.ZM
namespace Go.ZR
open Go.Z Go.ZM Go.Proofs
def n4 : List (Nat × Ctr) := [(37, newQC), (39, pushQC), (40, nextQC), (41, heardGC), (51, cumQC)]
theorem n4_ok : COk Try.prog (ctrs n4) := cok_cons ok37 (cok_cons ok39 (cok_cons ok40 (cok_cons ok41g (cok_cons ok51 cok_nil))))
def yesC (n : Nat) (pre : List O → Prop) : Ctr := nC n false pre fun _ => [bO true]
def ansQC : Ctr := yesC 0 fun a => a = []
def fullC : Ctr := yesC 3 fun a => ∃ f n g : Int, a = [iO .u32 f, iO .u8 n, iO .u8 g] ∧ (0 ≤ f ∧ f ≤ 4294967295) ∧ (0 ≤ n ∧ n ≤ 255) ∧ (0 ≤ g ∧ g ≤ 255)
def n5 : List (Nat × Ctr) := (38, ansQC) :: n4
def full1 (f : Int) : LoopAnn where
  γ := Nat × QuR
  pre := fun g => g.1 ≤ 256 ∧ okQ g.2 ∧ g.2.next = u32 (f + g.1) ∧ g.2.wait.length = g.1 ∧ g.2.out = []
  μ := fun g => 256 - g.1
  items := fun g => [(8, .c (iO .i64 (g.1 : Int))), (7, .c (quO g.2))]
def full2 (f : Int) (n : Int) : LoopAnn where
  γ := Nat × QuR
  pre := fun g => (g.1 : Int) ≤ n ∧ okQ g.2 ∧ oneP g.2 ∧ g.2.next = u32 (f + 256) ∧ g.2.wait.length = 256 - g.1 ∧ g.2.out.length = g.1 ∧ markQ g.2.out = none
  μ := fun g => n.toNat - g.1
  items := fun g => [(14, .c (iO .i64 (g.1 : Int))), (7, .c (quO g.2))]
def full3 (h : Int) : LoopAnn where
  γ := Nat × QuR
  pre := fun g => (g.1 : Int) ≤ h ∧ okQ g.2 ∧ ((g.2.wait.length + g.2.out.length : Nat) : Int) = 256 - h + g.1
  μ := fun g => h.toNat - g.1
  items := fun g => [(19, .c (iO .i64 (g.1 : Int))), (7, .c (quO g.2))]
end Go.ZR

set_option maxRecDepth 100000
namespace Go.ZM
open Go.Z
theorem u32_lo (x : Int) : 0 ≤ u32 x ∧ u32 x ≤ 4294967295 := by unfold u32; omega
theorem okQ_new {f : Int} (h : 0 ≤ f ∧ f ≤ 4294967295) : okQ (newQ f) := ⟨h, by simp [newQ], by simp [newQ], by simp [newQ]⟩
theorem okQ_push {q : QuR} (h : okQ q) {p : PieR} (hp : 0 < p.bytes.length ∧ p.bytes.length ≤ 256) (hl : q.wait.length + q.out.length < 256) : pushQ q p = (⟨u32 (q.next + 1), q.wait ++ [{ p with tsn := q.next }], q.out⟩, q.next, 0) ∧ okQ (pushQ q p).1 := by
  have e : pushQ q p = (⟨u32 (q.next + 1), q.wait ++ [{ p with tsn := q.next }], q.out⟩, q.next, 0) := by
    unfold pushQ
    rw [if_neg (by omega), if_neg (by omega)]
  refine ⟨e, ?_⟩
  rw [e]
  refine ⟨u32_lo _, ?_, ?_, h.2.2.2⟩
  · simp only [List.length_append, List.length_singleton]; omega
  · intro x hx
    rcases List.mem_append.1 hx with hx | hx
    · exact h.2.2.1 x hx
    · rw [List.mem_singleton] at hx
      subst hx
      exact hp.2
theorem pushQ_full {q : QuR} {p : PieR} (hp : 0 < p.bytes.length ∧ p.bytes.length ≤ 256) (hl : 256 ≤ q.wait.length + q.out.length) : pushQ q p = (q, 0, 10) := by
  unfold pushQ
  rw [if_neg (by omega), if_pos hl]
theorem nextQ_cons {q : QuR} {p : Int} {x : PieR} {l : List PieR} (hm : markQ q.out = none) (hw : q.wait = x :: l) : nextQ q p = (⟨q.next, l, q.out ++ [⟨x, p, 0, false, false⟩]⟩, x, true) := by
  unfold nextQ
  rw [hm, hw]
theorem okQ_next {q : QuR} (h : okQ q) {p : Int} {x : PieR} {l : List PieR} (hw : q.wait = x :: l) : okQ ⟨q.next, l, q.out ++ [⟨x, p, 0, false, false⟩]⟩ := by
  obtain ⟨h1, h2, h3, h4⟩ := h
  rw [hw] at h2 h3
  refine ⟨h1, ?_, fun y hy => h3 y (List.mem_cons_of_mem _ hy), ?_⟩
  · simp only [List.length_append, List.length_cons, List.length_nil] at h2 ⊢; omega
  · intro y hy
    rcases List.mem_append.1 hy with hy | hy
    · exact h4 y hy
    · rw [List.mem_singleton] at hy
      subst hy
      exact ⟨h3 x (List.mem_cons_self ..), Int.le_refl _, show (0 : Int) ≤ 2 by decide⟩
theorem markQ_app {l : List ItR} (h : markQ l = none) {x : ItR} (hx : x.marked = false) : markQ (l ++ [x]) = none := by
  unfold markQ at *
  rw [List.findIdx?_eq_none_iff] at *
  intro y hy
  rcases List.mem_append.1 hy with hy | hy
  · exact h y hy
  · rw [List.mem_singleton] at hy
    subst hy
    exact hx
theorem oneP_app {q : QuR} (h : oneP q) {x : PieR} {n : Int} {l : List PieR} : oneP ⟨n, l, q.out ++ [⟨x, 0, 0, false, false⟩]⟩ := by
  intro y hy
  rcases List.mem_append.1 hy with hy | hy
  · exact h y hy
  · rw [List.mem_singleton] at hy
    subst hy
    rfl
theorem u32_succ (x : Int) : u32 (u32 x + 1) = u32 (x + 1) := by unfold u32; omega
def fresh (x : ItR) : Prop := x.pc.bytes.length = 1 ∧ x.path = 0 ∧ x.missed = 0 ∧ x.heard = false ∧ x.marked = false
theorem mapTo_z {α : Type} (f : Nat → α → α) (l : List α) : mapTo f l 0 = l := by simp [mapTo]
end Go.ZM

namespace Go.ZR
open Go.Proofs
open Go.Z Go.ZM Go.RowKit
set_option maxRecDepth 100000
noncomputable def code38 : Code := match Try.f38.body with | some c => c | none => .skip
set_option maxHeartbeats 4000000 in
theorem vc38 : (∃ (f : Int), [O.d (D.v (Value.int IntKind.u32 (5 : Int)))] = [O.d (D.v (Value.int IntKind.u32 f))]) ∧ ∀ (bs : List Nat), bs.length = (newQ (5 : Int)).out.length →
  (∃ (bs_1 : List Nat), ∃ (q : QuR), ∃ (p : PieR), [O.ptr (166 : Nat) [O.d (D.v (Value.int IntKind.u32 (newQ (5 : Int)).next)), O.own (86 : Nat) (D.recs (7 : Nat) (newQ (5 : Int)).wait.length (pieCell (newQ (5 : Int)).wait)), O.pown (169 : Nat) (171 : Nat) (11 : Nat) (some bs) (newQ (5 : Int)).out.length (itCell (newQ (5 : Int)).out)], O.agg [O.d (D.v (Value.int IntKind.u32 (0 : Int))), O.d (D.v (Value.int IntKind.u16 (0 : Int))), O.d (D.v (Value.int IntKind.u16 (0 : Int))), O.d (D.v (Value.bool false)), O.d (D.v (Value.bool false)), O.d (D.v (Value.bool false)), O.d (D.ints IntKind.u8 [(1 : Int)])]] = [O.ptr (166 : Nat) [O.d (D.v (Value.int IntKind.u32 q.next)), O.own (86 : Nat) (D.recs (7 : Nat) q.wait.length (pieCell q.wait)), O.pown (169 : Nat) (171 : Nat) (11 : Nat) (some bs_1) q.out.length (itCell q.out)], O.agg [O.d (D.v (Value.int IntKind.u32 p.tsn)), O.d (D.v (Value.int IntKind.u16 p.str)), O.d (D.v (Value.int IntKind.u16 p.seq)), O.d (D.v (Value.bool p.b)), O.d (D.v (Value.bool p.e)), O.d (D.v (Value.bool p.u)), O.d (D.ints IntKind.u8 p.bytes)]] ∧
  okQ q ∧ sm p.bytes.length) ∧ ∀ (bs_1 : List Nat), bs_1.length = (itsOf (newQ (5 : Int)).out.length (itCell (newQ (5 : Int)).out)).length → True ∧ SV.c (Value.int IntKind.u32 (newQ (5 : Int)).next) = SV.c (Value.int IntKind.u32 (newQ (5 : Int)).next) ∧
  ([decide ((0 : Int) = (0 : Int))] = [decide ((0 : Int) = (0 : Int))] ∧ True ∧ SV.c (Value.bool (decide ((newQ (5 : Int)).next = (5 : Int)))) = SV.c (Value.bool (decide ((newQ (5 : Int)).next = (5 : Int))))) ∧
  [decide ((0 : Int) = (0 : Int))] = [decide ((0 : Int) = (0 : Int))] ∧ SV.p (2 : Nat) (0 : Nat) = SV.p (2 : Nat) (0 : Nat) ∧ ([decide ((0 : Int) = (0 : Int)) && decide ((newQ (5 : Int)).next = (5 : Int))] = [decide ((0 : Int) = (0 : Int)) && decide ((newQ (5 : Int)).next = (5 : Int))] ∧
  (∃ (n : Int), ∃ (w : List PieR), ∃ (l : List ItR), [O.d (D.ptr (166 : Nat) [D.v (Value.int IntKind.u32 (u32 ((newQ (5 : Int)).next + (1 : Int)))), D.recs (7 : Nat) (piesOf (D.recs (7 : Nat) (newQ (5 : Int)).wait.length (pieCell (newQ (5 : Int)).wait)) ++ [PieR.mk (newQ (5 : Int)).next (0 : Int) (0 : Int) false false false [(1 : Int)]]).length (pieCell (piesOf (D.recs (7 : Nat) (newQ (5 : Int)).wait.length (pieCell (newQ (5 : Int)).wait)) ++ [PieR.mk (newQ (5 : Int)).next (0 : Int) (0 : Int) false false false [(1 : Int)]])), D.recs (1 : Nat) (itsOf (newQ (5 : Int)).out.length (itCell (newQ (5 : Int)).out)).length fun (i _x : Nat) => D.ptr (171 : Nat) (11 : Nat) (itCell (itsOf (newQ (5 : Int)).out.length (itCell (newQ (5 : Int)).out)) i)].length fun (i : Nat) => [D.v (Value.int IntKind.u32 (u32 ((newQ (5 : Int)).next + (1 : Int)))), D.recs (7 : Nat) (piesOf (D.recs (7 : Nat) (newQ (5 : Int)).wait.length (pieCell (newQ (5 : Int)).wait)) ++ [PieR.mk (newQ (5 : Int)).next (0 : Int) (0 : Int) false false false [(1 : Int)]]).length (pieCell (piesOf (D.recs (7 : Nat) (newQ (5 : Int)).wait.length (pieCell (newQ (5 : Int)).wait)) ++ [PieR.mk (newQ (5 : Int)).next (0 : Int) (0 : Int) false false false [(1 : Int)]])), D.recs (1 : Nat) (itsOf (newQ (5 : Int)).out.length (itCell (newQ (5 : Int)).out)).length fun (i _x : Nat) => D.ptr (171 : Nat) (11 : Nat) (itCell (itsOf (newQ (5 : Int)).out.length (itCell (newQ (5 : Int)).out)) i)].getD i (D.v undef))] = [O.d (D.ptr (166 : Nat) [D.v (Value.int IntKind.u32 n), D.recs (7 : Nat) w.length (pieCell w), D.recs (1 : Nat) l.length fun (i _x : Nat) => D.ptr (171 : Nat) (11 : Nat) (itCell l i)].length fun (i : Nat) => [D.v (Value.int IntKind.u32 n), D.recs (7 : Nat) w.length (pieCell w), D.recs (1 : Nat) l.length fun (i _x : Nat) => D.ptr (171 : Nat) (11 : Nat) (itCell l i)].getD i (D.v undef))] ∧
  w.length + l.length ≤ (256 : Nat)) ∧ SV.c (Value.int IntKind.u32 (cumQ (QuR.mk (u32 ((newQ (5 : Int)).next + (1 : Int))) (piesOf ([D.v (Value.int IntKind.u32 (u32 ((newQ (5 : Int)).next + (1 : Int)))), D.recs (7 : Nat) (piesOf (D.recs (7 : Nat) (newQ (5 : Int)).wait.length (pieCell (newQ (5 : Int)).wait)) ++ [PieR.mk (newQ (5 : Int)).next (0 : Int) (0 : Int) false false false [(1 : Int)]]).length (pieCell (piesOf (D.recs (7 : Nat) (newQ (5 : Int)).wait.length (pieCell (newQ (5 : Int)).wait)) ++ [PieR.mk (newQ (5 : Int)).next (0 : Int) (0 : Int) false false false [(1 : Int)]])), D.recs (1 : Nat) (itsOf (newQ (5 : Int)).out.length (itCell (newQ (5 : Int)).out)).length fun (i _x : Nat) => D.ptr (171 : Nat) (11 : Nat) (itCell (itsOf (newQ (5 : Int)).out.length (itCell (newQ (5 : Int)).out)) i)].getD (1 : Nat) (D.v undef))) []))) = SV.c (Value.int IntKind.u32 (cumQ (QuR.mk (u32 ((newQ (5 : Int)).next + (1 : Int))) (piesOf ([D.v (Value.int IntKind.u32 (u32 ((newQ (5 : Int)).next + (1 : Int)))), D.recs (7 : Nat) (piesOf (D.recs (7 : Nat) (newQ (5 : Int)).wait.length (pieCell (newQ (5 : Int)).wait)) ++ [PieR.mk (newQ (5 : Int)).next (0 : Int) (0 : Int) false false false [(1 : Int)]]).length (pieCell (piesOf (D.recs (7 : Nat) (newQ (5 : Int)).wait.length (pieCell (newQ (5 : Int)).wait)) ++ [PieR.mk (newQ (5 : Int)).next (0 : Int) (0 : Int) false false false [(1 : Int)]])), D.recs (1 : Nat) (itsOf (newQ (5 : Int)).out.length (itCell (newQ (5 : Int)).out)).length fun (i _x : Nat) => D.ptr (171 : Nat) (11 : Nat) (itCell (itsOf (newQ (5 : Int)).out.length (itCell (newQ (5 : Int)).out)) i)].getD (1 : Nat) (D.v undef))) [])))) ∧
  ([decide ((0 : Int) = (0 : Int)) && decide ((newQ (5 : Int)).next = (5 : Int))] = [decide ((0 : Int) = (0 : Int)) && decide ((newQ (5 : Int)).next = (5 : Int))] ∧
  True ∧ SV.c (Value.bool (decide (cumQ (QuR.mk (u32 ((newQ (5 : Int)).next + (1 : Int))) (piesOf ([D.v (Value.int IntKind.u32 (u32 ((newQ (5 : Int)).next + (1 : Int)))), D.recs (7 : Nat) (piesOf (D.recs (7 : Nat) (newQ (5 : Int)).wait.length (pieCell (newQ (5 : Int)).wait)) ++ [PieR.mk (newQ (5 : Int)).next (0 : Int) (0 : Int) false false false [(1 : Int)]]).length (pieCell (piesOf (D.recs (7 : Nat) (newQ (5 : Int)).wait.length (pieCell (newQ (5 : Int)).wait)) ++ [PieR.mk (newQ (5 : Int)).next (0 : Int) (0 : Int) false false false [(1 : Int)]])), D.recs (1 : Nat) (itsOf (newQ (5 : Int)).out.length (itCell (newQ (5 : Int)).out)).length fun (i _x : Nat) => D.ptr (171 : Nat) (11 : Nat) (itCell (itsOf (newQ (5 : Int)).out.length (itCell (newQ (5 : Int)).out)) i)].getD (1 : Nat) (D.v undef))) []) = (4 : Int)))) = SV.c (Value.bool (decide (cumQ (QuR.mk (u32 ((newQ (5 : Int)).next + (1 : Int))) (piesOf ([D.v (Value.int IntKind.u32 (u32 ((newQ (5 : Int)).next + (1 : Int)))), D.recs (7 : Nat) (piesOf (D.recs (7 : Nat) (newQ (5 : Int)).wait.length (pieCell (newQ (5 : Int)).wait)) ++ [PieR.mk (newQ (5 : Int)).next (0 : Int) (0 : Int) false false false [(1 : Int)]]).length (pieCell (piesOf (D.recs (7 : Nat) (newQ (5 : Int)).wait.length (pieCell (newQ (5 : Int)).wait)) ++ [PieR.mk (newQ (5 : Int)).next (0 : Int) (0 : Int) false false false [(1 : Int)]])), D.recs (1 : Nat) (itsOf (newQ (5 : Int)).out.length (itCell (newQ (5 : Int)).out)).length fun (i _x : Nat) => D.ptr (171 : Nat) (11 : Nat) (itCell (itsOf (newQ (5 : Int)).out.length (itCell (newQ (5 : Int)).out)) i)].getD (1 : Nat) (D.v undef))) []) = (4 : Int))))) ∧
  [decide ((0 : Int) = (0 : Int)) && decide ((newQ (5 : Int)).next = (5 : Int))] = [decide ((0 : Int) = (0 : Int)) && decide ((newQ (5 : Int)).next = (5 : Int))] ∧
  (decide ((0 : Int) = (0 : Int)) && decide ((newQ (5 : Int)).next = (5 : Int)) && decide (cumQ (QuR.mk (u32 ((newQ (5 : Int)).next + (1 : Int))) (piesOf ([D.v (Value.int IntKind.u32 (u32 ((newQ (5 : Int)).next + (1 : Int)))), D.recs (7 : Nat) (piesOf (D.recs (7 : Nat) (newQ (5 : Int)).wait.length (pieCell (newQ (5 : Int)).wait)) ++ [PieR.mk (newQ (5 : Int)).next (0 : Int) (0 : Int) false false false [(1 : Int)]]).length (pieCell (piesOf (D.recs (7 : Nat) (newQ (5 : Int)).wait.length (pieCell (newQ (5 : Int)).wait)) ++ [PieR.mk (newQ (5 : Int)).next (0 : Int) (0 : Int) false false false [(1 : Int)]])), D.recs (1 : Nat) (itsOf (newQ (5 : Int)).out.length (itCell (newQ (5 : Int)).out)).length fun (i _x : Nat) => D.ptr (171 : Nat) (11 : Nat) (itCell (itsOf (newQ (5 : Int)).out.length (itCell (newQ (5 : Int)).out)) i)].getD (1 : Nat) (D.v undef))) []) = (4 : Int))) = true ∧
  (true && true) = true := by
  simp only [↓Bool.and_eq_true, ↓decide_eq_true_eq, true_and, and_true, List.getD_cons_succ, List.getD_cons_zero, Nat.zero_add, List.length_cons, List.length_nil, List.length_append, piesOf_pies, itsOf_its]
  refine ⟨⟨_, rfl⟩, fun bs _ => ⟨⟨bs, newQ 5, pc1 1, rfl, okQ_new (by decide), by unfold sm; decide⟩, fun bs1 _ => ⟨⟨_, [{ pc1 1 with tsn := 5 }], [], rfl, by decide⟩, rfl, ?_⟩⟩⟩
  decide
set_option maxRecDepth 100000 in
theorem ok38 : FnIs Try.prog 38 ansQC := by
  refine fnIs (C := (ctrs n4)) (by kernel_rfl) n4_ok Try.func38 (code := code38) (by kernel_rfl) (by kernel_rfl) ?_
  rintro a rfl
  exact ⟨anns [], kcast (vc38) (by kernel_rfl)⟩

theorem n5_ok : COk Try.prog (ctrs n5) := cok_cons ok38 n4_ok
end Go.ZR
