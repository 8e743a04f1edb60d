/- Part 20 of what the closing text rests on. -/
import Derived.Test.YtlbfenfepmmihaaQ19
import Derived.Test.YtlbfenfepmmihaaRows
set_option maxRecDepth 100000
namespace Go.Z
theorem D.recs_ext {X : Nat → Prop} {w : World} {es n : Nat} {f g : Nat → Nat → D} (h : ∀ i, i < n → ∀ j, j < es → f i j = g i j) {c : Value} (hc : (D.recs es n f).holds X w c) : (D.recs es n g).holds X w c := by
  obtain ⟨L, h1, h2, h3, h4, h5, h6⟩ := hc
  exact ⟨L, h1, h2, h3, h4, h5, fun i hi j hj => by rw [← h i hi j hj]; exact h6 i hi j hj⟩
theorem FnIs.weaken {P : Program} {f : Nat} {c d : Ctr} (h : FnIs P f c) (hg : d.gl = c.gl)
    (hp : ∀ (X : Nat → Prop) (w : World) (aa : List O) (vs : List Value) (fp : List Nat), d.pre aa → OL.holds X w aa vs fp → ∃ bs, c.pre bs ∧ OL.holds X w bs vs fp ∧ c.upd bs = d.upd aa ∧ c.res bs = d.res aa) : FnIs P f d := by
  refine ⟨fun w A aa vs fp h1 h2 h3 h4 h5 => ?_, h.2⟩
  obtain ⟨bs, p1, p2, p3, p4⟩ := hp _ w aa vs fp h4 h1
  rw [← p3, ← p4]
  exact h.1 w A bs vs fp p2 h2 h3 p1 (by rw [← hg]; exact h5)
end Go.Z
namespace Go.ZR
open Go.Z Go.ZM Go.Proofs
def heaF (h : HeaR) (es n : Nat) (F : Nat → Nat → D) : O := .agg [iO .u32 h.cum, iO .u32 h.win, .d (.recs es n F), .d (.ints .u32 h.dups)]
def isGaps (l : List (Int × Int)) (es n : Nat) (F : Nat → Nat → D) : Prop := es = 2 ∧ l.length = n ∧ ∀ i, i < n → ∀ j, j < 2 → F i j = gapCell l i j
def heardGC : Ctr := { heardQC with pre := fun a => ∃ bs q h es n F, a = [quB bs q, heaF h es n F] ∧ isGaps h.gaps es n F ∧ okQ q ∧ oneP q ∧ okHea h }
theorem gapsOf_ext {l : List (Int × Int)} {es n : Nat} {F : Nat → Nat → D} (h : isGaps l es n F) : gapsOf (.recs es n F) = l := by
  obtain ⟨rfl, rfl, h⟩ := h
  have e := gapsOf_gaps l
  refine Eq.trans ?_ e
  show (List.range l.length).map _ = (List.range l.length).map _
  refine List.map_congr_left fun i hi => ?_
  have hi := List.mem_range.1 hi
  show (vi (F i 0), vi (F i 1)) = (vi (gapCell l i 0), vi (gapCell l i 1))
  rw [h i hi 0 (by decide), h i hi 1 (by decide)]
theorem ok41g : FnIs Try.prog 41 heardGC := by
  refine ok41.weaken rfl fun X w aa vs fp hd hh => ?_
  obtain ⟨bs, q, h, es, n, F, rfl, hF, h1, h2, h3⟩ := hd
  have e : heaOfO (heaF h es n F) = heaOfO (heaO h) := by
    show (⟨h.cum, h.win, gapsOf (.recs es n F), h.dups⟩ : HeaR) = ⟨h.cum, h.win, gapsOf (.recs 2 h.gaps.length (gapCell h.gaps)), h.dups⟩
    rw [gapsOf_ext hF, gapsOf_gaps]
  have ea : heardA [quB bs q, heaF h es n F] = heardA [quB bs q, heaO h] := by
    show heardQ _ (heaOfO (heaF h es n F)) = heardQ _ (heaOfO (heaO h))
    rw [e]
    rfl
  refine ⟨[quB bs q, heaO h], ⟨bs, q, h, rfl, h1, h2, h3⟩, ?_, ?_, ?_⟩
  · obtain ⟨rfl, rfl, hF⟩ := hF
    match vs, hh with
    | [v1, v2], hh =>
      simp only [OL.holds] at hh ⊢
      obtain ⟨f1, f2, e1, a1, f3, f4, e2, a2, a3⟩ := hh
      refine ⟨f1, f2, e1, a1, f3, f4, e2, ?_, a3⟩
      unfold heaF at a2
      unfold heaO
      simp only [O.holds] at a2 ⊢
      obtain ⟨us, e3, a4⟩ := a2
      refine ⟨us, e3, ?_⟩
      match us, a4 with
      | [u1, u2, u3, u4], a4 =>
        simp only [OL.holds] at a4 ⊢
        obtain ⟨g1, g2, k1, b1, g3, g4, k2, b2, g5, g6, k3, b3, b4⟩ := a4
        refine ⟨g1, g2, k1, b1, g3, g4, k2, b2, g5, g6, k3, ?_, b4⟩
        simp only [O.holds] at b3 ⊢
        exact ⟨D.recs_ext hF b3.1, b3.2⟩
  · exact congrArg (fun x => quO (HdR.q x) :: List.replicate 1 O.any) ea.symm
  · exact congrArg (fun x => [O.own 3 (.ints .i64 (HdR.ac x)), .own 3 (.ints .i64 (HdR.fast x)), iO .i64 (HdR.e x)]) ea.symm
end Go.ZR

set_option maxRecDepth 100000
namespace Go.ZM
open Go.Z Go.ZR
def pc1 (b : Int) : PieR := ⟨0, 0, 0, false, false, false, [b]⟩
end Go.ZM
namespace Go.ZR
open Go.Z Go.ZM Go.Proofs
def n4 : List (Nat × Ctr) := [(37, newQC), (39, pushQC), (40, nextQC), (41, heardGC), (51, cumQC)]
theorem n4_ok : COk Try.prog (ctrs n4) := cok_cons ok37 (cok_cons ok39 (cok_cons ok40 (cok_cons ok41g (cok_cons ok51 cok_nil))))
def yesC (n : Nat) (pre : List O → Prop) : Ctr := nC n false pre fun _ => [bO true]
def ansQC : Ctr := yesC 0 fun a => a = []
end Go.ZR

set_option maxRecDepth 100000
namespace Go.ZM
open Go.Z
theorem u32_lo (x : Int) : 0 ≤ u32 x ∧ u32 x ≤ 4294967295 := by unfold u32; omega
theorem okQ_new {f : Int} (h : 0 ≤ f ∧ f ≤ 4294967295) : okQ (newQ f) := ⟨h, by simp [newQ], by simp [newQ], by simp [newQ]⟩
def fresh (x : ItR) : Prop := x.pc.bytes.length = 1 ∧ x.path = 0 ∧ x.missed = 0 ∧ x.heard = false ∧ x.marked = false
end Go.ZM

namespace Go.ZR
open Go.Proofs
open Go.Z Go.ZM Go.RowKit
set_option maxRecDepth 100000
noncomputable def code38 : Code := match Try.f38.body with | some c => c | none => .skip
set_option maxHeartbeats 4000000 in
theorem vc38 : (∃ (f : Int), [O.d (D.v (Value.int IntKind.u32 (5 : Int)))] = [O.d (D.v (Value.int IntKind.u32 f))]) ∧ ∀ (bs : List Nat), bs.length = (newQ (5 : Int)).out.length →
  (∃ (bs_1 : List Nat), ∃ (q : QuR), ∃ (p : PieR), [O.ptr (166 : Nat) [O.d (D.v (Value.int IntKind.u32 (newQ (5 : Int)).next)), O.own (86 : Nat) (D.recs (7 : Nat) (newQ (5 : Int)).wait.length (pieCell (newQ (5 : Int)).wait)), O.pown (169 : Nat) (171 : Nat) (11 : Nat) (some bs) (newQ (5 : Int)).out.length (itCell (newQ (5 : Int)).out)], O.agg [O.d (D.v (Value.int IntKind.u32 (0 : Int))), O.d (D.v (Value.int IntKind.u16 (0 : Int))), O.d (D.v (Value.int IntKind.u16 (0 : Int))), O.d (D.v (Value.bool false)), O.d (D.v (Value.bool false)), O.d (D.v (Value.bool false)), O.d (D.ints IntKind.u8 [(1 : Int)])]] = [O.ptr (166 : Nat) [O.d (D.v (Value.int IntKind.u32 q.next)), O.own (86 : Nat) (D.recs (7 : Nat) q.wait.length (pieCell q.wait)), O.pown (169 : Nat) (171 : Nat) (11 : Nat) (some bs_1) q.out.length (itCell q.out)], O.agg [O.d (D.v (Value.int IntKind.u32 p.tsn)), O.d (D.v (Value.int IntKind.u16 p.str)), O.d (D.v (Value.int IntKind.u16 p.seq)), O.d (D.v (Value.bool p.b)), O.d (D.v (Value.bool p.e)), O.d (D.v (Value.bool p.u)), O.d (D.ints IntKind.u8 p.bytes)]] ∧
  okQ q ∧ sm p.bytes.length) ∧ ∀ (bs_1 : List Nat), bs_1.length = (itsOf (newQ (5 : Int)).out.length (itCell (newQ (5 : Int)).out)).length → True ∧ SV.c (Value.int IntKind.u32 (newQ (5 : Int)).next) = SV.c (Value.int IntKind.u32 (newQ (5 : Int)).next) ∧
  ([decide ((0 : Int) = (0 : Int))] = [decide ((0 : Int) = (0 : Int))] ∧ True ∧ SV.c (Value.bool (decide ((newQ (5 : Int)).next = (5 : Int)))) = SV.c (Value.bool (decide ((newQ (5 : Int)).next = (5 : Int))))) ∧
  [decide ((0 : Int) = (0 : Int))] = [decide ((0 : Int) = (0 : Int))] ∧ SV.p (2 : Nat) (0 : Nat) = SV.p (2 : Nat) (0 : Nat) ∧ ([decide ((0 : Int) = (0 : Int)) && decide ((newQ (5 : Int)).next = (5 : Int))] = [decide ((0 : Int) = (0 : Int)) && decide ((newQ (5 : Int)).next = (5 : Int))] ∧
  (∃ (n : Int), ∃ (w : List PieR), ∃ (l : List ItR), [O.d (D.ptr (166 : Nat) [D.v (Value.int IntKind.u32 (u32 ((newQ (5 : Int)).next + (1 : Int)))), D.recs (7 : Nat) (piesOf (D.recs (7 : Nat) (newQ (5 : Int)).wait.length (pieCell (newQ (5 : Int)).wait)) ++ [PieR.mk (newQ (5 : Int)).next (0 : Int) (0 : Int) false false false [(1 : Int)]]).length (pieCell (piesOf (D.recs (7 : Nat) (newQ (5 : Int)).wait.length (pieCell (newQ (5 : Int)).wait)) ++ [PieR.mk (newQ (5 : Int)).next (0 : Int) (0 : Int) false false false [(1 : Int)]])), D.recs (1 : Nat) (itsOf (newQ (5 : Int)).out.length (itCell (newQ (5 : Int)).out)).length fun (i _x : Nat) => D.ptr (171 : Nat) (11 : Nat) (itCell (itsOf (newQ (5 : Int)).out.length (itCell (newQ (5 : Int)).out)) i)].length fun (i : Nat) => [D.v (Value.int IntKind.u32 (u32 ((newQ (5 : Int)).next + (1 : Int)))), D.recs (7 : Nat) (piesOf (D.recs (7 : Nat) (newQ (5 : Int)).wait.length (pieCell (newQ (5 : Int)).wait)) ++ [PieR.mk (newQ (5 : Int)).next (0 : Int) (0 : Int) false false false [(1 : Int)]]).length (pieCell (piesOf (D.recs (7 : Nat) (newQ (5 : Int)).wait.length (pieCell (newQ (5 : Int)).wait)) ++ [PieR.mk (newQ (5 : Int)).next (0 : Int) (0 : Int) false false false [(1 : Int)]])), D.recs (1 : Nat) (itsOf (newQ (5 : Int)).out.length (itCell (newQ (5 : Int)).out)).length fun (i _x : Nat) => D.ptr (171 : Nat) (11 : Nat) (itCell (itsOf (newQ (5 : Int)).out.length (itCell (newQ (5 : Int)).out)) i)].getD i (D.v undef))] = [O.d (D.ptr (166 : Nat) [D.v (Value.int IntKind.u32 n), D.recs (7 : Nat) w.length (pieCell w), D.recs (1 : Nat) l.length fun (i _x : Nat) => D.ptr (171 : Nat) (11 : Nat) (itCell l i)].length fun (i : Nat) => [D.v (Value.int IntKind.u32 n), D.recs (7 : Nat) w.length (pieCell w), D.recs (1 : Nat) l.length fun (i _x : Nat) => D.ptr (171 : Nat) (11 : Nat) (itCell l i)].getD i (D.v undef))] ∧
  w.length + l.length ≤ (256 : Nat)) ∧ SV.c (Value.int IntKind.u32 (cumQ (QuR.mk (u32 ((newQ (5 : Int)).next + (1 : Int))) (piesOf ([D.v (Value.int IntKind.u32 (u32 ((newQ (5 : Int)).next + (1 : Int)))), D.recs (7 : Nat) (piesOf (D.recs (7 : Nat) (newQ (5 : Int)).wait.length (pieCell (newQ (5 : Int)).wait)) ++ [PieR.mk (newQ (5 : Int)).next (0 : Int) (0 : Int) false false false [(1 : Int)]]).length (pieCell (piesOf (D.recs (7 : Nat) (newQ (5 : Int)).wait.length (pieCell (newQ (5 : Int)).wait)) ++ [PieR.mk (newQ (5 : Int)).next (0 : Int) (0 : Int) false false false [(1 : Int)]])), D.recs (1 : Nat) (itsOf (newQ (5 : Int)).out.length (itCell (newQ (5 : Int)).out)).length fun (i _x : Nat) => D.ptr (171 : Nat) (11 : Nat) (itCell (itsOf (newQ (5 : Int)).out.length (itCell (newQ (5 : Int)).out)) i)].getD (1 : Nat) (D.v undef))) []))) = SV.c (Value.int IntKind.u32 (cumQ (QuR.mk (u32 ((newQ (5 : Int)).next + (1 : Int))) (piesOf ([D.v (Value.int IntKind.u32 (u32 ((newQ (5 : Int)).next + (1 : Int)))), D.recs (7 : Nat) (piesOf (D.recs (7 : Nat) (newQ (5 : Int)).wait.length (pieCell (newQ (5 : Int)).wait)) ++ [PieR.mk (newQ (5 : Int)).next (0 : Int) (0 : Int) false false false [(1 : Int)]]).length (pieCell (piesOf (D.recs (7 : Nat) (newQ (5 : Int)).wait.length (pieCell (newQ (5 : Int)).wait)) ++ [PieR.mk (newQ (5 : Int)).next (0 : Int) (0 : Int) false false false [(1 : Int)]])), D.recs (1 : Nat) (itsOf (newQ (5 : Int)).out.length (itCell (newQ (5 : Int)).out)).length fun (i _x : Nat) => D.ptr (171 : Nat) (11 : Nat) (itCell (itsOf (newQ (5 : Int)).out.length (itCell (newQ (5 : Int)).out)) i)].getD (1 : Nat) (D.v undef))) [])))) ∧
  ([decide ((0 : Int) = (0 : Int)) && decide ((newQ (5 : Int)).next = (5 : Int))] = [decide ((0 : Int) = (0 : Int)) && decide ((newQ (5 : Int)).next = (5 : Int))] ∧
  True ∧ SV.c (Value.bool (decide (cumQ (QuR.mk (u32 ((newQ (5 : Int)).next + (1 : Int))) (piesOf ([D.v (Value.int IntKind.u32 (u32 ((newQ (5 : Int)).next + (1 : Int)))), D.recs (7 : Nat) (piesOf (D.recs (7 : Nat) (newQ (5 : Int)).wait.length (pieCell (newQ (5 : Int)).wait)) ++ [PieR.mk (newQ (5 : Int)).next (0 : Int) (0 : Int) false false false [(1 : Int)]]).length (pieCell (piesOf (D.recs (7 : Nat) (newQ (5 : Int)).wait.length (pieCell (newQ (5 : Int)).wait)) ++ [PieR.mk (newQ (5 : Int)).next (0 : Int) (0 : Int) false false false [(1 : Int)]])), D.recs (1 : Nat) (itsOf (newQ (5 : Int)).out.length (itCell (newQ (5 : Int)).out)).length fun (i _x : Nat) => D.ptr (171 : Nat) (11 : Nat) (itCell (itsOf (newQ (5 : Int)).out.length (itCell (newQ (5 : Int)).out)) i)].getD (1 : Nat) (D.v undef))) []) = (4 : Int)))) = SV.c (Value.bool (decide (cumQ (QuR.mk (u32 ((newQ (5 : Int)).next + (1 : Int))) (piesOf ([D.v (Value.int IntKind.u32 (u32 ((newQ (5 : Int)).next + (1 : Int)))), D.recs (7 : Nat) (piesOf (D.recs (7 : Nat) (newQ (5 : Int)).wait.length (pieCell (newQ (5 : Int)).wait)) ++ [PieR.mk (newQ (5 : Int)).next (0 : Int) (0 : Int) false false false [(1 : Int)]]).length (pieCell (piesOf (D.recs (7 : Nat) (newQ (5 : Int)).wait.length (pieCell (newQ (5 : Int)).wait)) ++ [PieR.mk (newQ (5 : Int)).next (0 : Int) (0 : Int) false false false [(1 : Int)]])), D.recs (1 : Nat) (itsOf (newQ (5 : Int)).out.length (itCell (newQ (5 : Int)).out)).length fun (i _x : Nat) => D.ptr (171 : Nat) (11 : Nat) (itCell (itsOf (newQ (5 : Int)).out.length (itCell (newQ (5 : Int)).out)) i)].getD (1 : Nat) (D.v undef))) []) = (4 : Int))))) ∧
  [decide ((0 : Int) = (0 : Int)) && decide ((newQ (5 : Int)).next = (5 : Int))] = [decide ((0 : Int) = (0 : Int)) && decide ((newQ (5 : Int)).next = (5 : Int))] ∧
  (decide ((0 : Int) = (0 : Int)) && decide ((newQ (5 : Int)).next = (5 : Int)) && decide (cumQ (QuR.mk (u32 ((newQ (5 : Int)).next + (1 : Int))) (piesOf ([D.v (Value.int IntKind.u32 (u32 ((newQ (5 : Int)).next + (1 : Int)))), D.recs (7 : Nat) (piesOf (D.recs (7 : Nat) (newQ (5 : Int)).wait.length (pieCell (newQ (5 : Int)).wait)) ++ [PieR.mk (newQ (5 : Int)).next (0 : Int) (0 : Int) false false false [(1 : Int)]]).length (pieCell (piesOf (D.recs (7 : Nat) (newQ (5 : Int)).wait.length (pieCell (newQ (5 : Int)).wait)) ++ [PieR.mk (newQ (5 : Int)).next (0 : Int) (0 : Int) false false false [(1 : Int)]])), D.recs (1 : Nat) (itsOf (newQ (5 : Int)).out.length (itCell (newQ (5 : Int)).out)).length fun (i _x : Nat) => D.ptr (171 : Nat) (11 : Nat) (itCell (itsOf (newQ (5 : Int)).out.length (itCell (newQ (5 : Int)).out)) i)].getD (1 : Nat) (D.v undef))) []) = (4 : Int))) = true ∧
  (true && true) = true := by
  simp only [↓Bool.and_eq_true, ↓decide_eq_true_eq, true_and, and_true, List.getD_cons_succ, List.getD_cons_zero, Nat.zero_add, List.length_cons, List.length_nil, List.length_append, piesOf_pies, itsOf_its]
  refine ⟨⟨_, rfl⟩, fun bs _ => ⟨⟨bs, newQ 5, pc1 1, rfl, okQ_new (by decide), by unfold sm; decide⟩, fun bs1 _ => ⟨⟨_, [{ pc1 1 with tsn := 5 }], [], rfl, by decide⟩, rfl, ?_⟩⟩⟩
  decide
set_option maxRecDepth 100000 in
theorem ok38 : FnIs Try.prog 38 ansQC := by
  refine fnIs (C := (ctrs n4)) (by kernel_rfl) n4_ok Try.func38 (code := code38) (by kernel_rfl) (by kernel_rfl) ?_
  rintro a rfl
  exact ⟨anns [], kcast (vc38) (by kernel_rfl)⟩

end Go.ZR

set_option maxRecDepth 100000
namespace Go.ZR
open Go.Z Go.ZM Go.Proofs
def nilP : O := .d (.v (.pointer none))
def nilQC (own : List Bool) (pre : List O → Prop) (res upd : List O → List O) : Ctr where
  own := own
  pre := pre
  res := res
  upd := upd
  ro := true
  quiet := false
def pieOfN : O → PieR
  | .agg [a, b, c, d, e, f, g] => ⟨vi (dO a), vi (dO b), vi (dO c), vb (dO d), vb (dO e), vb (dO f), vl (oD g)⟩
  | _ => noPie
def pushNA (a : List O) : QuR × Int × Int := pushQ (qA a) (pieOfN (at_ a 1))
def pushNC : Ctr := nilQC [true, true] (fun a => ∃ bs q p, a = [quB bs q, pieN p] ∧ okQ q ∧ sm p.bytes.length) (fun a => [iO .u32 (pushNA a).2.1, iO .i64 (pushNA a).2.2]) fun a => [quO (pushNA a).1, pieN (pieOfN (at_ a 1))]
def pushZC : Ctr := nilQC [true, true] (fun a => ∃ p, a = [nilP, pieN p] ∧ sm p.bytes.length) (fun _ => [iO .u32 0, iO .i64 1]) fun a => [.any, pieN (pieOfN (at_ a 1))]
def nextZC : Ctr := nilQC [true, false] (fun a => ∃ p, a = [nilP, iO .i64 p]) (fun _ => [pieN noPie, bO false]) fun _ => [.any, .any]
def heardZC : Ctr := nilQC [true, false] (fun a => ∃ es, a = [nilP, .agg [iO .u32 0, iO .u32 0, .d (.recs es 0 fun _ _ => .v undef), .d (.ints .u32 [])]]) (fun _ => [.own 3 (.ints .i64 []), .own 3 (.ints .i64 []), iO .i64 1]) fun _ => [.any, .any]
def lenZC : Ctr := nilQC [true] (fun a => a = [nilP]) (fun _ => [iO .i64 0, iO .i64 0]) fun _ => [.any]
def cumZC : Ctr := nilQC [true] (fun a => a = [nilP]) (fun _ => [iO .u32 0]) fun _ => [.any]
end Go.ZR

namespace Go.ZR
open Go.Proofs
open Go.Z Go.ZM Go.RowKit
set_option maxRecDepth 100000
noncomputable def iN11c84 : Code := match Try.f84.body with | some c => c | none => .skip
noncomputable def iN11_84 : InlF := ⟨iN11c84, Try.f84.ntmps, Try.f84.results.toList, anns []⟩
noncomputable def iN11c85 : Code := match Try.f85.body with | some c => c | none => .skip
noncomputable def iN11_85 : InlF := ⟨iN11c85, Try.f85.ntmps, Try.f85.results.toList, anns []⟩
noncomputable def iN11c86 : Code := match Try.f86.body with | some c => c | none => .skip
noncomputable def iN11_86 : InlF := ⟨iN11c86, Try.f86.ntmps, Try.f86.results.toList, anns []⟩
noncomputable def iN11c87 : Code := match Try.f87.body with | some c => c | none => .skip
noncomputable def iN11_87 : InlF := ⟨iN11c87, Try.f87.ntmps, Try.f87.results.toList, anns []⟩
noncomputable def iN11c90 : Code := match Try.f90.body with | some c => c | none => .skip
noncomputable def iN11_90 : InlF := ⟨iN11c90, Try.f90.ntmps, Try.f90.results.toList, anns []⟩
noncomputable def iN11c92 : Code := match Try.f92.body with | some c => c | none => .skip
noncomputable def iN11_92 : InlF := ⟨iN11c92, Try.f92.ntmps, Try.f92.results.toList, anns []⟩
noncomputable def iN11c131 : Code := match Try.f131.body with | some c => c | none => .skip
noncomputable def iN11_131 : InlF := ⟨iN11c131, Try.f131.ntmps, Try.f131.results.toList, anns [] [] [(2, 1)]⟩
noncomputable def iN11c132 : Code := match Try.f132.body with | some c => c | none => .skip
noncomputable def iN11_132 : InlF := ⟨iN11c132, Try.f132.ntmps, Try.f132.results.toList, anns []⟩
noncomputable def iN11c170 : Code := match Try.f170.body with | some c => c | none => .skip
noncomputable def iN11_170 : InlF := ⟨iN11c170, Try.f170.ntmps, Try.f170.results.toList, anns [] [] [(1, 1), (4, 1)]⟩
noncomputable def iN11c180 : Code := match Try.f180.body with | some c => c | none => .skip
noncomputable def iN11_180 : InlF := ⟨iN11c180, Try.f180.ntmps, Try.f180.results.toList, anns []⟩
noncomputable def iN11 : List (Nat × InlF) := [(84, iN11_84), (85, iN11_85), (86, iN11_86), (87, iN11_87), (90, iN11_90), (92, iN11_92), (131, iN11_131), (132, iN11_132), (170, iN11_170), (180, iN11_180)]
theorem iN11_ok : InlsOk Try.prog iN11 := ⟨inlOk Try.func84 (by kernel_rfl) (by kernel_rfl), inlOk Try.func85 (by kernel_rfl) (by kernel_rfl), inlOk Try.func86 (by kernel_rfl) (by kernel_rfl), inlOk Try.func87 (by kernel_rfl) (by kernel_rfl), inlOk Try.func90 (by kernel_rfl) (by kernel_rfl), inlOk Try.func92 (by kernel_rfl) (by kernel_rfl), inlOk Try.func131 (by kernel_rfl) (by kernel_rfl), inlOk Try.func132 (by kernel_rfl) (by kernel_rfl), inlOk Try.func170 (by kernel_rfl) (by kernel_rfl), inlOk Try.func180 (by kernel_rfl) (by kernel_rfl), trivial⟩
noncomputable def code39o : Code := match Try.f39.body with | some c => c | none => .skip
set_option maxHeartbeats 4000000 in
theorem vc39o : ∀ (q : QuR) (p : PieR) (_bs : List Nat), okQ q → sm p.bytes.length → True ∧ sw (!decide ((↑p.bytes.length : Int) = (0 : Int))) (SV.p (4 : Nat) (6 : Nat) = SV.p (4 : Nat) (6 : Nat)) True ∧
  sw (!decide ((↑p.bytes.length : Int) = (0 : Int))) ([!decide ((↑p.bytes.length : Int) = (0 : Int))] = [!decide ((↑p.bytes.length : Int) = (0 : Int))] ∧
  SV.a (3 : Nat) = SV.a (3 : Nat)) True ∧ sw (!decide ((↑p.bytes.length : Int) = (0 : Int))) ([!decide ((↑p.bytes.length : Int) = (0 : Int))] = [!decide ((↑p.bytes.length : Int) = (0 : Int))] ∧
  SV.c (Value.int IntKind.i64 (↑p.bytes.length : Int)) = SV.c (Value.int IntKind.i64 (↑p.bytes.length : Int))) True ∧ sw (!decide ((↑p.bytes.length : Int) = (0 : Int))) ([!decide ((↑p.bytes.length : Int) = (0 : Int))] = [!decide ((↑p.bytes.length : Int) = (0 : Int))] ∧
  True ∧ SV.c (Value.bool (decide ((256 : Int) < (↑p.bytes.length : Int)))) = SV.c (Value.bool (decide ((256 : Int) < (↑p.bytes.length : Int))))) True ∧ [!decide ((↑p.bytes.length : Int) = (0 : Int))] = [!decide ((↑p.bytes.length : Int) = (0 : Int))] ∧
  sw (decide ((↑p.bytes.length : Int) = (0 : Int)) || decide ((256 : Int) < (↑p.bytes.length : Int))) (q.next = (pushQ (QuR.mk q.next (piesOf (D.recs (7 : Nat) q.wait.length (pieCell q.wait))) (itsOf q.out.length (itCell q.out))) p).fst.next ∧
  (q.wait.length = (pushQ (QuR.mk q.next (piesOf (D.recs (7 : Nat) q.wait.length (pieCell q.wait))) (itsOf q.out.length (itCell q.out))) p).fst.wait.length ∧
  ∀ (i : Nat), i < q.wait.length → ∀ (j : Nat), j < (7 : Nat) → pieCell q.wait i j = pieCell (pushQ (QuR.mk q.next (piesOf (D.recs (7 : Nat) q.wait.length (pieCell q.wait))) (itsOf q.out.length (itCell q.out))) p).fst.wait i j) ∧
  (q.out.length = (pushQ (QuR.mk q.next (piesOf (D.recs (7 : Nat) q.wait.length (pieCell q.wait))) (itsOf q.out.length (itCell q.out))) p).fst.out.length ∧
  (∀ (i : Nat), i < (pushQ (QuR.mk q.next (piesOf (D.recs (7 : Nat) q.wait.length (pieCell q.wait))) (itsOf q.out.length (itCell q.out))) p).fst.out.length →
  ∀ (j : Nat), j < (11 : Nat) → itCell q.out i j = itCell (pushQ (QuR.mk q.next (piesOf (D.recs (7 : Nat) q.wait.length (pieCell q.wait))) (itsOf q.out.length (itCell q.out))) p).fst.out i j) ∧
  True) ∧ p.tsn = p.tsn ∧ p.str = p.str ∧ p.seq = p.seq ∧ p.b = p.b ∧ p.e = p.e ∧ p.u = p.u ∧ p.bytes = p.bytes ∧ (0 : Int) = (pushQ (QuR.mk q.next (piesOf (D.recs (7 : Nat) q.wait.length (pieCell q.wait))) (itsOf q.out.length (itCell q.out))) p).snd.fst ∧
  (2 : Int) = (pushQ (QuR.mk q.next (piesOf (D.recs (7 : Nat) q.wait.length (pieCell q.wait))) (itsOf q.out.length (itCell q.out))) p).snd.snd ∧ (!(Nat.beq (0 : Nat) (2 : Nat) || (Nat.beq (1 : Nat) (2 : Nat) || (Nat.beq (3 : Nat) (2 : Nat) || false))) && (!(Nat.beq (1 : Nat) (0 : Nat) || (Nat.beq (3 : Nat) (0 : Nat) || false)) && (!(Nat.beq (3 : Nat) (1 : Nat) || false) && (!false && true))) && true) = true) (True ∧
  True ∧ sw (decide ((256 : Int) ≤ IntKind.i64.wrap ((↑q.wait.length : Int) + (↑q.out.length : Int)))) (q.next = (pushQ (QuR.mk q.next (piesOf (D.recs (7 : Nat) q.wait.length (pieCell q.wait))) (itsOf q.out.length (itCell q.out))) p).fst.next ∧
  (q.wait.length = (pushQ (QuR.mk q.next (piesOf (D.recs (7 : Nat) q.wait.length (pieCell q.wait))) (itsOf q.out.length (itCell q.out))) p).fst.wait.length ∧
  ∀ (i : Nat), i < q.wait.length → ∀ (j : Nat), j < (7 : Nat) → pieCell q.wait i j = pieCell (pushQ (QuR.mk q.next (piesOf (D.recs (7 : Nat) q.wait.length (pieCell q.wait))) (itsOf q.out.length (itCell q.out))) p).fst.wait i j) ∧
  (q.out.length = (pushQ (QuR.mk q.next (piesOf (D.recs (7 : Nat) q.wait.length (pieCell q.wait))) (itsOf q.out.length (itCell q.out))) p).fst.out.length ∧
  (∀ (i : Nat), i < (pushQ (QuR.mk q.next (piesOf (D.recs (7 : Nat) q.wait.length (pieCell q.wait))) (itsOf q.out.length (itCell q.out))) p).fst.out.length →
  ∀ (j : Nat), j < (11 : Nat) → itCell q.out i j = itCell (pushQ (QuR.mk q.next (piesOf (D.recs (7 : Nat) q.wait.length (pieCell q.wait))) (itsOf q.out.length (itCell q.out))) p).fst.out i j) ∧
  True) ∧ p.tsn = p.tsn ∧ p.str = p.str ∧ p.seq = p.seq ∧ p.b = p.b ∧ p.e = p.e ∧ p.u = p.u ∧ p.bytes = p.bytes ∧ (0 : Int) = (pushQ (QuR.mk q.next (piesOf (D.recs (7 : Nat) q.wait.length (pieCell q.wait))) (itsOf q.out.length (itCell q.out))) p).snd.fst ∧
  (10 : Int) = (pushQ (QuR.mk q.next (piesOf (D.recs (7 : Nat) q.wait.length (pieCell q.wait))) (itsOf q.out.length (itCell q.out))) p).snd.snd ∧ (!(Nat.beq (0 : Nat) (2 : Nat) || (Nat.beq (1 : Nat) (2 : Nat) || (Nat.beq (3 : Nat) (2 : Nat) || false))) && (!(Nat.beq (1 : Nat) (0 : Nat) || (Nat.beq (3 : Nat) (0 : Nat) || false)) && (!(Nat.beq (3 : Nat) (1 : Nat) || false) && (!false && true))) && true) = true) ((∃ (l : List Int), [O.d (D.ints IntKind.u8 p.bytes)] = [O.d (D.ints IntKind.u8 l)] ∧
  sm l.length) ∧ True ∧ ((True ∧ (q.wait.length + (1 : Nat)) * Try.prog.types[(86 : Nat)].bytes ≤ (140737488355328 : Nat) ∧ (IntKind.u32.wrap (q.next + (1 : Int)) = (pushQ (QuR.mk q.next (piesOf (D.recs (7 : Nat) q.wait.length (pieCell q.wait))) (itsOf q.out.length (itCell q.out))) p).fst.next ∧
  (q.wait.length + (1 : Nat) = (pushQ (QuR.mk q.next (piesOf (D.recs (7 : Nat) q.wait.length (pieCell q.wait))) (itsOf q.out.length (itCell q.out))) p).fst.wait.length ∧
  ∀ (i : Nat), i < q.wait.length + (1 : Nat) → ∀ (j : Nat), j < (7 : Nat) → (bif i.blt q.wait.length then pieCell q.wait i j else [D.v (Value.int IntKind.u32 q.next), D.v (Value.int IntKind.u16 p.str), D.v (Value.int IntKind.u16 p.seq), D.v (Value.bool p.b), D.v (Value.bool p.e), D.v (Value.bool p.u), D.ints IntKind.u8 p.bytes].getD ((i - q.wait.length) * Try.prog.types[(86 : Nat)].size + j) (D.v undef)) = pieCell (pushQ (QuR.mk q.next (piesOf (D.recs (7 : Nat) q.wait.length (pieCell q.wait))) (itsOf q.out.length (itCell q.out))) p).fst.wait i j) ∧
  (q.out.length = (pushQ (QuR.mk q.next (piesOf (D.recs (7 : Nat) q.wait.length (pieCell q.wait))) (itsOf q.out.length (itCell q.out))) p).fst.out.length ∧
  (∀ (i : Nat), i < (pushQ (QuR.mk q.next (piesOf (D.recs (7 : Nat) q.wait.length (pieCell q.wait))) (itsOf q.out.length (itCell q.out))) p).fst.out.length →
  ∀ (j : Nat), j < (11 : Nat) → itCell q.out i j = itCell (pushQ (QuR.mk q.next (piesOf (D.recs (7 : Nat) q.wait.length (pieCell q.wait))) (itsOf q.out.length (itCell q.out))) p).fst.out i j) ∧
  True) ∧ p.tsn = p.tsn ∧ p.str = p.str ∧ p.seq = p.seq ∧ p.b = p.b ∧ p.e = p.e ∧ p.u = p.u ∧ p.bytes = p.bytes ∧ q.next = (pushQ (QuR.mk q.next (piesOf (D.recs (7 : Nat) q.wait.length (pieCell q.wait))) (itsOf q.out.length (itCell q.out))) p).snd.fst ∧
  (0 : Int) = (pushQ (QuR.mk q.next (piesOf (D.recs (7 : Nat) q.wait.length (pieCell q.wait))) (itsOf q.out.length (itCell q.out))) p).snd.snd ∧ (!(Nat.beq (7 : Nat) (2 : Nat) || (Nat.beq (1 : Nat) (2 : Nat) || (Nat.beq (3 : Nat) (2 : Nat) || false))) && (!(Nat.beq (1 : Nat) (7 : Nat) || (Nat.beq (3 : Nat) (7 : Nat) || false)) && (!(Nat.beq (3 : Nat) (1 : Nat) || false) && (!false && true))) && true) = true) ∧
  True) ∧ True) ∧ True)) := by
  simp only [↓sw_iff, ↓Bool.and_eq_true, ↓decide_eq_true_eq, ↓decide_eq_false_iff_not, ↓Bool.not_eq_true', ↓Bool.not_eq_false', true_and, and_true, implies_true, Bool.or_false, Nat.beq, piesOf_pies, itsOf_its, qu_eta]
  intro q p bs hq hp
  have hw : IntKind.i64.wrap ((q.wait.length : Int) + q.out.length) = (q.wait.length : Int) + q.out.length := wrap_i64_id (by omega) (by have := hq.2.1; omega)
  rw [hw]
  refine ⟨fun h => ?_, fun h => ?_⟩
  · have h' : p.bytes.length = 0 ∨ 256 < p.bytes.length := by
      simp only [Bool.or_eq_true, decide_eq_true_eq] at h
      omega
    rw [push_1 h']
    repeat' (first | exact rfl | (intros; rfl) | constructor)
  · have h' : ¬ (p.bytes.length = 0 ∨ 256 < p.bytes.length) := by
      simp only [Bool.or_eq_false_iff, decide_eq_false_iff_not] at h
      omega
    refine ⟨fun h2 => ?_, fun h2 => ?_⟩
    · rw [push_2 h' (by omega)]
      repeat' (first | exact rfl | (intros; rfl) | constructor)
    · rw [push_3 h' (by omega)]
      refine ⟨⟨_, rfl, hp⟩, by rw [bytes86]; omega, IntKind.wrap_u32 _, ⟨by simp, fun i hi j hj => ?_⟩, ⟨rfl, fun i hi j hj => rfl⟩, rfl, rfl⟩
      rw [size86, pieCell_app _ _ hi hj]
set_option maxRecDepth 100000 in
theorem ok39o : FnIs Try.prog 39 pushNC := by
  refine fnIs (C := (ctrsJ Try.prog n2 iN11 4)) (by kernel_rfl) (cokJ (by kernel_rfl) n2_ok iN11_ok) Try.func39 (code := code39o) (by kernel_rfl) (by kernel_rfl) ?_
  rintro a ⟨bs, q, p, rfl, h, hp⟩
  exact ⟨anns [], kcast (vc39o q p bs h hp) (by kernel_rfl)⟩

noncomputable def code39z : Code := match Try.f39.body with | some c => c | none => .skip
set_option maxHeartbeats 4000000 in
theorem vc39z : ∀ (p : PieR), sm p.bytes.length → p.tsn = p.tsn ∧ p.str = p.str ∧ p.seq = p.seq ∧ p.b = p.b ∧ p.e = p.e ∧ p.u = p.u ∧ p.bytes = p.bytes ∧ (0 : Int) = (0 : Int) ∧
  (1 : Int) = (1 : Int) ∧ (!false && true && true) = true := by
  simp
set_option maxRecDepth 100000 in
theorem ok39z : FnIs Try.prog 39 pushZC := by
  refine fnIs (C := (ctrsJ Try.prog n2 iN11 4)) (by kernel_rfl) (cokJ (by kernel_rfl) n2_ok iN11_ok) Try.func39 (code := code39z) (by kernel_rfl) (by kernel_rfl) ?_
  rintro a ⟨p, rfl, hp⟩
  exact ⟨anns [], kcast (vc39z p hp) (by kernel_rfl)⟩

noncomputable def code40z : Code := match Try.f40.body with | some c => c | none => .skip
set_option maxHeartbeats 4000000 in
theorem vc40z : ∀ (_p : Int), (0 : Int) = noPie.tsn ∧ (0 : Int) = noPie.str ∧ (0 : Int) = noPie.seq ∧ false = noPie.b ∧ false = noPie.e ∧ false = noPie.u ∧ noPie.bytes = [] ∧
  false = false ∧ (true && true) = true := by
  simp only [↓Bool.and_eq_true, and_true]
  exact fun _ => ⟨rfl, rfl, rfl, rfl, rfl, rfl, rfl⟩
set_option maxRecDepth 100000 in
theorem ok40z : FnIs Try.prog 40 nextZC := by
  refine fnIs (C := (ctrsJ Try.prog n2 iN11 4)) (by kernel_rfl) (cokJ (by kernel_rfl) n2_ok iN11_ok) Try.func40 (code := code40z) (by kernel_rfl) (by kernel_rfl) ?_
  rintro a ⟨p, rfl⟩
  exact ⟨anns [], kcast (vc40z p) (by kernel_rfl)⟩

noncomputable def code41z : Code := match Try.f41.body with | some c => c | none => .skip
set_option maxHeartbeats 4000000 in
theorem vc41z : ∀ (_es : Nat), ([] : List Int) = ([] : List Int) ∧ ([] : List Int) = ([] : List Int) ∧ (1 : Int) = (1 : Int) ∧ (true && true) = true := by
  simp
set_option maxRecDepth 100000 in
theorem ok41z : FnIs Try.prog 41 heardZC := by
  refine fnIs (C := (ctrsJ Try.prog n2 iN11 4)) (by kernel_rfl) (cokJ (by kernel_rfl) n2_ok iN11_ok) Try.func41 (code := code41z) (by kernel_rfl) (by kernel_rfl) ?_
  rintro a ⟨es, rfl⟩
  exact ⟨anns [], kcast (vc41z es) (by kernel_rfl)⟩

noncomputable def code48z : Code := match Try.f48.body with | some c => c | none => .skip
set_option maxHeartbeats 4000000 in
theorem vc48z : (0 : Int) = (0 : Int) ∧ (0 : Int) = (0 : Int) ∧ (true && true) = true := by
  simp
set_option maxRecDepth 100000 in
theorem ok48z : FnIs Try.prog 48 lenZC := by
  refine fnIs (C := (ctrs n2)) (by kernel_rfl) n2_ok Try.func48 (code := code48z) (by kernel_rfl) (by kernel_rfl) ?_
  rintro a rfl
  exact ⟨anns [], kcast (vc48z) (by kernel_rfl)⟩

noncomputable def code51z : Code := match Try.f51.body with | some c => c | none => .skip
set_option maxHeartbeats 4000000 in
theorem vc51z : (0 : Int) = (0 : Int) ∧ (true && true) = true := by
  simp
set_option maxRecDepth 100000 in
theorem ok51z : FnIs Try.prog 51 cumZC := by
  refine fnIs (C := (ctrs n2)) (by kernel_rfl) n2_ok Try.func51 (code := code51z) (by kernel_rfl) (by kernel_rfl) ?_
  rintro a rfl
  exact ⟨anns [], kcast (vc51z) (by kernel_rfl)⟩

end Go.ZR
