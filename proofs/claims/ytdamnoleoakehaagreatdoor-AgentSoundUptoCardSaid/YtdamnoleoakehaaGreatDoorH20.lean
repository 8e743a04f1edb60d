/- Part 20 of what the closing text rests on. -/
import Derived.Test.YtdamnoleoakehaaGreatDoorH16
import Derived.Test.YtdamnoleoakehaaGreatDoorH19
import Derived.Test.YtdamnoleoakehaaGreatDoorRows
import Derived.Sort.OwnSortedInts
import Derived.WalkKit
import Derived.Below
import Derived.Lib.RowBridge
import Derived.Shelf.Slices.In.SortNone
namespace Go.ZR
open Go.Proofs
open Go.Z Go.ZM Go.RowKit
set_option maxRecDepth 100000
noncomputable def iA23c96 : Code := match Tryz.f96.body with | some c => c | none => .skip
noncomputable def iA23_96 : InlF := ⟨iA23c96, Tryz.f96.ntmps, Tryz.f96.results.toList, anns [(2, .fam (List Int × Int) (fun q => idxIAnn q.1 q.2))]⟩
noncomputable def iA23 : List (Nat × InlF) := [(96, iA23_96)]
theorem iA23_ok : InlsOk Tryz.prog iA23 := ⟨inlOk Tryz.func96 (by kernel_rfl) (by kernel_rfl), trivial⟩
noncomputable def iB23c92 : Code := match Tryz.f92.body with | some c => c | none => .skip
noncomputable def iB23_92 : InlF := ⟨iB23c92, Tryz.f92.ntmps, Tryz.f92.results.toList, anns []⟩
noncomputable def iB23c145 : Code := match Tryz.f145.body with | some c => c | none => .skip
noncomputable def iB23_145 : InlF := ⟨iB23c145, Tryz.f145.ntmps, Tryz.f145.results.toList, anns [(2, .fam Nd (fun d => rtAnn d))]⟩
noncomputable def iB23c93 : Code := match Tryz.f93.body with | some c => c | none => .skip
noncomputable def iB23_93 : InlF := ⟨iB23c93, Tryz.f93.ntmps, Tryz.f93.results.toList, anns [] [1]⟩
noncomputable def iB23c94 : Code := match Tryz.f94.body with | some c => c | none => .skip
noncomputable def iB23_94 : InlF := ⟨iB23c94, Tryz.f94.ntmps, Tryz.f94.results.toList, anns []⟩
noncomputable def iB23c146 : Code := match Tryz.f146.body with | some c => c | none => .skip
noncomputable def iB23_146 : InlF := ⟨iB23c146, Tryz.f146.ntmps, Tryz.f146.results.toList, anns [(2, .fam (Nd × Nat) (fun q => rvAnn q.1 q.2))]⟩
noncomputable def iB23c95 : Code := match Tryz.f95.body with | some c => c | none => .skip
noncomputable def iB23_95 : InlF := ⟨iB23c95, Tryz.f95.ntmps, Tryz.f95.results.toList, anns []⟩
noncomputable def iB23 : List (Nat × InlF) := [(92, iB23_92), (145, iB23_145), (93, iB23_93), (94, iB23_94), (146, iB23_146), (95, iB23_95)]
theorem iB23_ok : InlsOk Tryz.prog iB23 := ⟨inlOk Tryz.func92 (by kernel_rfl) (by kernel_rfl), inlOk Tryz.func145 (by kernel_rfl) (by kernel_rfl), inlOk Tryz.func93 (by kernel_rfl) (by kernel_rfl), inlOk Tryz.func94 (by kernel_rfl) (by kernel_rfl), inlOk Tryz.func146 (by kernel_rfl) (by kernel_rfl), inlOk Tryz.func95 (by kernel_rfl) (by kernel_rfl), trivial⟩
noncomputable def code44 : Code := match Tryz.f44.body with | some c => c | none => .skip
set_option maxHeartbeats 4000000 in
theorem vc44 : ∀ (l : List Int) (p : Int), l.length ≤ (1099511627776 : Nat) → ∃ (p_1 : List Int × Int), ∃ (g0 : Nat), (g0 ≤ p_1.fst.length ∧ inB p_1.fst p_1.snd = inB (List.drop g0 p_1.fst) p_1.snd) ∧
  (0 : Int) = (↑g0 : Int) ∧ true = true ∧ ∀ (g : Nat), g ≤ p_1.fst.length ∧ inB p_1.fst p_1.snd = inB (List.drop g p_1.fst) p_1.snd → True ∧ sw (decide ((↑g : Int) < (↑l.length : Int))) (((0 : Int) ≤ (↑g : Int) ∧
  (↑g : Int) < (↑l.length : Int)) ∧ True ∧ sw (decide (p = l.getD (↑g : Int).toNat (0 : Int))) (True ∧ decide ((0 : Int) ≤ (↑g : Int)) = inB l p ∧ true = true) (True ∧
  ∃ (g' : Nat), (g' ≤ p_1.fst.length ∧ inB p_1.fst p_1.snd = inB (List.drop g' p_1.fst) p_1.snd) ∧ p_1.fst.length - g' < p_1.fst.length - g ∧ (IntKind.i64.wrap ((↑g : Int) + (1 : Int)) = (↑g' : Int) ∧
  true = true) ∧ (some (SV.c (Value.int IntKind.i64 (↑l.length : Int))) = some (SV.c (Value.int IntKind.i64 (↑l.length : Int))) ∧ some (SV.a (0 : Nat)) = some (SV.a (0 : Nat)) ∧
  some (SV.a (0 : Nat)) = some (SV.a (0 : Nat)) ∧ some (SV.c (Value.int IntKind.i64 p)) = some (SV.c (Value.int IntKind.i64 p)) ∧ True) ∧ some (R.ro (D.ints IntKind.i64 l)) = some (R.ro (D.ints IntKind.i64 l)) ∧
  True)) (True ∧ false = inB l p ∧ true = true) := by
  intro l p h
  refine ⟨(l, p), 0, ⟨Nat.zero_le _, by simp⟩, rfl, rfl, ?_⟩
  rintro g ⟨hg, hi⟩
  simp only at hg hi
  refine tsw_mk (fun hlt => ?_) (fun hge => ?_)
  · have hlt : g < l.length := by have := of_decide_eq_true hlt; omega
    have e : inB (l.drop g) p = (decide (l.getD g 0 = p) || inB (l.drop (g + 1)) p) := by
      unfold inB
      rw [List.drop_eq_getElem_cons hlt, List.any_cons]
      simp [List.getD, hlt]
    rw [e] at hi
    rw [Int.toNat_natCast]
    refine ⟨⟨by omega, by omega⟩, tsw_mk (fun ho => ?_) (fun ho => ?_)⟩
    · have ho := of_decide_eq_true ho
      rw [decide_eq_true ho.symm, Bool.true_or] at hi
      exact ⟨trivial, by rw [hi]; exact decide_eq_true (by omega), rfl⟩
    · have ho := of_decide_eq_false ho
      rw [decide_eq_false (fun e => ho e.symm), Bool.false_or] at hi
      exact ⟨trivial, g + 1, ⟨hlt, hi⟩, by simp only; omega, ⟨by rw [IntKind.wrap_i64]; omega, rfl⟩, ⟨rfl, rfl, rfl, rfl, trivial⟩, rfl, trivial⟩
  · have hge : g = l.length := by have := of_decide_eq_false hge; omega
    subst hge
    rw [List.drop_length] at hi
    exact ⟨trivial, hi.symm, rfl⟩
set_option maxRecDepth 100000 in
theorem ok44 : FnIs Tryz.prog 44 inC := by
  refine fnIs (C := (ctrsJ Tryz.prog c0 iA23 2)) (by kernel_rfl) (cokJ (by kernel_rfl) c0_ok iA23_ok) Tryz.func44 (code := code44) (by kernel_rfl) (by kernel_rfl) ?_
  rintro a ⟨l, p, rfl, h⟩
  exact ⟨anns [], kcast (vc44 l p h) (by kernel_rfl)⟩

theorem b1_ok : COk Tryz.prog (ctrs b1) := cok_cons ok41 (cok_cons ok44 cok_nil)

noncomputable def code43 : Code := match Tryz.f43.body with | some c => c | none => .skip
set_option maxHeartbeats 4000000 in
theorem vc43 : ∀ (d : Nd), smD d → True ∧ sw (decide ((↑d.routes.length : Int) ≤ (16 : Int))) (∃ (p : Nd), ∃ (g0 : Nat), (g0 ≤ p.routes.length ∧ ∀ (k' : Nat), k' < g0 →
  RouteOk p k') ∧ (0 : Int) = (↑g0 : Int) ∧ true = true ∧ ∀ (g : Nat), (g ≤ p.routes.length ∧ ∀ (k' : Nat), k' < g → RouteOk p k') → True ∧ sw (decide ((↑g : Int) < (↑d.routes.length : Int))) (((0 : Int) ≤ (↑g : Int) ∧
  (↑g : Int) < (↑d.routes.length : Int)) ∧ (∃ (l : List Int), [O.d (D.v (Value.int IntKind.i64 (10 : Int))), O.d (D.ints IntKind.u8 (List.map (fun (b : UInt8) => (↑b.toNat : Int)) (routeAt d (↑g : Int).toNat).realm.data.toList))] = [O.d (D.v (Value.int IntKind.i64 (10 : Int))), O.d (D.ints IntKind.u8 l)] ∧
  sm l.length) ∧ True ∧ sw (!decide ((bif nameB (List.map (fun (b : UInt8) => (↑b.toNat : Int)) (routeAt d (↑g : Int).toNat).realm.data.toList) then (0 : Int) else (11 : Int)) = (0 : Int))) (True ∧
  (!decide ((0 : Int) ≤ (↑g : Int))) = routedB (ndOf [O.agg [O.d (D.v (Value.string d.host)), O.d (D.v (Value.string d.realm)), O.d (D.v (Value.bool d.serves)), O.d (D.ints IntKind.i64 d.peers), O.d (D.recs (2 : Nat) d.routes.length fun (k j : Nat) => match j with | (0 : Nat) => D.v (Value.string (routeAt d k).realm) | _x => D.ints IntKind.i64 (routeAt d k).via)]]) ∧
  true = true) (True ∧ sw (decide ((16 : Int) < (↑(routeAt d (↑g : Int).toNat).via.length : Int))) (True ∧ (!decide ((0 : Int) ≤ (↑g : Int))) = routedB (ndOf [O.agg [O.d (D.v (Value.string d.host)), O.d (D.v (Value.string d.realm)), O.d (D.v (Value.bool d.serves)), O.d (D.ints IntKind.i64 d.peers), O.d (D.recs (2 : Nat) d.routes.length fun (k j : Nat) => match j with | (0 : Nat) => D.v (Value.string (routeAt d k).realm) | _x => D.ints IntKind.i64 (routeAt d k).via)]]) ∧
  true = true) (∃ (p_1 : Nd × Nat), ∃ (g0_1 : Nat), (g0_1 ≤ (routeAt p_1.fst p_1.snd).via.length ∧ ∀ (j' : Nat), j' < g0_1 → ViaOk p_1.fst p_1.snd j') ∧ (0 : Int) = (↑g0_1 : Int) ∧
  true = true ∧ ∀ (g_1 : Nat), (g_1 ≤ (routeAt p_1.fst p_1.snd).via.length ∧ ∀ (j' : Nat), j' < g_1 → ViaOk p_1.fst p_1.snd j') → True ∧ sw (decide ((↑g_1 : Int) < (↑(routeAt d (↑g : Int).toNat).via.length : Int))) (((0 : Int) ≤ (↑g_1 : Int) ∧
  (↑g_1 : Int) < (↑(routeAt d (↑g : Int).toNat).via.length : Int)) ∧ (∃ (l : List Int), ∃ (p_2 : Int), [O.d (D.ints IntKind.i64 d.peers), O.d (D.v (Value.int IntKind.i64 ((routeAt d (↑g : Int).toNat).via.getD (↑g_1 : Int).toNat (0 : Int))))] = [O.d (D.ints IntKind.i64 l), O.d (D.v (Value.int IntKind.i64 p_2))] ∧
  l.length ≤ (1099511627776 : Nat)) ∧ sw (!inB d.peers ((routeAt d (↑g : Int).toNat).via.getD (↑g_1 : Int).toNat (0 : Int))) (True ∧ True ∧ (!decide ((0 : Int) ≤ (↑g : Int))) = routedB (ndOf [O.agg [O.d (D.v (Value.string d.host)), O.d (D.v (Value.string d.realm)), O.d (D.v (Value.bool d.serves)), O.d (D.ints IntKind.i64 d.peers), O.d (D.recs (2 : Nat) d.routes.length fun (k j : Nat) => match j with | (0 : Nat) => D.v (Value.string (routeAt d k).realm) | _x => D.ints IntKind.i64 (routeAt d k).via)]]) ∧
  true = true) (True ∧ ∃ (g' : Nat), (g' ≤ (routeAt p_1.fst p_1.snd).via.length ∧ ∀ (j' : Nat), j' < g' → ViaOk p_1.fst p_1.snd j') ∧ (routeAt p_1.fst p_1.snd).via.length - g' < (routeAt p_1.fst p_1.snd).via.length - g_1 ∧
  (IntKind.i64.wrap ((↑g_1 : Int) + (1 : Int)) = (↑g' : Int) ∧ true = true) ∧ (some (SV.c (Value.int IntKind.i64 (↑(routeAt d (↑g : Int).toNat).via.length : Int))) = some (SV.c (Value.int IntKind.i64 (↑(routeAt d (↑g : Int).toNat).via.length : Int))) ∧
  some (SV.a (3 : Nat)) = some (SV.a (3 : Nat)) ∧ some (SV.a (3 : Nat)) = some (SV.a (3 : Nat)) ∧ some (SV.f (95 : Nat) (0 : Nat) [SV.p (2 : Nat) (0 : Nat)]) = some (SV.f (95 : Nat) (0 : Nat) [SV.p (2 : Nat) (0 : Nat)]) ∧
  True) ∧ some (R.ro (D.ints IntKind.u8 (List.map (fun (b : UInt8) => (↑b.toNat : Int)) (routeAt d (↑g : Int).toNat).realm.data.toList))) = some (R.ro (D.ints IntKind.u8 (List.map (fun (b : UInt8) => (↑b.toNat : Int)) (routeAt d (↑g : Int).toNat).realm.data.toList))) ∧
  some (R.blk (91 : Nat) [SV.c (Value.string (routeAt d (↑g : Int).toNat).realm), SV.a (3 : Nat)]) = some (R.blk (91 : Nat) [SV.c (Value.string (routeAt d (↑g : Int).toNat).realm), SV.a (3 : Nat)]) ∧
  some (R.ro (D.ints IntKind.i64 (routeAt d (↑g : Int).toNat).via)) = some (R.ro (D.ints IntKind.i64 (routeAt d (↑g : Int).toNat).via)) ∧ some (R.blk (88 : Nat) [SV.c (Value.string d.host), SV.c (Value.string d.realm), SV.c (Value.bool d.serves), SV.a (0 : Nat), SV.a (1 : Nat)]) = some (R.blk (88 : Nat) [SV.c (Value.string d.host), SV.c (Value.string d.realm), SV.c (Value.bool d.serves), SV.a (0 : Nat), SV.a (1 : Nat)]) ∧
  some (R.ro (D.recs (2 : Nat) d.routes.length fun (k j : Nat) => match j with | (0 : Nat) => D.v (Value.string (routeAt d k).realm) | _x => D.ints IntKind.i64 (routeAt d k).via)) = some (R.ro (D.recs (2 : Nat) d.routes.length fun (k j : Nat) => match j with | (0 : Nat) => D.v (Value.string (routeAt d k).realm) | _x => D.ints IntKind.i64 (routeAt d k).via)) ∧
  some (R.ro (D.ints IntKind.i64 d.peers)) = some (R.ro (D.ints IntKind.i64 d.peers)) ∧ True)) (True ∧ True ∧ ∃ (g' : Nat), (g' ≤ p.routes.length ∧ ∀ (k' : Nat), k' < g' →
  RouteOk p k') ∧ p.routes.length - g' < p.routes.length - g ∧ (IntKind.i64.wrap ((↑g : Int) + (1 : Int)) = (↑g' : Int) ∧ true = true) ∧ (some (SV.c (Value.int IntKind.i64 (↑d.routes.length : Int))) = some (SV.c (Value.int IntKind.i64 (↑d.routes.length : Int))) ∧
  some (SV.a (1 : Nat)) = some (SV.a (1 : Nat)) ∧ some (SV.a (1 : Nat)) = some (SV.a (1 : Nat)) ∧ some (SV.f (93 : Nat) (0 : Nat) [SV.p (2 : Nat) (0 : Nat)]) = some (SV.f (93 : Nat) (0 : Nat) [SV.p (2 : Nat) (0 : Nat)]) ∧
  True) ∧ some (R.blk (88 : Nat) [SV.c (Value.string d.host), SV.c (Value.string d.realm), SV.c (Value.bool d.serves), SV.a (0 : Nat), SV.a (1 : Nat)]) = some (R.blk (88 : Nat) [SV.c (Value.string d.host), SV.c (Value.string d.realm), SV.c (Value.bool d.serves), SV.a (0 : Nat), SV.a (1 : Nat)]) ∧
  some (R.ro (D.recs (2 : Nat) d.routes.length fun (k j : Nat) => match j with | (0 : Nat) => D.v (Value.string (routeAt d k).realm) | _x => D.ints IntKind.i64 (routeAt d k).via)) = some (R.ro (D.recs (2 : Nat) d.routes.length fun (k j : Nat) => match j with | (0 : Nat) => D.v (Value.string (routeAt d k).realm) | _x => D.ints IntKind.i64 (routeAt d k).via)) ∧
  some (R.ro (D.ints IntKind.i64 d.peers)) = some (R.ro (D.ints IntKind.i64 d.peers)) ∧ True)))) (True ∧ true = routedB (ndOf [O.agg [O.d (D.v (Value.string d.host)), O.d (D.v (Value.string d.realm)), O.d (D.v (Value.bool d.serves)), O.d (D.ints IntKind.i64 d.peers), O.d (D.recs (2 : Nat) d.routes.length fun (k j : Nat) => match j with | (0 : Nat) => D.v (Value.string (routeAt d k).realm) | _x => D.ints IntKind.i64 (routeAt d k).via)]]) ∧
  true = true)) (false = routedB (ndOf [O.agg [O.d (D.v (Value.string d.host)), O.d (D.v (Value.string d.realm)), O.d (D.v (Value.bool d.serves)), O.d (D.ints IntKind.i64 d.peers), O.d (D.recs (2 : Nat) d.routes.length fun (k j : Nat) => match j with | (0 : Nat) => D.v (Value.string (routeAt d k).realm) | _x => D.ints IntKind.i64 (routeAt d k).via)]]) ∧
  true = true) := by
  intro d h
  generalize hG : routedB (ndOf _) = S
  have hSc : S = routedB d := hG.symm.trans (congrArg routedB (ndOf_nd d))
  clear hG
  have good (k : RoutedP d) : true = S ∧ true = true := ⟨by rw [hSc]; unfold routedB; exact (@decide_eq_true _ (Classical.propDecidable _) k).symm, rfl⟩
  have bad (k : ¬ RoutedP d) : false = S ∧ true = true := ⟨by rw [hSc]; unfold routedB; exact (@decide_eq_false _ (Classical.propDecidable _) k).symm, rfl⟩
  obtain ⟨z1, z2, z3, z4, z5⟩ := h
  refine tsw_mk (fun h16 => ?_) (fun h16 => bad fun hs => by have := hs.1; have := of_decide_eq_false h16; omega)
  have h16 := of_decide_eq_true h16
  refine ⟨d, 0, ⟨Nat.zero_le _, fun j hj => absurd hj (by omega)⟩, rfl, rfl, ?_⟩
  rintro r ⟨hr, hrs⟩
  refine tsw_mk (fun hrl => ?_) (fun hrg => ?_)
  · replace hrl : r < d.routes.length := by have := of_decide_eq_true hrl; omega
    rw [Int.toNat_natCast r]
    have nor (q : ¬ RouteOk d r) : (!decide ((0 : Int) ≤ (r : Int))) = S ∧ true = true := by
      rw [decide_eq_true (show (0 : Int) ≤ (r : Int) by omega)]
      exact bad fun hs => q (hs.2 r hrl)
    have hmemr : routeAt d r ∈ d.routes := getD_mem hrl
    obtain ⟨y1, y2⟩ := z5 _ hmemr
    refine ⟨⟨by omega, by omega⟩, ⟨_, rfl, by unfold sm; rw [sB_len]; exact y1⟩, tsw_mk (fun e => ⟨trivial, nor fun hq => ?_⟩) fun q1 => ?_⟩
    · have := hq.1.1
      unfold sB at this
      rw [this] at e
      cases e
    have q1 : nameB (sB (routeAt d r).realm) = true := by
      unfold sB
      generalize nameB _ = x at q1 ⊢
      cases x
      · cases q1
      · rfl
    refine tsw_mk (fun e => ⟨trivial, nor fun hq => ?_⟩) fun q2 => ?_
    · have := hq.1.2
      have e := of_decide_eq_true e
      omega
    have rh : RouteHead d r := ⟨q1, by have := of_decide_eq_false q2; omega⟩
    refine ⟨(d, r), 0, ⟨Nat.zero_le _, fun j hj => absurd hj (by omega)⟩, rfl, rfl, ?_⟩
    rintro v ⟨hv, hvs⟩
    simp only at hv hvs
    refine tsw_mk (fun hvl => ?_) (fun hvg => ?_)
    · replace hvl : v < (routeAt d r).via.length := by have := of_decide_eq_true hvl; omega
      rw [Int.toNat_natCast v]
      refine ⟨⟨by omega, by omega⟩, ⟨_, _, rfl, z3⟩, sw_mk (fun e => ⟨trivial, trivial, nor fun hq => ?_⟩) fun s1 => ?_⟩
      · have := inB_mem.2 (hq.2 v hvl)
        rw [this] at e
        cases e
      refine ⟨trivial, v + 1, ⟨hvl, fun v' hv' => ?_⟩, by simp only; omega, ⟨by rw [IntKind.wrap_i64]; omega, rfl⟩, ?_, ?_⟩
      · rcases Nat.lt_or_ge v' v with h' | h'
        · exact hvs v' h'
        · obtain rfl : v' = v := by omega
          exact inB_mem.1 (not_ff s1)
      all_goals repeat' (first | exact trivial | exact rfl | refine And.intro ?_ ?_)
    · obtain rfl : v = (routeAt d r).via.length := by have := of_decide_eq_false hvg; omega
      refine ⟨trivial, trivial, r + 1, ⟨hrl, fun r' hr' => ?_⟩, by omega, ⟨by rw [IntKind.wrap_i64]; omega, rfl⟩, ?_, ?_⟩
      · rcases Nat.lt_or_ge r' r with h' | h'
        · exact hrs r' h'
        · obtain rfl : r' = r := by omega
          exact ⟨rh, hvs⟩
      all_goals repeat' (first | exact trivial | exact rfl | refine And.intro ?_ ?_)
  · obtain rfl : r = d.routes.length := by have := of_decide_eq_false hrg; omega
    exact ⟨trivial, good ⟨by omega, hrs⟩⟩
set_option maxRecDepth 100000 in
theorem ok43 : FnIs Tryz.prog 43 routedC := by
  refine fnIs (C := (ctrsJ Tryz.prog b1 iB23 8)) (by kernel_rfl) (cokJ (by kernel_rfl) b1_ok iB23_ok) Tryz.func43 (code := code43) (by kernel_rfl) (by kernel_rfl) ?_
  rintro a ⟨d, rfl, h⟩
  exact ⟨anns [] [1], kcast (vc43 d h) (by kernel_rfl)⟩

end Go.ZR

set_option maxRecDepth 100000
namespace Go.ZM
open Go.Z Go.ZR
def sortI (l : List Int) : List Int := l.mergeSort fun x y => decide (x ≤ y)
def onceB (l : List Int) : Bool := decide ((Lib.compact (sortI l)).length = l.length)
end Go.ZM
namespace Go.Proofs.YtdamnoleoakehaaGreatDoor
open Go.Proofs Go.ZM Go.ZR
open Go.RowKit Go.Maps Go.Sort Go.Shelf Go.WideElems

theorem sortI_len (l : List Int) : (sortI l).length = l.length := List.length_mergeSort l
theorem Tryz.values (p : Option Addr) (n c : Nat) (w : World) :
    Calls Tryz.prog 90 #[.slice p n c] w fun e W' => e = .returned (.func (.func 144) #[] #[.pointer (some ⟨w.heap.size, 0, none⟩)]) ∧ W' = w.alloc (.cells #[.slice p n c] 39) := by
  go_enter Tryz.func90, Tryz.ntmps90
  go_wp2
  go_ret
  exact ⟨rfl, rfl⟩

set_option maxHeartbeats 1000000 in
theorem Tryz.sorted (p : Option Addr) (cap : Nat) (l : List Int) (hne : l ≠ []) (hl : l.length * 8 ≤ 140737488355328) (w : World) (hco : CellsOf w.heap.size w p l) :
    Calls Tryz.prog 89 #[.func (.func 144) #[] #[.pointer (some ⟨w.heap.size, 0, none⟩)]] (w.alloc (.cells #[.slice p l.length cap] 39)) fun e W' =>
      ∃ g cap', e = .returned (.slice (some ⟨g, 0, none⟩) l.length cap') ∧ l.length ≤ cap' ∧ w.heap.size < g ∧ g < W'.heap.size ∧ Holds (Value.int .i64) W' g 0 (sortI l).toArray ∧ Below w.heap.size w W' := by
  have hml : l.length ≤ maxLen := by unfold maxLen; omega
  have hB0 : Below w.heap.size w (w.alloc (.cells #[.slice p l.length cap] 39)) := (Below.refl _ w).alloc (Nat.le_refl _) _
  have hsz : (w.alloc (.cells #[.slice p l.length cap] 39)).heap.size = w.heap.size + 1 := by
    show (w.heap.push _).size = _
    simp
  have hcell : (w.alloc (.cells #[.slice p l.length cap] 39)).cell? ⟨w.heap.size, 0, none⟩ = some (.slice p l.length cap) := by
    have : (w.alloc (.cells #[.slice p l.length cap] 39)).heap[w.heap.size]? = some (.cells #[.slice p l.length cap] 39) := by
      show (w.heap.push _)[w.heap.size]? = _
      simp
    simp only [World.cell?, this]
    rfl
  have hseq := Tryz.values_stops 1 (by omega) w.heap.size w.heap.size p cap l _ (by omega) (by omega) hml hcell (hco.below hB0)
  have hcol := (callsIn_wide (n := 3)).1 (Tryz.collect 3 (by omega) 144 #[.pointer (some ⟨w.heap.size, 0, none⟩)] (enters_of Tryz.func144 (by kernel_rfl) rfl) l hml hl w.heap.size _ (by omega) hseq)
  generalize hw0 : w.alloc (.cells #[.slice p l.length cap] 39) = w0 at *
  go_enter Tryz.func89, Tryz.ntmps89
  go_wp2_with (first
    | (go_at_call 142; refine hcol.mono ?_; rintro e w1 ⟨v, rfl, hrow, hnil, hbel⟩; rcases hrow.2 with ⟨rfl, hz⟩ | ⟨gb, cap', cur, rfl, hbase, hgb, r1, r2, r3, r4⟩; · exact absurd (hnil.1 rfl) hne)
    | (go_at_call 143; have hH := holds_of_blockI hgb (by rw [← r4, Nat.mul_one]); refine (show Calls Tryz.prog 143 #[.slice (some ⟨gb, 0, none⟩) l.length cap'] w1 _ from Any.slices_Sort_int Tryz.sortI gb 0 cap' l w1 hH (Array.getElem?_eq_some_iff.1 hgb).1 (by omega)).mono ?_; rintro e w2 ⟨rfl, n, os, rfl⟩))
  go_ret
  have hb2 := heap_sortedI (n := n) (os := os) (sortI l).toArray hgb
  have hgr := grownBy_sortedI (w := w1) (g := gb) (n := n) (os := os) (sortI l).toArray
  refine ⟨gb, cap', rfl, r1, ?_, ?_, ?_, ?_⟩
  · omega
  · exact (Array.getElem?_eq_some_iff.1 hb2).1
  · refine holds_of_blockI hb2 ?_
    exact take_putCellsI cur (sortI l) (by rw [sortI_len, r3]; omega)
  · have h1 : Below w.heap.size w w1 := hB0.trans (hbel.mono (by omega))
    exact h1.trans ⟨hgr.os, hgr.tape, hgr.output, hgr.size, fun k hk => hgr.block k (by have := h1.size; omega) (by simp; omega)⟩

set_option maxHeartbeats 1000000 in
theorem Tryz.sorted0 (p : Option Addr) (cap : Nat) (w : World) :
    Calls Tryz.prog 89 #[.func (.func 144) #[] #[.pointer (some ⟨w.heap.size, 0, none⟩)]] (w.alloc (.cells #[.slice p 0 cap] 39)) fun e W' =>
      e = .returned (.slice none 0 0) ∧ Below w.heap.size w W' := by
  have hB0 : Below w.heap.size w (w.alloc (.cells #[.slice p 0 cap] 39)) := (Below.refl _ w).alloc (Nat.le_refl _) _
  have hsz : (w.alloc (.cells #[.slice p 0 cap] 39)).heap.size = w.heap.size + 1 := by
    show (w.heap.push _).size = _
    simp
  have hcell : (w.alloc (.cells #[.slice p 0 cap] 39)).cell? ⟨w.heap.size, 0, none⟩ = some (.slice p ([] : List Int).length cap) := by
    have : (w.alloc (.cells #[.slice p 0 cap] 39)).heap[w.heap.size]? = some (.cells #[.slice p 0 cap] 39) := by
      show (w.heap.push _)[w.heap.size]? = _
      simp
    simp only [World.cell?, this]
    rfl
  have hseq := Tryz.values_stops 1 (by omega) w.heap.size w.heap.size p cap [] _ (by omega) (by omega) (Nat.zero_le _) hcell (fun i t ht => by simp at ht)
  have hcol := (callsIn_wide (n := 3)).1 (Tryz.collect 3 (by omega) 144 #[.pointer (some ⟨w.heap.size, 0, none⟩)] (enters_of Tryz.func144 (by kernel_rfl) rfl) [] (Nat.zero_le _) (by simp) w.heap.size _ (by omega) hseq)
  generalize hw0 : w.alloc (.cells #[.slice p 0 cap] 39) = w0 at *
  go_enter Tryz.func89, Tryz.ntmps89
  go_wp2_with (first
    | (go_at_call 142; refine hcol.mono ?_; rintro e w1 ⟨v, rfl, hrow, hnil, hbel⟩; obtain rfl := hnil.2 rfl)
    | (go_at_call 143; refine (show Calls Tryz.prog 143 #[.slice none 0 0] w1 _ from Any.slices_Sort_int_none Tryz.sortI none 0 w1).mono ?_; rintro e w2 ⟨rfl, rfl⟩))
  go_ret
  exact ⟨rfl, hB0.trans (hbel.mono (by omega))⟩

set_option maxHeartbeats 1000000 in
theorem Tryz.once (p : Option Addr) (cap : Nat) (l : List Int) (hl : l.length * 8 ≤ 140737488355328) (w : World) (hco : CellsOf w.heap.size w p l) :
    Calls Tryz.prog 42 #[.slice p l.length cap] w fun e W' => e = .returned (.bool (onceB l)) ∧ Below w.heap.size w W' := by
  have hml : l.length ≤ 140737488355328 := by omega
  by_cases hne : l = []
  · subst hne
    go_enter Tryz.func42, Tryz.ntmps42
    go_wp2_with (first
      | (go_at_call 90; refine (Tryz.values p 0 cap w).mono ?_; rintro e w1 ⟨rfl, rfl⟩)
      | (go_at_call 89; refine (Tryz.sorted0 p cap w).mono ?_; rintro e w2 ⟨rfl, hb2⟩)
      | (go_at_call 91; refine (show Calls Tryz.prog 91 #[.slice none 0 0] w2 _ from Any.slices_Compact_int_empty Tryz.compactI none 0 w2).mono ?_; rintro e w3 ⟨rfl, rfl⟩))
    go_ret
    exact ⟨by rw [show onceB [] = true by simp [onceB, sortI]; rfl]; rfl, hb2⟩
  · have hle : (Lib.compact (sortI l)).length ≤ l.length := by
      have := Lib.compact_length_le (sortI l)
      rwa [sortI_len] at this
    have heq : decide (((Lib.compact (sortI l)).length : Int) = (l.length : Int)) = onceB l := by
      unfold onceB
      exact decide_eq_decide.2 (by omega)
    go_enter Tryz.func42, Tryz.ntmps42
    go_wp2_with (first
      | (go_at_call 90; refine (Tryz.values p l.length cap w).mono ?_; rintro e w1 ⟨rfl, rfl⟩)
      | (go_at_call 89; refine (Tryz.sorted p cap l hne hl w hco).mono ?_; rintro e w2 ⟨g, cap', rfl, hc, hg1, hg2, hH, hb2⟩)
      | (go_at_call 91; refine (show Calls Tryz.prog 91 #[.slice (some ⟨g, 0, none⟩) l.length cap'] w2 _ by rw [← sortI_len l]; exact Any.slices_Compact_int Tryz.compactI g 0 cap' (sortI l) w2 hH (by rw [sortI_len]; omega) (by rw [sortI_len]; omega)).mono ?_; rintro e w3 ⟨rfl, q, rfl⟩))
    go_ret
    refine ⟨by rw [← heq]; rfl, hb2.trans ⟨rfl, rfl, rfl, by simp [putRow, mapBlock, Sort.ahead], fun k hk => ?_⟩⟩
    have : g ≠ k := by omega
    simp [putRow, mapBlock, Sort.ahead, Array.getElem?_modify, this]
end Go.Proofs.YtdamnoleoakehaaGreatDoor

set_option maxRecDepth 100000
namespace Go.ZM
open Go.Z Go.ZR
theorem compact_nodup : ∀ (l : List Int), l.Pairwise (fun x y => x ≤ y) → ((Lib.compact l).length = l.length ↔ l.Nodup) := by
  intro l hs
  have hk : ∀ j, j < l.length → (Lib.keeps l.toArray j = true ↔ (j = 0 ∨ l[j]! ≠ l[j - 1]!)) := by
    intro j hj
    simp [Lib.keeps]
  have hle : ∀ i j, i < j → j < l.length → l[i]! ≤ l[j]! := by
    intro i j h1 h2
    have := (List.pairwise_iff_getElem.1 hs) i j (by omega) h2 h1
    simpa [getElem!_pos, h2, show i < l.length by omega] using this
  have hall : (Lib.compact l).length = l.length ↔ ∀ j, j < l.length → Lib.keeps l.toArray j = true := by
    unfold Lib.compact Lib.compactUpTo
    rw [List.length_map]
    constructor
    · intro h j hj
      have h2 : (List.range l.length).filter (Lib.keeps l.toArray) = List.range l.length := List.filter_sublist.eq_of_length (by rw [h]; simp)
      have := List.filter_eq_self.1 h2 j (by simpa using hj)
      exact this
    · intro h
      rw [List.filter_eq_self.2 (fun j hj => h j (by simpa using hj))]
      simp
  rw [hall, List.nodup_iff_pairwise_ne, List.pairwise_iff_getElem]
  constructor
  · intro h i j hi hj hij he
    have h1 := hle i (j - 1)
    have h2 := (hk j hj).1 (h j hj)
    have h3 := hle (j - 1) j (by omega) hj
    have e1 : l[i]! = l[i] := getElem!_pos l i hi
    have e2 : l[j]! = l[j] := getElem!_pos l j hj
    rcases Nat.lt_or_ge i (j - 1) with h4 | h4
    · have := h1 h4 (by omega)
      rcases h2 with h2 | h2
      · omega
      · exact h2 (by omega)
    · have : i = j - 1 := by omega
      subst this
      rcases h2 with h2 | h2
      · omega
      · exact h2 (by omega)
  · intro h j hj
    refine (hk j hj).2 ?_
    rcases Nat.eq_zero_or_pos j with h0 | h0
    · exact .inl h0
    · refine .inr fun he => h (j - 1) j (by omega) hj (by omega) ?_
      rw [getElem!_pos l j hj, getElem!_pos l (j - 1) (by omega)] at he
      exact he.symm
theorem onceB_nodup (l : List Int) : onceB l = true ↔ l.Nodup := by
  have hp : (sortI l).Perm l := List.mergeSort_perm l _
  have hs : (sortI l).Pairwise (fun x y => x ≤ y) := by
    have := List.pairwise_mergeSort (le := fun x y : Int => decide (x ≤ y)) (fun a b c h1 h2 => by simp at *; omega) (fun a b => by simp; omega) l
    simpa [sortI] using this
  have h := compact_nodup (sortI l) hs
  unfold onceB
  rw [decide_eq_true_iff, ← hp.length_eq, h]
  exact hp.nodup_iff
end Go.ZM
namespace Go.ZR
open Go.Z Go.ZM Go.Proofs
def onceC : Ctr := nC 1 false (fun a => ∃ l : List Int, a = [.d (.ints .i64 l)] ∧ l.length ≤ 1099511627776) fun a => [bO (onceB (vl (dO (at_ a 0))))]
end Go.ZR
namespace Go.Proofs.YtdamnoleoakehaaGreatDoor
open Go.Proofs Go.ZM Go.ZR
open Go.RowKit Go.Maps Go.Sort Go.Shelf Go.Z Go.WideElems
theorem ok42g : FnIs Tryz.prog 42 onceC := by
  refine ⟨fun w A args vs fp hA hnd hlt hpre _ => ?_, entersOk Tryz.func42 (by kernel_rfl) (by kernel_rfl)⟩
  obtain ⟨l, rfl, hl⟩ := hpre
  match vs, hA with
  | [], hA => simp [OL.holds] at hA
  | _ :: _ :: _, hA => simp [OL.holds] at hA
  | [v1], hA =>
    simp only [OL.holds, O.holds] at hA
    obtain ⟨_, _, rfl, ⟨hv1, rfl⟩, rfl⟩ := hA
    obtain ⟨L, rfl, hwf, hinn, hlen, hcap, hcell⟩ := D.holds_ints.1 hv1
    have hco : CellsOf w.heap.size w L.a l := fun i t ht => by
      have hi := (List.getElem?_eq_some_iff.1 ht).1
      have hne : L.len ≠ 0 := by omega
      have ha : L.a = some ⟨L.b, L.o, none⟩ := hwf.resolve_left (by omega)
      exact ⟨L.b, L.o, ha, (hinn hne).2, hcell i t ht⟩
    have hv : L.val = .slice L.a l.length L.cap := by rw [← hlen]; rfl
    rw [hv]
    refine (Tryz.once L.a L.cap l (by omega) w hco).mono ?_
    rintro e W' ⟨rfl, hbel⟩
    refine ⟨[.bool (onceB l)], [], [], rfl, ⟨hbel.os, hbel.tape, hbel.output, hbel.size, fun b hb _ => hbel.block b hb⟩, by simp, by simp, ?_, ?_⟩
    · exact ⟨[], [], rfl, by simp [O.holds], by simp [OL.holds]⟩
    · show OL.holds _ W' [bO (onceB l)] _ _
      exact ⟨[], [], rfl, ⟨⟨rfl, rfl⟩, rfl⟩, by simp [OL.holds]⟩
end Go.Proofs.YtdamnoleoakehaaGreatDoor

set_option maxRecDepth 100000
namespace Go.ZM
open Go.Z Go.ZR
def hostsOf (c : Cf) : List ByteArray := c.nodes.map (·.host)
def PeerA (c : Cf) (i k : Nat) : Prop := 0 ≤ peerAt c i k ∧ peerAt c i k < c.nodes.length ∧ peerAt c i k ≠ i ∧ inB (nodeAt c (peerAt c i k).toNat).peers i = true
def NodeA (c : Cf) (i : Nat) : Prop := nameB (sB (nodeAt c i).host) = true ∧ nameB (sB (nodeAt c i).realm) = true ∧ (nodeAt c i).host ∉ (hostsOf c).take i ∧ onceB (nodeAt c i).peers = true ∧ routedB (nodeAt c i) = true ∧ ∀ k, k < (nodeAt c i).peers.length → PeerA c i k
def SoundA (c : Cf) : Prop := BaseOk c ∧ ∀ i, i < c.nodes.length → NodeA c i
theorem hostOk_iff (c : Cf) (i : Nat) (hi : i < c.nodes.length) : (nodeAt c i).host ∉ (hostsOf c).take i ↔ ∀ k, k < i → HostOk c i k := by
  constructor
  · intro h k hk he
    refine h (List.mem_iff_getElem?.2 ⟨k, ?_⟩)
    rw [List.getElem?_take_of_lt hk]
    unfold hostsOf
    rw [List.getElem?_map, List.getElem?_eq_getElem (by omega)]
    have e : nodeAt c k = c.nodes[k] := by unfold nodeAt; simp [List.getD, show k < c.nodes.length by omega]
    rw [e] at he
    have : c.nodes[k].host = (nodeAt c i).host := by
      have := congrArg List.toArray he
      exact ByteArray.ext (by simpa using this)
    simp [this]
  · intro h hm
    obtain ⟨k, hk⟩ := List.mem_iff_getElem?.1 hm
    have hki : k < i := by
      have := (List.getElem?_eq_some_iff.1 hk).1
      simp at this
      omega
    rw [List.getElem?_take_of_lt hki] at hk
    unfold hostsOf at hk
    rw [List.getElem?_map, List.getElem?_eq_getElem (by omega)] at hk
    refine h k hki ?_
    have e : nodeAt c k = c.nodes[k] := by unfold nodeAt; simp [List.getD, show k < c.nodes.length by omega]
    rw [e]
    simp at hk
    rw [hk]
theorem pigeon : ∀ (n : Nat) (l : List Int), l.Nodup → (∀ x, x ∈ l → 0 ≤ x ∧ x < (n : Int)) → l.length ≤ n := by
  intro n
  induction n with
  | zero =>
    intro l _ h
    match l, h with
    | [], _ => simp
    | x :: _, h => have := h x (by simp); omega
  | succ n ih =>
    intro l hl h
    have h1 : (l.erase (n : Int)).length ≤ n := by
      refine ih _ (hl.erase _) fun x hx => ?_
      have := h x (List.mem_of_mem_erase hx)
      have hne : x ≠ (n : Int) := fun e => by subst e; exact hl.not_mem_erase hx
      omega
    have := List.length_erase (a := (n : Int)) (l := l)
    split at this <;> omega
theorem inB_iff (l : List Int) (p : Int) : inB l p = true ↔ p ∈ l := by
  unfold inB
  simp
theorem nodup_iff_take (l : List Int) : l.Nodup ↔ ∀ k, k < l.length → l.getD k 0 ∉ l.take k := by
  rw [List.nodup_iff_pairwise_ne, List.pairwise_iff_getElem]
  constructor
  · intro h k hk hm
    obtain ⟨j, hj⟩ := List.mem_iff_getElem?.1 hm
    have hjk : j < k := by
      have := (List.getElem?_eq_some_iff.1 hj).1
      simp at this
      omega
    rw [List.getElem?_take_of_lt hjk, List.getElem?_eq_getElem (by omega)] at hj
    have e : l.getD k 0 = l[k] := by simp [List.getD, hk]
    rw [e] at hj
    exact h j k (by omega) hk hjk (Option.some.inj hj)
  · intro h i j hi hj hij he
    refine h j hj (List.mem_iff_getElem?.2 ⟨i, ?_⟩)
    rw [List.getElem?_take_of_lt hij, List.getElem?_eq_getElem hi, he]
    simp [List.getD, hj]
theorem soundA_iff (c : Cf) : SoundA c ↔ SoundP c := by
  unfold SoundA SoundP
  refine and_congr_right fun hb => forall_congr' fun i => ?_
  refine forall_congr' fun hi => ?_
  unfold NodeA NodeOk NodeHead
  rw [hostOk_iff c i hi, onceB_nodup, nodup_iff_take]
  have hr : routedB (nodeAt c i) = true ↔ RoutedP (nodeAt c i) := by
    unfold routedB
    exact @decide_eq_true_iff _ (Classical.propDecidable _)
  rw [hr]
  unfold RoutedP
  constructor
  · rintro ⟨h1, h2, h3, h4, ⟨h5, h6⟩, h7⟩
    have hin : ∀ k, k < (nodeAt c i).peers.length → PeerOk c i k := fun k hk => by
      obtain ⟨a1, a2, a3, a4⟩ := h7 k hk
      exact ⟨a1, a2, a3, h4 k hk, (inB_iff _ _).1 a4⟩
    refine ⟨⟨h1, h2, h5⟩, h3, ?_, hin, h6⟩
    have := pigeon 8 (nodeAt c i).peers ((nodup_iff_take _).2 h4) fun x hx => by
      obtain ⟨k, hk, rfl⟩ := List.getElem_of_mem hx
      have e : peerAt c i k = (nodeAt c i).peers[k] := by unfold peerAt; simp [List.getD, hk]
      obtain ⟨a1, a2, _⟩ := h7 k hk
      rw [e] at a1 a2
      have := hb.2.1
      omega
    exact this
  · rintro ⟨⟨h1, h2, h5⟩, h3, h4, h6, h7⟩
    exact ⟨h1, h2, h3, fun k hk => (h6 k hk).2.2.2.1, ⟨h5, h7⟩, fun k hk => let ⟨a1, a2, a3, _, a5⟩ := h6 k hk; ⟨a1, a2, a3, (inB_iff _ _).2 a5⟩⟩
noncomputable def soundF (c : Cf) : Int := cond (soundB c) 0 2
theorem soundF_good (c : Cf) (h : SoundA c) : soundF c = 0 := by
  unfold soundF soundB
  rw [@decide_eq_true _ (Classical.propDecidable _) ((soundA_iff c).1 h)]
  rfl
theorem soundF_bad (c : Cf) (h : ¬ SoundA c) : soundF c = 2 := by
  unfold soundF soundB
  rw [@decide_eq_false _ (Classical.propDecidable _) (fun k => h ((soundA_iff c).2 k))]
  rfl
end Go.ZM
namespace Go.ZR
open Go.Z Go.ZM Go.Proofs
noncomputable def soundC : Ctr := nC 1 false (fun a => ∃ c, a = [cfO c] ∧ smC c) fun a => [iO .i64 (soundF (cfOf a))]
def sndAnn (c : Cf) : LoopAnn where
  γ := Nat
  pre := fun i => i ≤ c.nodes.length ∧ ∀ k, k < i → NodeA c k
  μ := fun i => c.nodes.length - i
  items := fun i => [(43, .c (iO .i64 (i : Int))), (3, .c (.map (.strs ((hostsOf c).take i)) (.bools (List.replicate i true))))]
def sndPAnn (c : Cf) (i : Nat) : LoopAnn where
  γ := Nat
  pre := fun k => k ≤ (nodeAt c i).peers.length ∧ ∀ k', k' < k → PeerA c i k'
  μ := fun k => (nodeAt c i).peers.length - k
  items := fun k => [(84, .c (iO .i64 (k : Int)))]
noncomputable def b2 : List (Nat × Ctr) := [(41, fitsC), (42, onceC), (43, routedC), (44, inC)]
theorem b2_ok : COk Tryz.prog (ctrs b2) := cok_cons ok41 (cok_cons Go.Proofs.YtdamnoleoakehaaGreatDoor.ok42g (cok_cons ok43 (cok_cons ok44 cok_nil)))
end Go.ZR

namespace Go.ZR
open Go.Proofs
open Go.Z Go.ZM Go.RowKit
set_option maxRecDepth 100000
theorem midx_none {κ : Type} [DecidableEq κ] : ∀ (l : List κ) (x : κ), midx l x = none ↔ x ∉ l
  | [], x => by simp [midx]
  | k :: ks, x => by
    unfold midx
    by_cases e : x = k
    · simp [e]
    · have := midx_none ks x
      rw [if_neg e]
      simp only [List.mem_cons, e, false_or]
      rw [← this]
      cases midx ks x <;> simp
theorem seen_in {κ : Type} [DecidableEq κ] (l : List κ) (x : κ) (g : Nat) (hg : l.length = g) : (oget (List.replicate g true) (midx l x)).getD false = true ↔ x ∈ l := by
  cases h : midx l x with
  | none => simp [oget, (midx_none l x).1 h]
  | some j =>
    have h1 := midx_lt h
    have h2 := (List.getElem?_eq_some_iff.1 h1).1
    have h3 : x ∈ l := List.mem_of_getElem? h1
    simp only [oget, List.getElem?_replicate, show j < g by omega, if_true, Option.getD_some, h3]
theorem hosts_len {c : Cf} {g : Nat} (hg : g ≤ c.nodes.length) : ((hostsOf c).take g).length = g := by
  unfold hostsOf
  simp
  omega
theorem hosts_succ {c : Cf} {g : Nat} (hg : g < c.nodes.length) : (hostsOf c).take g ++ [(nodeAt c g).host] = (hostsOf c).take (g + 1) := by
  rw [List.take_add_one]
  congr 1
  unfold hostsOf nodeAt
  simp [List.getD, hg]
noncomputable def iA34c40 : Code := match Tryz.f40.body with | some c => c | none => .skip
noncomputable def iA34_40 : InlF := ⟨iA34c40, Tryz.f40.ntmps, Tryz.f40.results.toList, anns [] [1]⟩
noncomputable def iA34 : List (Nat × InlF) := [(40, iA34_40)]
theorem iA34_ok : InlsOk Tryz.prog iA34 := ⟨inlOk Tryz.func40 (by kernel_rfl) (by kernel_rfl), trivial⟩
noncomputable def code14g : Code := match Tryz.f14.body with | some c => c | none => .skip
set_option maxHeartbeats 4000000 in
theorem vc14g : ∀ (c : Cf), smC c → True ∧ sw (decide ((1 : Int) ≤ (↑c.nodes.length : Int))) (True ∧ sw (!decide ((↑c.nodes.length : Int) ≤ (8 : Int))) ((2 : Int) = soundF (cfOf [cfO c]) ∧
  true = true) (True ∧ sw (decide ((1 : Int) ≤ c.window)) (True ∧ sw (!decide (c.window ≤ (1048576 : Int))) ((2 : Int) = soundF (cfOf [cfO c]) ∧ true = true) (True ∧
  sw (decide ((1 : Int) ≤ c.stored)) (True ∧ sw (!decide (c.stored ≤ (256 : Int))) ((2 : Int) = soundF (cfOf [cfO c]) ∧ true = true) (True ∧ sw (decide ((1 : Int) ≤ c.wait)) (True ∧
  sw (!decide (c.wait ≤ (1048576 : Int))) ((2 : Int) = soundF (cfOf [cfO c]) ∧ true = true) (True ∧ sw (decide ((1 : Int) ≤ c.beat)) (True ∧ sw (!decide (c.beat ≤ (1048576 : Int))) ((2 : Int) = soundF (cfOf [cfO c]) ∧
  true = true) (∃ (g0 : Nat), (g0 ≤ c.nodes.length ∧ ∀ (k : Nat), k < g0 → NodeA c k) ∧ (0 : Int) = (↑g0 : Int) ∧ [] = List.take g0 (hostsOf c) ∧ [] = List.replicate g0 true ∧
  true = true ∧ ∀ (g : Nat), (g ≤ c.nodes.length ∧ ∀ (k : Nat), k < g → NodeA c k) → True ∧ sw (decide ((↑g : Int) < (↑c.nodes.length : Int))) (((0 : Int) ≤ (↑g : Int) ∧
  (↑g : Int) < (↑c.nodes.length : Int)) ∧ True ∧ ((0 : Int) ≤ (0 : Int) ∧ (0 : Int) < (↑(2 : Nat) : Int)) ∧ (∃ (l : List Int), [O.d (D.v (Value.int IntKind.i64 (10 : Int))), O.d (D.ints IntKind.u8 (List.map (fun (b : UInt8) => (↑b.toNat : Int)) (nodeAt c g).host.data.toList))] = [O.d (D.v (Value.int IntKind.i64 (10 : Int))), O.d (D.ints IntKind.u8 l)] ∧
  sm l.length) ∧ True ∧ sw (!decide ((bif nameB (List.map (fun (b : UInt8) => (↑b.toNat : Int)) (nodeAt c g).host.data.toList) then (0 : Int) else (11 : Int)) = (0 : Int))) ((2 : Int) = soundF (cfOf [cfO c]) ∧
  true = true) (True ∧ True ∧ ((0 : Int) ≤ (1 : Int) ∧ (1 : Int) < (↑(2 : Nat) : Int)) ∧ (∃ (l : List Int), [O.d (D.v (Value.int IntKind.i64 (10 : Int))), O.d (D.ints IntKind.u8 (List.map (fun (b : UInt8) => (↑b.toNat : Int)) (nodeAt c g).realm.data.toList))] = [O.d (D.v (Value.int IntKind.i64 (10 : Int))), O.d (D.ints IntKind.u8 l)] ∧
  sm l.length) ∧ True ∧ sw (!decide ((bif nameB (List.map (fun (b : UInt8) => (↑b.toNat : Int)) (nodeAt c g).realm.data.toList) then (0 : Int) else (11 : Int)) = (0 : Int))) ((2 : Int) = soundF (cfOf [cfO c]) ∧
  true = true) (True ∧ True ∧ sw ((oget (List.replicate g true) (midx (List.take g (hostsOf c)) (nodeAt c g).host)).getD false) ((2 : Int) = soundF (cfOf [cfO c]) ∧
  true = true) ((∃ (l : List Int), [O.d (D.ints IntKind.i64 (nodeAt c g).peers)] = [O.d (D.ints IntKind.i64 l)] ∧ l.length ≤ (1099511627776 : Nat)) ∧ sw (!onceB (nodeAt c g).peers) ((2 : Int) = soundF (cfOf [cfO c]) ∧
  true = true) ((∃ (d : Nd), [O.agg [O.d (D.v (Value.string (nodeAt c g).host)), O.d (D.v (Value.string (nodeAt c g).realm)), O.d (D.v (Value.bool (nodeAt c g).serves)), O.d (D.ints IntKind.i64 (nodeAt c g).peers), O.d (D.recs (2 : Nat) (nodeAt c g).routes.length fun (k j : Nat) => match j with | (0 : Nat) => D.v (Value.string (routeAt (nodeAt c g) k).realm) | _x => D.ints IntKind.i64 (routeAt (nodeAt c g) k).via)]] = [O.agg [O.d (D.v (Value.string d.host)), O.d (D.v (Value.string d.realm)), O.d (D.v (Value.bool d.serves)), O.d (D.ints IntKind.i64 d.peers), O.d (D.recs (2 : Nat) d.routes.length fun (k j : Nat) => match j with | (0 : Nat) => D.v (Value.string (routeAt d k).realm) | _x => D.ints IntKind.i64 (routeAt d k).via)]] ∧
  smD d) ∧ sw (!routedB (ndOf [ndO (nodeAt c g)])) ((2 : Int) = soundF (cfOf [cfO c]) ∧ true = true) (∃ (p : Nat), ∃ (g0_1 : Nat), (g0_1 ≤ (nodeAt c p).peers.length ∧
  ∀ (k' : Nat), k' < g0_1 → PeerA c p k') ∧ (0 : Int) = (↑g0_1 : Int) ∧ true = true ∧ ∀ (g_1 : Nat), (g_1 ≤ (nodeAt c p).peers.length ∧ ∀ (k' : Nat), k' < g_1 →
  PeerA c p k') → True ∧ sw (decide ((↑g_1 : Int) < (↑(nodeAt c g).peers.length : Int))) (((0 : Int) ≤ (↑g_1 : Int) ∧ (↑g_1 : Int) < (↑(nodeAt c g).peers.length : Int)) ∧
  True ∧ True ∧ sw (decide ((0 : Int) ≤ (nodeAt c g).peers.getD (↑g_1 : Int).toNat (0 : Int))) (True ∧ sw (!decide ((nodeAt c g).peers.getD (↑g_1 : Int).toNat (0 : Int) ≤ IntKind.i64.wrap ((↑c.nodes.length : Int) - (1 : Int)))) ((2 : Int) = soundF (cfOf [cfO c]) ∧
  true = true) (True ∧ sw (decide ((nodeAt c g).peers.getD (↑g_1 : Int).toNat (0 : Int) = (↑g : Int))) ((2 : Int) = soundF (cfOf [cfO c]) ∧ true = true) (((0 : Int) ≤ (nodeAt c g).peers.getD (↑g_1 : Int).toNat (0 : Int) ∧
  (nodeAt c g).peers.getD (↑g_1 : Int).toNat (0 : Int) < (↑c.nodes.length : Int)) ∧ (∃ (l : List Int), ∃ (p_1 : Int), [O.d (D.ints IntKind.i64 (nodeAt c ((nodeAt c g).peers.getD (↑g_1 : Int).toNat (0 : Int)).toNat).peers), O.d (D.v (Value.int IntKind.i64 (↑g : Int)))] = [O.d (D.ints IntKind.i64 l), O.d (D.v (Value.int IntKind.i64 p_1))] ∧
  l.length ≤ (1099511627776 : Nat)) ∧ sw (!inB (nodeAt c ((nodeAt c g).peers.getD (↑g_1 : Int).toNat (0 : Int)).toNat).peers (↑g : Int)) ((2 : Int) = soundF (cfOf [cfO c]) ∧
  true = true) (True ∧ ∃ (g' : Nat), (g' ≤ (nodeAt c p).peers.length ∧ ∀ (k' : Nat), k' < g' → PeerA c p k') ∧ (nodeAt c p).peers.length - g' < (nodeAt c p).peers.length - g_1 ∧
  (IntKind.i64.wrap ((↑g_1 : Int) + (1 : Int)) = (↑g' : Int) ∧ true = true) ∧ (some (SV.c (Value.int IntKind.i64 (↑(nodeAt c g).peers.length : Int))) = some (SV.c (Value.int IntKind.i64 (↑(nodeAt c g).peers.length : Int))) ∧
  some (SV.a (4 : Nat)) = some (SV.a (4 : Nat)) ∧ some (SV.c (Value.int IntKind.i64 (↑g : Int))) = some (SV.c (Value.int IntKind.i64 (↑g : Int))) ∧ some (SV.c (Value.int IntKind.i64 (↑g : Int))) = some (SV.c (Value.int IntKind.i64 (↑g : Int))) ∧
  some (SV.m (3 : Nat)) = some (SV.m (3 : Nat)) ∧ some (SV.c (Value.int IntKind.i64 (↑c.nodes.length : Int))) = some (SV.c (Value.int IntKind.i64 (↑c.nodes.length : Int))) ∧
  some (SV.a (0 : Nat)) = some (SV.a (0 : Nat)) ∧ some (SV.p (1 : Nat) (0 : Nat)) = some (SV.p (1 : Nat) (0 : Nat)) ∧ True) ∧ some (R.map (Col.strs (mputK (List.take g (hostsOf c)) (midx (List.take g (hostsOf c)) (nodeAt c g).host) (nodeAt c g).host)) (Col.bools (mputV (List.replicate g true) (midx (List.take g (hostsOf c)) (nodeAt c g).host) true))) = some (R.map (Col.strs (mputK (List.take g (hostsOf c)) (midx (List.take g (hostsOf c)) (nodeAt c g).host) (nodeAt c g).host)) (Col.bools (mputV (List.replicate g true) (midx (List.take g (hostsOf c)) (nodeAt c g).host) true))) ∧
  some (R.ro (D.ints IntKind.u8 (List.map (fun (b : UInt8) => (↑b.toNat : Int)) (nodeAt c g).realm.data.toList))) = some (R.ro (D.ints IntKind.u8 (List.map (fun (b : UInt8) => (↑b.toNat : Int)) (nodeAt c g).realm.data.toList))) ∧
  some (R.ro (D.ints IntKind.u8 (List.map (fun (b : UInt8) => (↑b.toNat : Int)) (nodeAt c g).host.data.toList))) = some (R.ro (D.ints IntKind.u8 (List.map (fun (b : UInt8) => (↑b.toNat : Int)) (nodeAt c g).host.data.toList))) ∧
  some (R.own (9 : Nat) (D.recs Tryz.prog.types[(9 : Nat)].size (2 : Nat) fun (i j : Nat) => [D.v (Value.string (nodeAt c g).host), D.v (Value.string (nodeAt c g).realm)].getD (i * Tryz.prog.types[(9 : Nat)].size + j) (D.v undef))) = some (R.own (9 : Nat) (D.recs Tryz.prog.types[(9 : Nat)].size (2 : Nat) fun (i j : Nat) => [D.v (Value.string (nodeAt c g).host), D.v (Value.string (nodeAt c g).realm)].getD (i * Tryz.prog.types[(9 : Nat)].size + j) (D.v undef))) ∧
  some (R.blk (88 : Nat) [SV.c (Value.string (nodeAt c g).host), SV.c (Value.string (nodeAt c g).realm), SV.c (Value.bool (nodeAt c g).serves), SV.a (4 : Nat), SV.a (5 : Nat)]) = some (R.blk (88 : Nat) [SV.c (Value.string (nodeAt c g).host), SV.c (Value.string (nodeAt c g).realm), SV.c (Value.bool (nodeAt c g).serves), SV.a (4 : Nat), SV.a (5 : Nat)]) ∧
  some (R.ro (D.recs (2 : Nat) (nodeAt c g).routes.length fun (k j : Nat) => match j with | (0 : Nat) => D.v (Value.string (routeAt (nodeAt c g) k).realm) | _x => D.ints IntKind.i64 (routeAt (nodeAt c g) k).via)) = some (R.ro (D.recs (2 : Nat) (nodeAt c g).routes.length fun (k j : Nat) => match j with | (0 : Nat) => D.v (Value.string (routeAt (nodeAt c g) k).realm) | _x => D.ints IntKind.i64 (routeAt (nodeAt c g) k).via)) ∧
  some (R.ro (D.ints IntKind.i64 (nodeAt c g).peers)) = some (R.ro (D.ints IntKind.i64 (nodeAt c g).peers)) ∧ some R.dead = some R.dead ∧ some (R.blk (24 : Nat) [SV.a (0 : Nat), SV.c (Value.int IntKind.i64 c.window), SV.c (Value.int IntKind.i64 c.stored), SV.c (Value.int IntKind.i64 c.wait), SV.c (Value.int IntKind.i64 c.beat)]) = some (R.blk (24 : Nat) [SV.a (0 : Nat), SV.c (Value.int IntKind.i64 c.window), SV.c (Value.int IntKind.i64 c.stored), SV.c (Value.int IntKind.i64 c.wait), SV.c (Value.int IntKind.i64 c.beat)]) ∧
  some (R.ro (D.recs (5 : Nat) c.nodes.length fun (i j : Nat) => match j with | (0 : Nat) => D.v (Value.string (nodeAt c i).host) | (1 : Nat) => D.v (Value.string (nodeAt c i).realm) | (2 : Nat) => D.v (Value.bool (nodeAt c i).serves) | (3 : Nat) => D.ints IntKind.i64 (nodeAt c i).peers | _x => D.recs (2 : Nat) (nodeAt c i).routes.length fun (k j : Nat) => match j with | (0 : Nat) => D.v (Value.string (routeAt (nodeAt c i) k).realm) | _x => D.ints IntKind.i64 (routeAt (nodeAt c i) k).via)) = some (R.ro (D.recs (5 : Nat) c.nodes.length fun (i j : Nat) => match j with | (0 : Nat) => D.v (Value.string (nodeAt c i).host) | (1 : Nat) => D.v (Value.string (nodeAt c i).realm) | (2 : Nat) => D.v (Value.bool (nodeAt c i).serves) | (3 : Nat) => D.ints IntKind.i64 (nodeAt c i).peers | _x => D.recs (2 : Nat) (nodeAt c i).routes.length fun (k j : Nat) => match j with | (0 : Nat) => D.v (Value.string (routeAt (nodeAt c i) k).realm) | _x => D.ints IntKind.i64 (routeAt (nodeAt c i) k).via)) ∧
  True)))) ((2 : Int) = soundF (cfOf [cfO c]) ∧ true = true)) (True ∧ ∃ (g' : Nat), (g' ≤ c.nodes.length ∧ ∀ (k : Nat), k < g' → NodeA c k) ∧ c.nodes.length - g' < c.nodes.length - g ∧
  (IntKind.i64.wrap ((↑g : Int) + (1 : Int)) = (↑g' : Int) ∧ mputK (List.take g (hostsOf c)) (midx (List.take g (hostsOf c)) (nodeAt c g).host) (nodeAt c g).host = List.take g' (hostsOf c) ∧
  mputV (List.replicate g true) (midx (List.take g (hostsOf c)) (nodeAt c g).host) true = List.replicate g' true ∧ true = true) ∧ (some (SV.c (Value.int IntKind.i64 (↑c.nodes.length : Int))) = some (SV.c (Value.int IntKind.i64 (↑c.nodes.length : Int))) ∧
  some (SV.a (0 : Nat)) = some (SV.a (0 : Nat)) ∧ some (SV.p (1 : Nat) (0 : Nat)) = some (SV.p (1 : Nat) (0 : Nat)) ∧ True) ∧ some (R.blk (24 : Nat) [SV.a (0 : Nat), SV.c (Value.int IntKind.i64 c.window), SV.c (Value.int IntKind.i64 c.stored), SV.c (Value.int IntKind.i64 c.wait), SV.c (Value.int IntKind.i64 c.beat)]) = some (R.blk (24 : Nat) [SV.a (0 : Nat), SV.c (Value.int IntKind.i64 c.window), SV.c (Value.int IntKind.i64 c.stored), SV.c (Value.int IntKind.i64 c.wait), SV.c (Value.int IntKind.i64 c.beat)]) ∧
  some (R.ro (D.recs (5 : Nat) c.nodes.length fun (i j : Nat) => match j with | (0 : Nat) => D.v (Value.string (nodeAt c i).host) | (1 : Nat) => D.v (Value.string (nodeAt c i).realm) | (2 : Nat) => D.v (Value.bool (nodeAt c i).serves) | (3 : Nat) => D.ints IntKind.i64 (nodeAt c i).peers | _x => D.recs (2 : Nat) (nodeAt c i).routes.length fun (k j : Nat) => match j with | (0 : Nat) => D.v (Value.string (routeAt (nodeAt c i) k).realm) | _x => D.ints IntKind.i64 (routeAt (nodeAt c i) k).via)) = some (R.ro (D.recs (5 : Nat) c.nodes.length fun (i j : Nat) => match j with | (0 : Nat) => D.v (Value.string (nodeAt c i).host) | (1 : Nat) => D.v (Value.string (nodeAt c i).realm) | (2 : Nat) => D.v (Value.bool (nodeAt c i).serves) | (3 : Nat) => D.ints IntKind.i64 (nodeAt c i).peers | _x => D.recs (2 : Nat) (nodeAt c i).routes.length fun (k j : Nat) => match j with | (0 : Nat) => D.v (Value.string (routeAt (nodeAt c i) k).realm) | _x => D.ints IntKind.i64 (routeAt (nodeAt c i) k).via)) ∧
  True))))))) ((0 : Int) = soundF (cfOf [cfO c]) ∧ true = true))) ((2 : Int) = soundF (cfOf [cfO c]) ∧ true = true))) ((2 : Int) = soundF (cfOf [cfO c]) ∧
  true = true))) ((2 : Int) = soundF (cfOf [cfO c]) ∧ true = true))) ((2 : Int) = soundF (cfOf [cfO c]) ∧ true = true))) ((2 : Int) = soundF (cfOf [cfO c]) ∧
  true = true) := by
  intro c h
  rw [cfOf_cf]
  have good (k : SoundA c) : (0 : Int) = soundF c ∧ true = true := ⟨(soundF_good c k).symm, rfl⟩
  have bad (k : ¬ SoundA c) : (2 : Int) = soundF c ∧ true = true := ⟨(soundF_bad c k).symm, rfl⟩
  have nob (k : ¬ BaseOk c) : (2 : Int) = soundF c ∧ true = true := bad fun hs => k hs.1
  unfold BaseOk at nob
  iterate 5
    refine tsw_mk (fun a => tsw_mk (fun b => nob (by simp at b; omega)) fun b => ?_) (fun a => nob (by have := of_decide_eq_false a; omega))
    replace a := of_decide_eq_true a
    simp only [Bool.not_eq_false', decide_eq_true_eq] at b
  have base : BaseOk c := by unfold BaseOk; omega
  refine ⟨0, ⟨Nat.zero_le _, fun k hk => absurd hk (by omega)⟩, rfl, by simp, by simp, rfl, ?_⟩
  rintro g ⟨hg, hok⟩
  refine tsw_mk (fun hlt => ?_) (fun hge => ?_)
  · replace hlt : g < c.nodes.length := by have := of_decide_eq_true hlt; omega
    have hmem : nodeAt c g ∈ c.nodes := getD_mem hlt
    obtain ⟨z1, z2, z3, z4, z5⟩ := h.2 _ hmem
    have nono (k : ¬ NodeA c g) : (2 : Int) = soundF c ∧ true = true := bad fun hs => k (hs.2 g hlt)
    refine ⟨⟨by omega, by omega⟩, trivial, ⟨by omega, by omega⟩, ⟨_, rfl, by unfold sm; simpa using z1⟩, tsw_mk (fun e => nono fun hn => ?_) fun e1 => ?_⟩
    · have := hn.1
      unfold sB at this
      rw [this] at e
      cases e
    refine ⟨trivial, trivial, ⟨by omega, by omega⟩, ⟨_, rfl, by unfold sm; simpa using z2⟩, tsw_mk (fun e => nono fun hn => ?_) fun e2 => ?_⟩
    · have := hn.2.1
      unfold sB at this
      rw [this] at e
      cases e
    refine ⟨trivial, tsw_mk (fun e => nono fun hn => hn.2.2.1 ((seen_in _ _ _ (hosts_len hg)).1 e)) fun e3 => ?_⟩
    have hnew : (nodeAt c g).host ∉ (hostsOf c).take g := fun hm => by
      rw [(seen_in _ _ _ (hosts_len hg)).2 hm] at e3
      cases e3
    refine ⟨⟨_, rfl, z3⟩, sw_mk (fun e => nono fun hn => ?_) fun e4 => ⟨⟨nodeAt c g, rfl, h.2 _ hmem⟩, sw_mk (fun e => nono fun hn => ?_) fun e5 => ?_⟩⟩
    · rw [hn.2.2.2.1] at e
      cases e
    · rw [ndOf_nd, hn.2.2.2.2.1] at e
      cases e
    rw [ndOf_nd] at e5
    have hd1 : nameB (sB (nodeAt c g).host) = true := by
      unfold sB
      revert e1
      cases nameB (List.map (fun b : UInt8 => (b.toNat : Int)) (nodeAt c g).host.data.toList) <;> simp
    have hd2 : nameB (sB (nodeAt c g).realm) = true := by
      unfold sB
      revert e2
      cases nameB (List.map (fun b : UInt8 => (b.toNat : Int)) (nodeAt c g).realm.data.toList) <;> simp
    refine ⟨g, 0, ⟨Nat.zero_le _, fun j hj => absurd hj (by omega)⟩, rfl, rfl, ?_⟩
    rintro j ⟨hj, hp⟩
    refine tsw_mk (fun hjl => ?_) (fun hjg => ?_)
    · replace hjl : j < (nodeAt c g).peers.length := by have := of_decide_eq_true hjl; omega
      rw [Int.toNat_natCast j]
      have nop (q : ¬ PeerA c g j) : (2 : Int) = soundF c ∧ true = true := nono fun hn => q (hn.2.2.2.2.2 j hjl)
      have hw : IntKind.i64.wrap ((c.nodes.length : Int) - 1) = (c.nodes.length : Int) - 1 := by rw [IntKind.wrap_i64]; omega
      rw [hw]
      refine ⟨⟨by omega, by omega⟩, trivial, tsw_mk (fun p1 => tsw_mk (fun e => nop fun hq => ?_) fun p2 => tsw_mk (fun e => nop fun hq => hq.2.2.1 (of_decide_eq_true e)) fun p3 => ?_) (fun e => nop fun hq => ?_)⟩
      · have := hq.2.1
        unfold peerAt at this
        simp only [Bool.not_eq_true', decide_eq_false_iff_not] at e
        omega
      · replace p1 := of_decide_eq_true p1
        simp only [Bool.not_eq_false', decide_eq_true_eq] at p2
        replace p3 := of_decide_eq_false p3
        have hidx : ((nodeAt c g).peers.getD j 0).toNat < c.nodes.length := by omega
        have hmem2 : nodeAt c ((nodeAt c g).peers.getD j 0).toNat ∈ c.nodes := getD_mem hidx
        refine ⟨⟨by omega, by omega⟩, ⟨_, _, rfl, (h.2 _ hmem2).2.2.1⟩, sw_mk (fun e => nop fun hq => ?_) fun p5 => ⟨trivial, j + 1, ⟨hjl, fun k' hk' => ?_⟩, by omega, ⟨by rw [IntKind.wrap_i64]; omega, rfl⟩, ?_⟩⟩
        · have := hq.2.2.2
          unfold peerAt at this
          rw [this] at e
          cases e
        · rcases Nat.lt_or_ge k' j with h' | h'
          · exact hp k' h'
          · obtain rfl : k' = j := by omega
            refine ⟨p1, ?_, p3, ?_⟩
            · unfold peerAt; omega
            · unfold peerAt; simpa using p5
        all_goals repeat' (first | exact trivial | exact rfl | refine And.intro ?_ ?_)
      · have := hq.1
        have e := of_decide_eq_false e
        unfold peerAt at this
        omega
    · obtain rfl : j = (nodeAt c g).peers.length := by have := of_decide_eq_false hjg; omega
      have hm0 : midx ((hostsOf c).take g) (nodeAt c g).host = none := (midx_none _ _).2 hnew
      refine ⟨trivial, g + 1, ⟨hlt, fun k' hk' => ?_⟩, by omega, ⟨by rw [IntKind.wrap_i64]; omega, by rw [hm0]; exact hosts_succ hlt, by rw [hm0]; exact (List.replicate_succ').symm, rfl⟩, ?_⟩
      · rcases Nat.lt_or_ge k' g with h' | h'
        · exact hok k' h'
        · obtain rfl : k' = g := by omega
          exact ⟨hd1, hd2, hnew, by simpa using e4, by simpa using e5, hp⟩
      all_goals repeat' (first | exact trivial | exact rfl | refine And.intro ?_ ?_)
  · obtain rfl : g = c.nodes.length := by have := of_decide_eq_false hge; omega
    exact good ⟨base, hok⟩
set_option maxRecDepth 100000 in
theorem ok14g : FnIs Tryz.prog 14 soundC := by
  refine fnIs (C := (ctrsJ Tryz.prog b2 iA34 4)) (by kernel_rfl) (cokJ (by kernel_rfl) b2_ok iA34_ok) Tryz.func14 (code := code14g) (by kernel_rfl) (by kernel_rfl) ?_
  rintro a ⟨c, rfl, h⟩
  exact ⟨anns [(5, sndAnn c), (17, .fam Nat (sndPAnn c))] [1, 13, 19] [(8, 3)] (dr := [(5, [0, 10, 11, 12, 13, 14, 15, 16, 17, 18, 19, 20, 21, 22, 23, 24, 25, 26, 27, 28, 29, 30, 31, 32, 33, 34, 35, 36, 37, 38, 39, 40]), (8, [0, 10, 11, 12, 13, 14, 15, 16, 17, 18, 19, 20, 21, 22, 23, 24, 25, 26, 27, 28, 29, 30, 31, 32, 33, 34, 35, 36, 37, 38, 39, 40, 44, 45, 46, 47, 48, 49, 50, 51]), (17, [0, 5, 7, 10, 11, 12, 13, 14, 15, 16, 17, 18, 19, 20, 21, 22, 23, 24, 25, 26, 27, 28, 29, 30, 31, 32, 33, 34, 35, 36, 37, 38, 39, 40, 44, 45, 46, 47, 48, 49, 50, 51, 52, 53, 54, 55, 56, 57, 58, 59, 60, 61, 62, 63, 64, 65, 66, 67, 68, 69, 70, 71, 72, 73, 74, 75, 76, 77, 78, 79, 80, 81])]), kcast (vc14g c h) (by kernel_rfl)⟩

end Go.ZR

set_option maxRecDepth 100000
namespace Go.ZR
open Go.Z Go.ZM Go.Proofs
def ownC : Ctr := { nC 1 false (fun a => ∃ c, a = [cfO c] ∧ smC c) (fun a => [cfO (cfOf a)]) with ro := true }
def ownAnn (c : Cf) : LoopAnn where
  γ := Nat
  pre := fun i => i ≤ c.nodes.length
  μ := fun i => c.nodes.length - i
  items := fun i => [(4, .c (iO .i64 (i : Int))), (3, .c (.own 88 (.recs 5 i (ndCell c))))]
def ownRAnn (c : Cf) (i : Nat) : LoopAnn where
  γ := Nat
  pre := fun k => k ≤ (nodeAt c i).routes.length
  μ := fun k => (nodeAt c i).routes.length - k
  items := fun k => [(7, .c (iO .i64 (k : Int))), (6, .c (.own 91 (.recs 2 k (rtCell (nodeAt c i)))))]
end Go.ZR
