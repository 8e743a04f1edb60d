/- Part 22 of what the closing text rests on. -/
import Derived.Test.YtdamnoleoakehaaGreatDoorH17
import Derived.Test.YtdamnoleoakehaaGreatDoorH21
import Derived.Test.YtdamnoleoakehaaGreatDoorRows
namespace Go.ZR
open Go.Proofs
open Go.Z Go.ZM Go.RowKit
set_option maxRecDepth 100000
theorem start_ex {N : Nat} {P : Nat → Prop} (h : P 0) : ∃ g0 : Nat, g0 ≤ N ∧ (0 : Int) = (↑g0 : Int) ∧ P g0 := ⟨0, Nat.zero_le _, rfl, h⟩
theorem loop_ex {N g : Nat} {P : Nat → Prop} (hg : g < N) (h : P (g + 1)) : ∃ g' : Nat, g' ≤ N ∧ N - g' < N - g ∧ P g' := ⟨g + 1, hg, by omega, h⟩
theorem wrap_succ {g : Nat} (h : g < 1099511627776) : IntKind.i64.wrap ((g : Int) + 1) = ((g + 1 : Nat) : Int) := by rw [IntKind.wrap_i64]; omega
theorem set_same (y : Nd) (g : Nat) (l : List Int) (hl : l = (routeAt y g).via) (i j : Nat) (hj : j < 2) : setRecM (rtCell y) (↑g : Int).toNat 1 [.ints .i64 l] i j = rtCell y i j := by
  rw [setRecM_eq]
  unfold setRec
  match j, hj with
  | 0, _ => simp [Nat.ble]
  | 1, _ =>
    cases h : Nat.beq i (g : Int).toNat with
    | false => rfl
    | true =>
      obtain rfl : i = g := by have := Nat.eq_of_beq_eq_true h; omega
      show D.ints .i64 l = D.ints .i64 (routeAt y i).via
      rw [hl]
theorem names_eq (c : Cf) (g : Nat) (i j : Nat) (hi : i < g + 1) (hj : j < 1) (s : Nat) (hs : s = 1) :
    (bif i.blt g then hostCell c i j else [D.v (Value.string (nodeAt c (↑g : Int).toNat).host)].getD ((i - g) * s + j) (D.v undef)) = hostCell c i j := by
  obtain rfl : j = 0 := by omega
  subst hs
  rcases Nat.lt_or_ge i g with h' | h'
  · rw [show i.blt g = true by simpa [Nat.blt_eq] using h']
    rfl
  · obtain rfl : i = g := by omega
    rw [show i.blt i = false by rw [Bool.eq_false_iff, Ne, Nat.blt_eq]; omega, Nat.sub_self]
    rfl
theorem all_sw {p A B : Prop} (h1 : p → A) (h2 : B) : ∀ t : Bool, (t = true → p) → sw t A B := fun _ ht => sw_mk (fun e => h1 (ht e)) (fun _ => h2)
noncomputable def iA38c40 : Code := match Tryz.f40.body with | some c => c | none => .skip
noncomputable def iA38_40 : InlF := ⟨iA38c40, Tryz.f40.ntmps, Tryz.f40.results.toList, anns [] [1]⟩
noncomputable def iA38c45 : Code := match Tryz.f45.body with | some c => c | none => .skip
noncomputable def iA38_45 : InlF := ⟨iA38c45, Tryz.f45.ntmps, Tryz.f45.results.toList, anns []⟩
noncomputable def iA38c46 : Code := match Tryz.f46.body with | some c => c | none => .skip
noncomputable def iA38_46 : InlF := ⟨iA38c46, Tryz.f46.ntmps, Tryz.f46.results.toList, anns []⟩
noncomputable def iA38c47 : Code := match Tryz.f47.body with | some c => c | none => .skip
noncomputable def iA38_47 : InlF := ⟨iA38c47, Tryz.f47.ntmps, Tryz.f47.results.toList, anns []⟩
noncomputable def iA38c48 : Code := match Tryz.f48.body with | some c => c | none => .skip
noncomputable def iA38_48 : InlF := ⟨iA38c48, Tryz.f48.ntmps, Tryz.f48.results.toList, anns []⟩
noncomputable def iA38c49 : Code := match Tryz.f49.body with | some c => c | none => .skip
noncomputable def iA38_49 : InlF := ⟨iA38c49, Tryz.f49.ntmps, Tryz.f49.results.toList, anns [] [1]⟩
noncomputable def iA38 : List (Nat × InlF) := [(40, iA38_40), (45, iA38_45), (46, iA38_46), (47, iA38_47), (48, iA38_48), (49, iA38_49)]
theorem iA38_ok : InlsOk Tryz.prog iA38 := ⟨inlOk Tryz.func40 (by kernel_rfl) (by kernel_rfl), inlOk Tryz.func45 (by kernel_rfl) (by kernel_rfl), inlOk Tryz.func46 (by kernel_rfl) (by kernel_rfl), inlOk Tryz.func47 (by kernel_rfl) (by kernel_rfl), inlOk Tryz.func48 (by kernel_rfl) (by kernel_rfl), inlOk Tryz.func49 (by kernel_rfl) (by kernel_rfl), trivial⟩
noncomputable def code16 : Code := match Tryz.f16.body with | some c => c | none => .skip
@[reducible] noncomputable def q16_0 (x0 : Cf) : D := D.recs (5 : Nat) x0.nodes.length fun (i j : Nat) => match j with | (0 : Nat) => D.v (Value.string (nodeAt x0 i).host) | (1 : Nat) => D.v (Value.string (nodeAt x0 i).realm) | (2 : Nat) => D.v (Value.bool (nodeAt x0 i).serves) | (3 : Nat) => D.ints IntKind.i64 (nodeAt x0 i).peers | _x => D.recs (2 : Nat) (nodeAt x0 i).routes.length fun (k j : Nat) => match j with | (0 : Nat) => D.v (Value.string (routeAt (nodeAt x0 i) k).realm) | _x => D.ints IntKind.i64 (routeAt (nodeAt x0 i) k).via
@[reducible] noncomputable def q16_1 (x0 : Cf) : List O := [O.agg [O.d (q16_0 x0), O.d (D.v (Value.int IntKind.i64 x0.window)), O.d (D.v (Value.int IntKind.i64 x0.stored)), O.d (D.v (Value.int IntKind.i64 x0.wait)), O.d (D.v (Value.int IntKind.i64 x0.beat))]]
@[reducible] noncomputable def q16_2 (x0 : Cf) : Int := (↑x0.nodes.length : Int)
@[reducible] noncomputable def q16_3 (x0 : Nd) : Nat := x0.peers.length
@[reducible] def q16_4 (x0 : Bool) (x1 : Nd) : Prop := x0 = true → x1.routes.length = (0 : Nat)
@[reducible] def q16_5 (x0 : Nat) (x1 : Nd) : Prop := x0 ≤ x1.routes.length
@[reducible] noncomputable def q16_6 (x0 : Nat) : Int := (↑x0 : Int)
@[reducible] def q16_7 (x0 : Nat) : Prop := (0 : Int) = q16_6 x0
@[reducible] def q16_8 : Prop := true = true
@[reducible] def q16_9 (x0 : Nat) (x1 : Cf) : Prop := x0 ≤ x1.nodes.length
@[reducible] noncomputable def q16_10 (x0 : Nd) : SV := SV.c (Value.string x0.host)
@[reducible] def q16_11 (x0 : Nd) : Prop := q16_10 x0 = q16_10 x0
@[reducible] noncomputable def q16_12 (x0 : Nd) : SV := SV.c (Value.string x0.realm)
@[reducible] def q16_13 (x0 : Nd) : Prop := q16_12 x0 = q16_12 x0
@[reducible] noncomputable def q16_14 (x0 : Nd) : SV := SV.c (Value.bool x0.serves)
@[reducible] def q16_15 (x0 : Nd) : Prop := q16_14 x0 = q16_14 x0
@[reducible] noncomputable def q16_16 (x0 : Cf) : SV := SV.c (Value.int IntKind.i64 x0.window)
@[reducible] def q16_17 (x0 : Cf) : Prop := q16_16 x0 = q16_16 x0
@[reducible] noncomputable def q16_18 (x0 : Cf) : SV := SV.c (Value.int IntKind.i64 x0.stored)
@[reducible] def q16_19 (x0 : Cf) : Prop := q16_18 x0 = q16_18 x0
@[reducible] noncomputable def q16_20 (x0 : Cf) : SV := SV.c (Value.int IntKind.i64 x0.wait)
@[reducible] def q16_21 (x0 : Cf) : Prop := q16_20 x0 = q16_20 x0
@[reducible] noncomputable def q16_22 (x0 : Cf) : SV := SV.c (Value.int IntKind.i64 x0.beat)
@[reducible] def q16_23 (x0 : Cf) : Prop := q16_22 x0 = q16_22 x0
@[reducible] noncomputable def q16_24 (x0 : Int) : SV := SV.c (Value.int IntKind.i64 x0)
@[reducible] def q16_25 (x0 : Int) : Prop := q16_24 x0 = q16_24 x0
@[reducible] def q16_26 : Prop := SV.m (2 : Nat) = SV.m (2 : Nat)
@[reducible] def q16_27 : Prop := SV.p (4 : Nat) (0 : Nat) = SV.p (4 : Nat) (0 : Nat)
@[reducible] def q16_28 : Prop := SV.p (6 : Nat) (0 : Nat) = SV.p (6 : Nat) (0 : Nat)
@[reducible] noncomputable def q16_29 : SV := SV.c (Value.pointer none)
@[reducible] def q16_30 : Prop := q16_29 = q16_29
@[reducible] def q16_31 : Prop := SV.b false = SV.b false
@[reducible] noncomputable def q16_32 : SV := SV.c (Value.int IntKind.i64 (0 : Int))
@[reducible] def q16_33 : Prop := q16_32 = q16_32
@[reducible] noncomputable def q16_34 (x0 : Nat) (x1 : Cf) : Bool := decide (q16_6 x0 < q16_2 x1)
@[reducible] def q16_35 (x0 : Nat) (x1 : Cf) : Prop := (0 : Int) ≤ q16_6 x0 ∧ q16_6 x0 < q16_2 x1
@[reducible] noncomputable def q16_36 : Nat := Tryz.prog.types.size
@[reducible] noncomputable def q16_37 : TypeInfo := Tryz.prog.types[(9 : Nat)]
@[reducible] def q16_38 (x0 : Nat) (x1 : Nat) : Prop := IntKind.i64.wrap (q16_6 x0 + (1 : Int)) = q16_6 x1
@[reducible] def q16_39 (x0 : Nat) (x1 : Nat) (x2 : Cf) : Prop := x0 + (1 : Nat) = x1 ∧ ∀ (i : Nat), i < x0 + (1 : Nat) → ∀ (j : Nat), j < (1 : Nat) → (bif i.blt x0 then D.v (Value.string (nodeAt x2 i).host) else [D.v (Value.string (nodeAt x2 (q16_6 x0).toNat).host)].getD ((i - x0) * q16_37.size + j) (D.v undef)) = D.v (Value.string (nodeAt x2 i).host)
@[reducible] def q16_40 : Prop := q16_30 ∧ q16_31 ∧ q16_33 ∧ SV.nil = SV.nil ∧ SV.nil = SV.nil ∧ SV.nil = SV.nil ∧ SV.nil = SV.nil ∧ q16_8
@[reducible] def q16_41 (x0 : Cf) (x1 : Int) (x2 : Int) (x3 : Nat) (x4 : Nat) : Prop := SV.nil = SV.nil ∧ q16_17 x0 ∧ q16_19 x0 ∧ q16_21 x0 ∧ q16_23 x0 ∧
  q16_25 x1 ∧ q16_25 x2 ∧ q16_39 x3 x4 x0 ∧ q16_26 ∧ q16_27 ∧ q16_28 ∧ q16_40
@[reducible] def q16_42 : Prop := some (SV.p (7 : Nat) (0 : Nat)) = some (SV.p (7 : Nat) (0 : Nat)) ∧ some q16_32 = some q16_32 ∧ some q16_29 = some q16_29 ∧
  some (SV.p (1 : Nat) (0 : Nat)) = some (SV.p (1 : Nat) (0 : Nat)) ∧ True
@[reducible] def q16_43 (x0 : Cf) : Prop := some (SV.c (Value.int IntKind.i64 (q16_2 x0))) = some (SV.c (Value.int IntKind.i64 (q16_2 x0))) ∧ some (SV.a (0 : Nat)) = some (SV.a (0 : Nat)) ∧
  q16_42
@[reducible] noncomputable def q16_44 (x0 : Nat) (x1 : Nd) (x2 : Nat) : D := match x0 with | (0 : Nat) => D.v (Value.string (routeAt x1 x2).realm) | _x => D.ints IntKind.i64 (routeAt x1 x2).via
@[reducible] noncomputable def q16_45 (x0 : Nd) : Option R := some (R.ro (D.recs (2 : Nat) x0.routes.length fun (k j : Nat) => q16_44 j x0 k))
@[reducible] def q16_46 (x0 : Nd) : Prop := q16_45 x0 = q16_45 x0
@[reducible] def q16_47 (x0 : Nd) : Prop := some (R.ro (D.ints IntKind.i64 x0.peers)) = some (R.ro (D.ints IntKind.i64 x0.peers))
@[reducible] noncomputable def q16_48 (x0 : Cf) : Option R := some (R.blk (24 : Nat) [SV.a (0 : Nat), q16_16 x0, q16_18 x0, q16_20 x0, q16_22 x0])
@[reducible] def q16_49 (x0 : Cf) : Prop := q16_48 x0 = q16_48 x0
@[reducible] noncomputable def q16_50 : Option R := some (R.blk (176 : Nat) [SV.m (5 : Nat), SV.c (Value.int IntKind.u32 (0 : Int)), q16_32])
@[reducible] def q16_51 : Prop := q16_50 = q16_50
@[reducible] noncomputable def q16_52 : Option R := some (R.mapR (Col.ints IntKind.u32 []) (15 : Nat) fun (_x _x_1 : Nat) => D.v undef)
@[reducible] def q16_53 : Prop := q16_52 = q16_52
@[reducible] def q16_54 : Prop := some (R.blk (173 : Nat) [SV.nil, SV.m (3 : Nat)]) = some (R.blk (173 : Nat) [SV.nil, SV.m (3 : Nat)])
@[reducible] def q16_55 : Prop := some (R.map (Col.ints IntKind.i64 []) (Col.ints IntKind.i64 [])) = some (R.map (Col.ints IntKind.i64 []) (Col.ints IntKind.i64 []))
@[reducible] def q16_56 : Prop := some (R.mapS (Col.ints IntKind.i64 []) [] [] (0 : Nat)) = some (R.mapS (Col.ints IntKind.i64 []) [] [] (0 : Nat))
@[reducible] def q16_57 (x0 : Nd) (x1 : Cf) : Prop := q16_46 x0 ∧ q16_47 x0 ∧ q16_49 x1 ∧ q16_51 ∧ q16_53 ∧ q16_54 ∧ q16_55 ∧ q16_56 ∧ some (R.ro (q16_0 x1)) = some (R.ro (q16_0 x1)) ∧
  True
@[reducible] def q16_58 : Prop := IntKind.i64 = IntKind.i64
@[reducible] def q16_59 : Prop := (0 : Int) = (0 : Int) ∧ q16_8
@[reducible] def q16_60 (x0 : Cf) : Prop := True ∧ sw (decide (x0.window < (1 : Int))) q16_59 (True ∧ sw (decide ((1048576 : Int) < x0.window)) q16_59 (True ∧
  sw (decide (x0.stored < (1 : Int))) q16_59 (True ∧ sw (decide ((256 : Int) < x0.stored)) q16_59 q16_59)))
@[reducible] def q16_61 (x0 : Nd) (x1 : Cf) : Prop := ∃ (g0_2 : Nat), g0_2 ≤ q16_3 x0 ∧ q16_7 g0_2 ∧ q16_58 ∧ q16_8 ∧ ∀ (g_2 : Nat), g_2 ≤ q16_3 x0 → ∀ (_ks : List Int) (_bn : List Nat) (_clock : Nat), True ∧
  q16_60 x1
@[reducible] noncomputable def q16_62 : TypeInfo := Tryz.prog.types[(91 : Nat)]
@[reducible] def q16_63 (x0 : Nd) : Prop := (0 : Nat) + x0.routes.length = x0.routes.length ∧ ∀ (i : Nat), i < (0 : Nat) + x0.routes.length → ∀ (j : Nat), j < q16_62.size →
  (match j with | (0 : Nat) => D.v (Value.string (routeAt x0 (i - (0 : Nat))).realm) | _x => D.ints IntKind.i64 (routeAt x0 (i - (0 : Nat))).via) = q16_44 j x0 i
@[reducible] noncomputable def q16_64 (x0 : Nd) : Int := (↑((0 : Nat) + x0.routes.length) : Int)
@[reducible] noncomputable def q16_65 (x0 : Nat) (x1 : Nd) : Bool := decide (q16_6 x0 < q16_64 x1)
@[reducible] def q16_66 (x0 : Nat) (x1 : Nd) : Prop := (0 : Int) ≤ q16_6 x0 ∧ q16_6 x0 < (↑x1.routes.length : Int)
@[reducible] def q16_67 (x0 : Bool) (x1 : Nd) (x2 : Nat) : Prop := x0 = true → (routeAt x1 (q16_6 x2).toNat).via.length = (0 : Nat)
@[reducible] def q16_68 (x0 : Nat) (x1 : Nat) (x2 : Nd) : Prop := q16_38 x0 x1 ∧ (x2.routes.length = x2.routes.length ∧ ∀ (i : Nat), i < x2.routes.length →
  ∀ (j : Nat), j < (2 : Nat) → setRecM (fun (k j : Nat) => q16_44 j x2 k) (q16_6 x0).toNat (1 : Nat) [D.ints IntKind.i64 []] i j = q16_44 j x2 i) ∧ q16_8
@[reducible] def q16_69 (x0 : Nd) : Prop := some (SV.c (Value.int IntKind.i64 (q16_64 x0))) = some (SV.c (Value.int IntKind.i64 (q16_64 x0)))
@[reducible] def q16_70 : Prop := some (SV.a (11 : Nat)) = some (SV.a (11 : Nat)) ∧ q16_42
@[reducible] noncomputable def q16_71 : List SV := [SV.p (6 : Nat) (0 : Nat), q16_29, SV.b false, q16_32, SV.nil, SV.nil, SV.nil, SV.nil]
@[reducible] noncomputable def q16_72 : List SV := SV.m (2 : Nat) :: SV.p (4 : Nat) (0 : Nat) :: q16_71
@[reducible] noncomputable def q16_73 (x0 : Nd) (x1 : Cf) (x2 : Int) (x3 : Int) : Option R := some (R.blk (105 : Nat) (q16_10 x0 :: q16_12 x0 :: q16_14 x0 :: SV.nil :: SV.a (11 : Nat) :: SV.a (0 : Nat) :: q16_16 x1 :: q16_18 x1 :: q16_20 x1 :: q16_22 x1 :: q16_24 x2 :: q16_24 x3 :: SV.nil :: q16_72))
@[reducible] def q16_74 : Prop := some R.dead = some R.dead
@[reducible] noncomputable def q16_75 : Nat := Tryz.prog.types[(3 : Nat)].bytes
@[reducible] def q16_76 (x0 : Nat) (x1 : Nat) (x2 : Nd) : Prop := q16_38 x0 x1 ∧ (x2.routes.length = x2.routes.length ∧ ∀ (i : Nat), i < x2.routes.length →
  ∀ (j : Nat), j < (2 : Nat) → setRecM (fun (k j : Nat) => q16_44 j x2 k) (q16_6 x0).toNat (1 : Nat) [D.ints IntKind.i64 ([] ++ (routeAt x2 (q16_6 x0).toNat).via)] i j = q16_44 j x2 i) ∧
  q16_8
@[reducible] def q16_77 : Prop := SV.a (11 : Nat) = SV.a (11 : Nat)
@[reducible] noncomputable def q16_78 (x0 : Nd) : Option R := some (R.own (91 : Nat) (D.recs (2 : Nat) x0.routes.length fun (k j : Nat) => q16_44 j x0 k))
@[reducible] def q16_79 (x0 : Nd) : Prop := q16_78 x0 = q16_78 x0
@[reducible] def q16_80 (x0 : Nd) : Prop := some (R.own (3 : Nat) (D.ints IntKind.i64 ([] ++ x0.peers))) = some (R.own (3 : Nat) (D.ints IntKind.i64 ([] ++ x0.peers)))
@[reducible] noncomputable def q16_81 (x0 : Nd) : Int := (↑([] ++ x0.peers).length : Int)
@[reducible] noncomputable def q16_82 (x0 : Nat) (x1 : Nd) : Bool := decide (q16_6 x0 < q16_81 x1)
@[reducible] def q16_83 (x0 : Nat) (x1 : Nd) : Prop := (0 : Int) ≤ q16_6 x0 ∧ q16_6 x0 < q16_81 x1
@[reducible] def q16_84 (x0 : Nat) (x1 : Nat) : Prop := q16_38 x0 x1 ∧ q16_58 ∧ q16_8
@[reducible] def q16_85 (x0 : Nd) : Prop := some (SV.c (Value.int IntKind.i64 (q16_81 x0))) = some (SV.c (Value.int IntKind.i64 (q16_81 x0))) ∧ q16_70
@[reducible] noncomputable def q16_86 (x0 : Nd) (x1 : Cf) (x2 : Int) (x3 : Int) : Option R := some (R.blk (105 : Nat) (q16_10 x0 :: q16_12 x0 :: q16_14 x0 :: SV.a (11 : Nat) :: SV.nil :: SV.nil :: q16_16 x1 :: q16_18 x1 :: q16_20 x1 :: q16_22 x1 :: q16_24 x2 :: q16_24 x3 :: SV.a (12 : Nat) :: q16_72))
@[reducible] noncomputable def q16_87 (x0 : Nat) (x1 : Cf) : Option R := some (R.own (9 : Nat) (D.recs (1 : Nat) x0 fun (i _x : Nat) => D.v (Value.string (nodeAt x1 i).host)))
@[reducible] def q16_88 (x0 : Nat) (x1 : Cf) : Prop := q16_87 x0 x1 = q16_87 x0 x1
@[reducible] def q16_89 (x0 : Cf) : Prop := q16_55 ∧ some (R.ro (q16_0 x0)) = some (R.ro (q16_0 x0)) ∧ True
@[reducible] def q16_90 (x0 : Nd) (x1 : Cf) : Prop := q16_80 x0 ∧ q16_74 ∧ q16_46 x0 ∧ q16_47 x0 ∧ q16_49 x1 ∧ q16_51 ∧ q16_53 ∧ q16_54 ∧ q16_89 x1
@[reducible] def q16_91 (x0 : Nd) : Prop := q16_69 x0 ∧ some (SV.a (13 : Nat)) = some (SV.a (13 : Nat)) ∧ q16_42
@[reducible] noncomputable def q16_92 (x0 : Nd) (x1 : Cf) (x2 : Int) (x3 : Int) : Option R := some (R.blk (105 : Nat) (q16_10 x0 :: q16_12 x0 :: q16_14 x0 :: SV.a (11 : Nat) :: SV.a (13 : Nat) :: SV.a (0 : Nat) :: q16_16 x1 :: q16_18 x1 :: q16_20 x1 :: q16_22 x1 :: q16_24 x2 :: q16_24 x3 :: SV.nil :: q16_72))
@[reducible] def q16_93 : Prop := SV.a (13 : Nat) = SV.a (13 : Nat)
@[reducible] noncomputable def q16_94 (x0 : Nd) (x1 : Cf) (x2 : Int) (x3 : Int) : Option R := some (R.blk (105 : Nat) (q16_10 x0 :: q16_12 x0 :: q16_14 x0 :: SV.a (11 : Nat) :: SV.a (13 : Nat) :: SV.nil :: q16_16 x1 :: q16_18 x1 :: q16_20 x1 :: q16_22 x1 :: q16_24 x2 :: q16_24 x3 :: SV.a (14 : Nat) :: q16_72))
@[reducible] def q16_95 : Prop := SV.m (4 : Nat) = SV.m (4 : Nat)
@[reducible] def q16_96 : Prop := SV.p (3 : Nat) (0 : Nat) = SV.p (3 : Nat) (0 : Nat)
@[reducible] def q16_97 (x0 : Cf) (x1 : Int) (x2 : Int) (x3 : Nat) (x4 : Nat) : Prop := SV.nil = SV.nil ∧ q16_17 x0 ∧ q16_19 x0 ∧ q16_21 x0 ∧ q16_23 x0 ∧
  q16_25 x1 ∧ q16_25 x2 ∧ q16_39 x3 x4 x0 ∧ q16_95 ∧ q16_96 ∧ q16_28 ∧ q16_40
@[reducible] def q16_98 (x0 : Cf) : Prop := some (R.blk (173 : Nat) [SV.nil, SV.m (2 : Nat)]) = some (R.blk (173 : Nat) [SV.nil, SV.m (2 : Nat)]) ∧ q16_89 x0
@[reducible] noncomputable def q16_99 : List SV := SV.m (4 : Nat) :: SV.p (3 : Nat) (0 : Nat) :: q16_71
@[reducible] noncomputable def q16_100 (x0 : Nd) (x1 : Cf) (x2 : Int) (x3 : Int) : Option R := some (R.blk (105 : Nat) (q16_10 x0 :: q16_12 x0 :: q16_14 x0 :: SV.nil :: SV.a (11 : Nat) :: SV.a (0 : Nat) :: q16_16 x1 :: q16_18 x1 :: q16_20 x1 :: q16_22 x1 :: q16_24 x2 :: q16_24 x3 :: SV.nil :: q16_99))
@[reducible] def q16_101 (x0 : Nd) (x1 : Cf) : Prop := q16_74 ∧ q16_46 x0 ∧ q16_47 x0 ∧ q16_49 x1 ∧ q16_51 ∧ q16_53 ∧ q16_56 ∧ q16_98 x1
@[reducible] noncomputable def q16_102 (x0 : Nd) (x1 : Cf) (x2 : Int) (x3 : Int) : Option R := some (R.blk (105 : Nat) (q16_10 x0 :: q16_12 x0 :: q16_14 x0 :: SV.a (11 : Nat) :: SV.nil :: SV.nil :: q16_16 x1 :: q16_18 x1 :: q16_20 x1 :: q16_22 x1 :: q16_24 x2 :: q16_24 x3 :: SV.a (12 : Nat) :: q16_99))
@[reducible] def q16_103 (x0 : Nd) (x1 : Cf) : Prop := q16_80 x0 ∧ q16_74 ∧ q16_46 x0 ∧ q16_47 x0 ∧ q16_49 x1 ∧ q16_51 ∧ q16_53 ∧ q16_98 x1
@[reducible] noncomputable def q16_104 (x0 : Nd) (x1 : Cf) (x2 : Int) (x3 : Int) : Option R := some (R.blk (105 : Nat) (q16_10 x0 :: q16_12 x0 :: q16_14 x0 :: SV.a (11 : Nat) :: SV.a (13 : Nat) :: SV.a (0 : Nat) :: q16_16 x1 :: q16_18 x1 :: q16_20 x1 :: q16_22 x1 :: q16_24 x2 :: q16_24 x3 :: SV.nil :: q16_99))
@[reducible] noncomputable def q16_105 (x0 : Nd) (x1 : Cf) (x2 : Int) (x3 : Int) : Option R := some (R.blk (105 : Nat) (q16_10 x0 :: q16_12 x0 :: q16_14 x0 :: SV.a (11 : Nat) :: SV.a (13 : Nat) :: SV.nil :: q16_16 x1 :: q16_18 x1 :: q16_20 x1 :: q16_22 x1 :: q16_24 x2 :: q16_24 x3 :: SV.a (14 : Nat) :: q16_99))
@[reducible] def q16_106 : Prop := SV.m (6 : Nat) = SV.m (6 : Nat)
@[reducible] def q16_107 : Prop := SV.p (5 : Nat) (0 : Nat) = SV.p (5 : Nat) (0 : Nat)
@[reducible] def q16_108 (x0 : Cf) (x1 : Int) (x2 : Int) (x3 : Nat) (x4 : Nat) : Prop := SV.nil = SV.nil ∧ q16_17 x0 ∧ q16_19 x0 ∧ q16_21 x0 ∧ q16_23 x0 ∧
  q16_25 x1 ∧ q16_25 x2 ∧ q16_39 x3 x4 x0 ∧ q16_106 ∧ q16_96 ∧ q16_107 ∧ q16_40
@[reducible] noncomputable def q16_109 : Option R := some (R.blk (176 : Nat) [SV.m (4 : Nat), SV.c (Value.int IntKind.u32 (0 : Int)), q16_32])
@[reducible] def q16_110 (x0 : Nd) (x1 : Cf) : Prop := q16_46 x0 ∧ q16_47 x0 ∧ q16_49 x1 ∧ q16_56 ∧ q16_109 = q16_109 ∧ q16_53 ∧ q16_98 x1
@[reducible] noncomputable def q16_111 : List SV := [SV.m (6 : Nat), SV.p (3 : Nat) (0 : Nat), SV.p (5 : Nat) (0 : Nat), q16_29, SV.b false, q16_32, SV.nil, SV.nil, SV.nil, SV.nil]
@[reducible] noncomputable def q16_112 (x0 : Nd) (x1 : Cf) (x2 : Int) (x3 : Int) : Option R := some (R.blk (105 : Nat) (q16_10 x0 :: q16_12 x0 :: q16_14 x0 :: SV.nil :: SV.a (11 : Nat) :: SV.a (0 : Nat) :: q16_16 x1 :: q16_18 x1 :: q16_20 x1 :: q16_22 x1 :: q16_24 x2 :: q16_24 x3 :: SV.nil :: q16_111))
@[reducible] noncomputable def q16_113 (x0 : Nd) (x1 : Cf) (x2 : Int) (x3 : Int) : Option R := some (R.blk (105 : Nat) (q16_10 x0 :: q16_12 x0 :: q16_14 x0 :: SV.a (11 : Nat) :: SV.nil :: SV.nil :: q16_16 x1 :: q16_18 x1 :: q16_20 x1 :: q16_22 x1 :: q16_24 x2 :: q16_24 x3 :: SV.a (12 : Nat) :: q16_111))
@[reducible] def q16_114 (x0 : Nd) (x1 : Cf) : Prop := q16_80 x0 ∧ q16_74 ∧ q16_46 x0 ∧ q16_47 x0 ∧ q16_49 x1 ∧ q16_109 = q16_109 ∧ q16_53 ∧ q16_98 x1
@[reducible] noncomputable def q16_115 (x0 : Nd) (x1 : Cf) (x2 : Int) (x3 : Int) : Option R := some (R.blk (105 : Nat) (q16_10 x0 :: q16_12 x0 :: q16_14 x0 :: SV.a (11 : Nat) :: SV.a (13 : Nat) :: SV.a (0 : Nat) :: q16_16 x1 :: q16_18 x1 :: q16_20 x1 :: q16_22 x1 :: q16_24 x2 :: q16_24 x3 :: SV.nil :: q16_111))
@[reducible] noncomputable def q16_116 (x0 : Nd) (x1 : Cf) (x2 : Int) (x3 : Int) : Option R := some (R.blk (105 : Nat) (q16_10 x0 :: q16_12 x0 :: q16_14 x0 :: SV.a (11 : Nat) :: SV.a (13 : Nat) :: SV.nil :: q16_16 x1 :: q16_18 x1 :: q16_20 x1 :: q16_22 x1 :: q16_24 x2 :: q16_24 x3 :: SV.a (14 : Nat) :: q16_111))
set_option maxHeartbeats 4000000 in
theorem vc16 : ∀ (c : Cf) (me : Int), have y := nodeAt c me.toNat; ∀ (boot : Int), smC c → soundB c = true → Fine c me boot → (∃ (c_1 : Cf), q16_1 c = q16_1 c_1 ∧ smC c_1) ∧
  True ∧ sw (!decide (soundF (cfOf [cfO c]) = (0 : Int))) False (True ∧ True ∧ sw (decide ((0 : Int) ≤ me)) (True ∧ sw (!decide (me ≤ IntKind.i64.wrap (q16_2 c - (1 : Int)))) False (True ∧
  sw (decide ((0 : Int) ≤ boot)) (True ∧ sw (!decide (boot ≤ (1099511627776 : Int))) False (((((((0 : Int) ≤ me ∧ me < q16_2 c) ∧ ∀ (t : Bool), (t = true →
  q16_3 y = (0 : Nat)) → sw t (∀ (t_1 : Bool), q16_4 t_1 y → sw t_1 (∃ (g0 : Nat), q16_5 g0 y ∧ q16_7 g0 ∧ q16_8 ∧ ∀ (g : Nat), q16_5 g y → True ∧ ∃ (g0_1 : Nat), q16_9 g0_1 c ∧
  q16_7 g0_1 ∧ q16_11 y ∧ q16_13 y ∧ q16_15 y ∧ SV.nil = SV.nil ∧ SV.nil = SV.nil ∧ SV.nil = SV.nil ∧ q16_17 c ∧ q16_19 c ∧ q16_21 c ∧ q16_23 c ∧ q16_25 me ∧
  q16_25 boot ∧ g0_1 = (0 : Nat) ∧ q16_26 ∧ q16_27 ∧ q16_28 ∧ q16_30 ∧ q16_31 ∧ q16_33 ∧ SV.nil = SV.nil ∧ SV.nil = SV.nil ∧ SV.nil = SV.nil ∧ SV.nil = SV.nil ∧
  q16_8 ∧ ∀ (g_1 : Nat), q16_9 g_1 c → True ∧ sw (q16_34 g_1 c) (q16_35 g_1 c ∧ ((True ∧ (g_1 + (1 : Nat)) * q16_37.bytes ≤ (140737488355328 : Nat) ∧ (True ∧
  ∃ (g' : Nat), q16_9 g' c ∧ c.nodes.length - g' < c.nodes.length - g_1 ∧ (q16_38 g_1 g' ∧ q16_11 y ∧ q16_13 y ∧ q16_15 y ∧ SV.nil = SV.nil ∧ SV.nil = SV.nil ∧
  q16_41 c me boot g_1 g') ∧ q16_43 c ∧ q16_57 y c) ∧ True) ∧ True) ∧ True) (q16_61 y c)) (True ∧ ((0 : Nat) + y.routes.length) * q16_62.bytes ≤ (140737488355328 : Nat) ∧
  ∃ (g0 : Nat), q16_5 g0 y ∧ q16_7 g0 ∧ q16_63 y ∧ q16_8 ∧ ∀ (g : Nat), q16_5 g y → True ∧ sw (q16_65 g y) (q16_66 g y ∧ (∀ (t_2 : Bool), q16_67 t_2 y g →
  sw t_2 (q16_66 g y ∧ (True ∧ ∃ (g' : Nat), q16_5 g' y ∧ y.routes.length - g' < y.routes.length - g ∧ q16_68 g g' y ∧ (q16_69 y ∧ q16_70) ∧ q16_73 y c me boot = q16_73 y c me boot ∧
  q16_74 ∧ q16_57 y c) ∧ True) (True ∧ ((0 : Nat) + (routeAt y (q16_6 g).toNat).via.length) * q16_75 ≤ (140737488355328 : Nat) ∧ q16_66 g y ∧ (True ∧ ∃ (g' : Nat), q16_5 g' y ∧
  y.routes.length - g' < y.routes.length - g ∧ q16_76 g g' y ∧ (q16_69 y ∧ q16_70) ∧ q16_73 y c me boot = q16_73 y c me boot ∧ q16_74 ∧ q16_57 y c) ∧ True)) ∧
  True) (∃ (g0_1 : Nat), q16_9 g0_1 c ∧ q16_7 g0_1 ∧ q16_11 y ∧ q16_13 y ∧ q16_15 y ∧ SV.nil = SV.nil ∧ q16_77 ∧ SV.nil = SV.nil ∧ q16_17 c ∧ q16_19 c ∧ q16_21 c ∧
  q16_23 c ∧ q16_25 me ∧ q16_25 boot ∧ g0_1 = (0 : Nat) ∧ q16_26 ∧ q16_27 ∧ q16_28 ∧ q16_30 ∧ q16_31 ∧ q16_33 ∧ SV.nil = SV.nil ∧ SV.nil = SV.nil ∧ SV.nil = SV.nil ∧
  SV.nil = SV.nil ∧ q16_8 ∧ ∀ (g_1 : Nat), q16_9 g_1 c → True ∧ sw (q16_34 g_1 c) (q16_35 g_1 c ∧ ((True ∧ (g_1 + (1 : Nat)) * q16_37.bytes ≤ (140737488355328 : Nat) ∧
  (True ∧ ∃ (g' : Nat), q16_9 g' c ∧ c.nodes.length - g' < c.nodes.length - g_1 ∧ (q16_38 g_1 g' ∧ q16_11 y ∧ q16_13 y ∧ q16_15 y ∧ SV.nil = SV.nil ∧ q16_77 ∧
  q16_41 c me boot g_1 g') ∧ q16_43 c ∧ q16_79 y ∧ q16_74 ∧ q16_57 y c) ∧ True) ∧ True) ∧ True) (q16_61 y c)))) (True ∧ ((0 : Nat) + q16_3 y) * q16_75 ≤ (140737488355328 : Nat) ∧
  ∀ (t_1 : Bool), q16_4 t_1 y → sw t_1 (∃ (g0 : Nat), q16_5 g0 y ∧ q16_7 g0 ∧ q16_8 ∧ ∀ (g : Nat), q16_5 g y → True ∧ ∃ (g0_1 : Nat), q16_9 g0_1 c ∧ q16_7 g0_1 ∧
  q16_11 y ∧ q16_13 y ∧ q16_15 y ∧ q16_77 ∧ SV.nil = SV.nil ∧ SV.nil = SV.nil ∧ q16_17 c ∧ q16_19 c ∧ q16_21 c ∧ q16_23 c ∧ q16_25 me ∧ q16_25 boot ∧ g0_1 = (0 : Nat) ∧
  q16_26 ∧ q16_27 ∧ q16_28 ∧ q16_30 ∧ q16_31 ∧ q16_33 ∧ SV.nil = SV.nil ∧ SV.nil = SV.nil ∧ SV.nil = SV.nil ∧ SV.nil = SV.nil ∧ q16_8 ∧ ∀ (g_1 : Nat), q16_9 g_1 c →
  True ∧ sw (q16_34 g_1 c) (q16_35 g_1 c ∧ ((True ∧ (g_1 + (1 : Nat)) * q16_37.bytes ≤ (140737488355328 : Nat) ∧ (True ∧ ∃ (g' : Nat), q16_9 g' c ∧ c.nodes.length - g' < c.nodes.length - g_1 ∧
  (q16_38 g_1 g' ∧ q16_11 y ∧ q16_13 y ∧ q16_15 y ∧ q16_77 ∧ SV.nil = SV.nil ∧ q16_41 c me boot g_1 g') ∧ q16_43 c ∧ q16_80 y ∧ q16_74 ∧ q16_57 y c) ∧ True) ∧
  True) ∧ True) (∃ (g0_2 : Nat), g0_2 ≤ q16_3 y ∧ q16_7 g0_2 ∧ q16_58 ∧ q16_8 ∧ ∀ (g_2 : Nat), g_2 ≤ q16_3 y → ∀ (_ks : List Int) (_bn : List Nat) (_clock : Nat), True ∧
  sw (q16_82 g_2 y) (q16_83 g_2 y ∧ True ∧ ∃ (g' : Nat), g' ≤ q16_3 y ∧ q16_3 y - g' < q16_3 y - g_2 ∧ q16_84 g_2 g' ∧ q16_85 y ∧ q16_86 y c me boot = q16_86 y c me boot ∧
  q16_88 g_1 c ∧ q16_90 y c) (q16_60 c))) (True ∧ ((0 : Nat) + y.routes.length) * q16_62.bytes ≤ (140737488355328 : Nat) ∧ ∃ (g0 : Nat), q16_5 g0 y ∧ q16_7 g0 ∧
  q16_63 y ∧ q16_8 ∧ ∀ (g : Nat), q16_5 g y → True ∧ sw (q16_65 g y) (q16_66 g y ∧ (∀ (t_2 : Bool), q16_67 t_2 y g → sw t_2 (q16_66 g y ∧ (True ∧ ∃ (g' : Nat), q16_5 g' y ∧
  y.routes.length - g' < y.routes.length - g ∧ q16_68 g g' y ∧ q16_91 y ∧ q16_92 y c me boot = q16_92 y c me boot ∧ q16_74 ∧ q16_80 y ∧ q16_74 ∧ q16_57 y c) ∧
  True) (True ∧ ((0 : Nat) + (routeAt y (q16_6 g).toNat).via.length) * q16_75 ≤ (140737488355328 : Nat) ∧ q16_66 g y ∧ (True ∧ ∃ (g' : Nat), q16_5 g' y ∧
  y.routes.length - g' < y.routes.length - g ∧ q16_76 g g' y ∧ q16_91 y ∧ q16_92 y c me boot = q16_92 y c me boot ∧ q16_74 ∧ q16_80 y ∧ q16_74 ∧ q16_57 y c) ∧
  True)) ∧ True) (∃ (g0_1 : Nat), q16_9 g0_1 c ∧ q16_7 g0_1 ∧ q16_11 y ∧ q16_13 y ∧ q16_15 y ∧ q16_77 ∧ q16_93 ∧ SV.nil = SV.nil ∧ q16_17 c ∧ q16_19 c ∧ q16_21 c ∧
  q16_23 c ∧ q16_25 me ∧ q16_25 boot ∧ g0_1 = (0 : Nat) ∧ q16_26 ∧ q16_27 ∧ q16_28 ∧ q16_30 ∧ q16_31 ∧ q16_33 ∧ SV.nil = SV.nil ∧ SV.nil = SV.nil ∧ SV.nil = SV.nil ∧
  SV.nil = SV.nil ∧ q16_8 ∧ ∀ (g_1 : Nat), q16_9 g_1 c → True ∧ sw (q16_34 g_1 c) (q16_35 g_1 c ∧ ((True ∧ (g_1 + (1 : Nat)) * q16_37.bytes ≤ (140737488355328 : Nat) ∧
  (True ∧ ∃ (g' : Nat), q16_9 g' c ∧ c.nodes.length - g' < c.nodes.length - g_1 ∧ (q16_38 g_1 g' ∧ q16_11 y ∧ q16_13 y ∧ q16_15 y ∧ q16_77 ∧ q16_93 ∧ q16_41 c me boot g_1 g') ∧
  q16_43 c ∧ q16_79 y ∧ q16_74 ∧ q16_80 y ∧ q16_74 ∧ q16_57 y c) ∧ True) ∧ True) ∧ True) (∃ (g0_2 : Nat), g0_2 ≤ q16_3 y ∧ q16_7 g0_2 ∧ q16_58 ∧ q16_8 ∧ ∀ (g_2 : Nat), g_2 ≤ q16_3 y →
  ∀ (_ks : List Int) (_bn : List Nat) (_clock : Nat), True ∧ sw (q16_82 g_2 y) (q16_83 g_2 y ∧ True ∧ ∃ (g' : Nat), g' ≤ q16_3 y ∧ q16_3 y - g' < q16_3 y - g_2 ∧
  q16_84 g_2 g' ∧ q16_85 y ∧ q16_94 y c me boot = q16_94 y c me boot ∧ q16_88 g_1 c ∧ q16_79 y ∧ q16_74 ∧ q16_90 y c) (q16_60 c)))))) ∧ True) ∧ True) ∧ True) ∧
  ((((((0 : Int) ≤ me ∧ me < q16_2 c) ∧ ∀ (t : Bool), (t = true → q16_3 y = (0 : Nat)) → sw t (∀ (t_1 : Bool), q16_4 t_1 y → sw t_1 (∃ (g0 : Nat), q16_5 g0 y ∧
  q16_7 g0 ∧ q16_8 ∧ ∀ (g : Nat), q16_5 g y → True ∧ ∃ (g0_1 : Nat), q16_9 g0_1 c ∧ q16_7 g0_1 ∧ q16_11 y ∧ q16_13 y ∧ q16_15 y ∧ SV.nil = SV.nil ∧ SV.nil = SV.nil ∧
  SV.nil = SV.nil ∧ q16_17 c ∧ q16_19 c ∧ q16_21 c ∧ q16_23 c ∧ q16_25 me ∧ q16_25 boot ∧ g0_1 = (0 : Nat) ∧ q16_95 ∧ q16_96 ∧ q16_28 ∧ q16_30 ∧ q16_31 ∧
  q16_33 ∧ SV.nil = SV.nil ∧ SV.nil = SV.nil ∧ SV.nil = SV.nil ∧ SV.nil = SV.nil ∧ q16_8 ∧ ∀ (g_1 : Nat), q16_9 g_1 c → True ∧ sw (q16_34 g_1 c) (q16_35 g_1 c ∧
  ((True ∧ (g_1 + (1 : Nat)) * q16_37.bytes ≤ (140737488355328 : Nat) ∧ (True ∧ ∃ (g' : Nat), q16_9 g' c ∧ c.nodes.length - g' < c.nodes.length - g_1 ∧ (q16_38 g_1 g' ∧
  q16_11 y ∧ q16_13 y ∧ q16_15 y ∧ SV.nil = SV.nil ∧ SV.nil = SV.nil ∧ q16_97 c me boot g_1 g') ∧ q16_43 c ∧ q16_46 y ∧ q16_47 y ∧ q16_49 c ∧ q16_51 ∧ q16_53 ∧
  q16_56 ∧ q16_98 c) ∧ True) ∧ True) ∧ True) (q16_61 y c)) (True ∧ ((0 : Nat) + y.routes.length) * q16_62.bytes ≤ (140737488355328 : Nat) ∧ ∃ (g0 : Nat), q16_5 g0 y ∧
  q16_7 g0 ∧ q16_63 y ∧ q16_8 ∧ ∀ (g : Nat), q16_5 g y → True ∧ sw (q16_65 g y) (q16_66 g y ∧ (∀ (t_2 : Bool), q16_67 t_2 y g → sw t_2 (q16_66 g y ∧ (True ∧
  ∃ (g' : Nat), q16_5 g' y ∧ y.routes.length - g' < y.routes.length - g ∧ q16_68 g g' y ∧ (q16_69 y ∧ q16_70) ∧ q16_100 y c me boot = q16_100 y c me boot ∧
  q16_101 y c) ∧ True) (True ∧ ((0 : Nat) + (routeAt y (q16_6 g).toNat).via.length) * q16_75 ≤ (140737488355328 : Nat) ∧ q16_66 g y ∧ (True ∧ ∃ (g' : Nat), q16_5 g' y ∧
  y.routes.length - g' < y.routes.length - g ∧ q16_76 g g' y ∧ (q16_69 y ∧ q16_70) ∧ q16_100 y c me boot = q16_100 y c me boot ∧ q16_101 y c) ∧ True)) ∧ True) (∃ (g0_1 : Nat), q16_9 g0_1 c ∧
  q16_7 g0_1 ∧ q16_11 y ∧ q16_13 y ∧ q16_15 y ∧ SV.nil = SV.nil ∧ q16_77 ∧ SV.nil = SV.nil ∧ q16_17 c ∧ q16_19 c ∧ q16_21 c ∧ q16_23 c ∧ q16_25 me ∧ q16_25 boot ∧
  g0_1 = (0 : Nat) ∧ q16_95 ∧ q16_96 ∧ q16_28 ∧ q16_30 ∧ q16_31 ∧ q16_33 ∧ SV.nil = SV.nil ∧ SV.nil = SV.nil ∧ SV.nil = SV.nil ∧ SV.nil = SV.nil ∧ q16_8 ∧
  ∀ (g_1 : Nat), q16_9 g_1 c → True ∧ sw (q16_34 g_1 c) (q16_35 g_1 c ∧ ((True ∧ (g_1 + (1 : Nat)) * q16_37.bytes ≤ (140737488355328 : Nat) ∧ (True ∧ ∃ (g' : Nat), q16_9 g' c ∧
  c.nodes.length - g' < c.nodes.length - g_1 ∧ (q16_38 g_1 g' ∧ q16_11 y ∧ q16_13 y ∧ q16_15 y ∧ SV.nil = SV.nil ∧ q16_77 ∧ q16_97 c me boot g_1 g') ∧ q16_43 c ∧
  q16_79 y ∧ q16_101 y c) ∧ True) ∧ True) ∧ True) (q16_61 y c)))) (True ∧ ((0 : Nat) + q16_3 y) * q16_75 ≤ (140737488355328 : Nat) ∧ ∀ (t_1 : Bool), q16_4 t_1 y →
  sw t_1 (∃ (g0 : Nat), q16_5 g0 y ∧ q16_7 g0 ∧ q16_8 ∧ ∀ (g : Nat), q16_5 g y → True ∧ ∃ (g0_1 : Nat), q16_9 g0_1 c ∧ q16_7 g0_1 ∧ q16_11 y ∧ q16_13 y ∧
  q16_15 y ∧ q16_77 ∧ SV.nil = SV.nil ∧ SV.nil = SV.nil ∧ q16_17 c ∧ q16_19 c ∧ q16_21 c ∧ q16_23 c ∧ q16_25 me ∧ q16_25 boot ∧ g0_1 = (0 : Nat) ∧ q16_95 ∧
  q16_96 ∧ q16_28 ∧ q16_30 ∧ q16_31 ∧ q16_33 ∧ SV.nil = SV.nil ∧ SV.nil = SV.nil ∧ SV.nil = SV.nil ∧ SV.nil = SV.nil ∧ q16_8 ∧ ∀ (g_1 : Nat), q16_9 g_1 c →
  True ∧ sw (q16_34 g_1 c) (q16_35 g_1 c ∧ ((True ∧ (g_1 + (1 : Nat)) * q16_37.bytes ≤ (140737488355328 : Nat) ∧ (True ∧ ∃ (g' : Nat), q16_9 g' c ∧ c.nodes.length - g' < c.nodes.length - g_1 ∧
  (q16_38 g_1 g' ∧ q16_11 y ∧ q16_13 y ∧ q16_15 y ∧ q16_77 ∧ SV.nil = SV.nil ∧ q16_97 c me boot g_1 g') ∧ q16_43 c ∧ q16_80 y ∧ q16_101 y c) ∧ True) ∧ True) ∧
  True) (∃ (g0_2 : Nat), g0_2 ≤ q16_3 y ∧ q16_7 g0_2 ∧ q16_58 ∧ q16_8 ∧ ∀ (g_2 : Nat), g_2 ≤ q16_3 y → ∀ (_ks : List Int) (_bn : List Nat) (_clock : Nat), True ∧
  sw (q16_82 g_2 y) (q16_83 g_2 y ∧ True ∧ ∃ (g' : Nat), g' ≤ q16_3 y ∧ q16_3 y - g' < q16_3 y - g_2 ∧ q16_84 g_2 g' ∧ q16_85 y ∧ q16_102 y c me boot = q16_102 y c me boot ∧
  q16_88 g_1 c ∧ q16_103 y c) (q16_60 c))) (True ∧ ((0 : Nat) + y.routes.length) * q16_62.bytes ≤ (140737488355328 : Nat) ∧ ∃ (g0 : Nat), q16_5 g0 y ∧ q16_7 g0 ∧
  q16_63 y ∧ q16_8 ∧ ∀ (g : Nat), q16_5 g y → True ∧ sw (q16_65 g y) (q16_66 g y ∧ (∀ (t_2 : Bool), q16_67 t_2 y g → sw t_2 (q16_66 g y ∧ (True ∧ ∃ (g' : Nat), q16_5 g' y ∧
  y.routes.length - g' < y.routes.length - g ∧ q16_68 g g' y ∧ q16_91 y ∧ q16_104 y c me boot = q16_104 y c me boot ∧ q16_74 ∧ q16_80 y ∧ q16_101 y c) ∧ True) (True ∧
  ((0 : Nat) + (routeAt y (q16_6 g).toNat).via.length) * q16_75 ≤ (140737488355328 : Nat) ∧ q16_66 g y ∧ (True ∧ ∃ (g' : Nat), q16_5 g' y ∧ y.routes.length - g' < y.routes.length - g ∧
  q16_76 g g' y ∧ q16_91 y ∧ q16_104 y c me boot = q16_104 y c me boot ∧ q16_74 ∧ q16_80 y ∧ q16_101 y c) ∧ True)) ∧ True) (∃ (g0_1 : Nat), q16_9 g0_1 c ∧
  q16_7 g0_1 ∧ q16_11 y ∧ q16_13 y ∧ q16_15 y ∧ q16_77 ∧ q16_93 ∧ SV.nil = SV.nil ∧ q16_17 c ∧ q16_19 c ∧ q16_21 c ∧ q16_23 c ∧ q16_25 me ∧ q16_25 boot ∧
  g0_1 = (0 : Nat) ∧ q16_95 ∧ q16_96 ∧ q16_28 ∧ q16_30 ∧ q16_31 ∧ q16_33 ∧ SV.nil = SV.nil ∧ SV.nil = SV.nil ∧ SV.nil = SV.nil ∧ SV.nil = SV.nil ∧ q16_8 ∧
  ∀ (g_1 : Nat), q16_9 g_1 c → True ∧ sw (q16_34 g_1 c) (q16_35 g_1 c ∧ ((True ∧ (g_1 + (1 : Nat)) * q16_37.bytes ≤ (140737488355328 : Nat) ∧ (True ∧ ∃ (g' : Nat), q16_9 g' c ∧
  c.nodes.length - g' < c.nodes.length - g_1 ∧ (q16_38 g_1 g' ∧ q16_11 y ∧ q16_13 y ∧ q16_15 y ∧ q16_77 ∧ q16_93 ∧ q16_97 c me boot g_1 g') ∧ q16_43 c ∧ q16_79 y ∧
  q16_74 ∧ q16_80 y ∧ q16_101 y c) ∧ True) ∧ True) ∧ True) (∃ (g0_2 : Nat), g0_2 ≤ q16_3 y ∧ q16_7 g0_2 ∧ q16_58 ∧ q16_8 ∧ ∀ (g_2 : Nat), g_2 ≤ q16_3 y →
  ∀ (_ks : List Int) (_bn : List Nat) (_clock : Nat), True ∧ sw (q16_82 g_2 y) (q16_83 g_2 y ∧ True ∧ ∃ (g' : Nat), g' ≤ q16_3 y ∧ q16_3 y - g' < q16_3 y - g_2 ∧
  q16_84 g_2 g' ∧ q16_85 y ∧ q16_105 y c me boot = q16_105 y c me boot ∧ q16_88 g_1 c ∧ q16_79 y ∧ q16_74 ∧ q16_103 y c) (q16_60 c)))))) ∧ True) ∧ True) ∧
  (((((0 : Int) ≤ me ∧ me < q16_2 c) ∧ ∀ (t : Bool), (t = true → q16_3 y = (0 : Nat)) → sw t (∀ (t_1 : Bool), q16_4 t_1 y → sw t_1 (∃ (g0 : Nat), q16_5 g0 y ∧
  q16_7 g0 ∧ q16_8 ∧ ∀ (g : Nat), q16_5 g y → True ∧ ∃ (g0_1 : Nat), q16_9 g0_1 c ∧ q16_7 g0_1 ∧ q16_11 y ∧ q16_13 y ∧ q16_15 y ∧ SV.nil = SV.nil ∧ SV.nil = SV.nil ∧
  SV.nil = SV.nil ∧ q16_17 c ∧ q16_19 c ∧ q16_21 c ∧ q16_23 c ∧ q16_25 me ∧ q16_25 boot ∧ g0_1 = (0 : Nat) ∧ q16_106 ∧ q16_96 ∧ q16_107 ∧ q16_30 ∧ q16_31 ∧
  q16_33 ∧ SV.nil = SV.nil ∧ SV.nil = SV.nil ∧ SV.nil = SV.nil ∧ SV.nil = SV.nil ∧ q16_8 ∧ ∀ (g_1 : Nat), q16_9 g_1 c → True ∧ sw (q16_34 g_1 c) (q16_35 g_1 c ∧
  ((True ∧ (g_1 + (1 : Nat)) * q16_37.bytes ≤ (140737488355328 : Nat) ∧ (True ∧ ∃ (g' : Nat), q16_9 g' c ∧ c.nodes.length - g' < c.nodes.length - g_1 ∧ (q16_38 g_1 g' ∧
  q16_11 y ∧ q16_13 y ∧ q16_15 y ∧ SV.nil = SV.nil ∧ SV.nil = SV.nil ∧ q16_108 c me boot g_1 g') ∧ q16_43 c ∧ q16_110 y c) ∧ True) ∧ True) ∧ True) (q16_61 y c)) (True ∧
  ((0 : Nat) + y.routes.length) * q16_62.bytes ≤ (140737488355328 : Nat) ∧ ∃ (g0 : Nat), q16_5 g0 y ∧ q16_7 g0 ∧ q16_63 y ∧ q16_8 ∧ ∀ (g : Nat), q16_5 g y →
  True ∧ sw (q16_65 g y) (q16_66 g y ∧ (∀ (t_2 : Bool), q16_67 t_2 y g → sw t_2 (q16_66 g y ∧ (True ∧ ∃ (g' : Nat), q16_5 g' y ∧ y.routes.length - g' < y.routes.length - g ∧
  q16_68 g g' y ∧ (q16_69 y ∧ q16_70) ∧ q16_112 y c me boot = q16_112 y c me boot ∧ q16_74 ∧ q16_110 y c) ∧ True) (True ∧ ((0 : Nat) + (routeAt y (q16_6 g).toNat).via.length) * q16_75 ≤ (140737488355328 : Nat) ∧
  q16_66 g y ∧ (True ∧ ∃ (g' : Nat), q16_5 g' y ∧ y.routes.length - g' < y.routes.length - g ∧ q16_76 g g' y ∧ (q16_69 y ∧ q16_70) ∧ q16_112 y c me boot = q16_112 y c me boot ∧
  q16_74 ∧ q16_110 y c) ∧ True)) ∧ True) (∃ (g0_1 : Nat), q16_9 g0_1 c ∧ q16_7 g0_1 ∧ q16_11 y ∧ q16_13 y ∧ q16_15 y ∧ SV.nil = SV.nil ∧ q16_77 ∧ SV.nil = SV.nil ∧
  q16_17 c ∧ q16_19 c ∧ q16_21 c ∧ q16_23 c ∧ q16_25 me ∧ q16_25 boot ∧ g0_1 = (0 : Nat) ∧ q16_106 ∧ q16_96 ∧ q16_107 ∧ q16_30 ∧ q16_31 ∧ q16_33 ∧ SV.nil = SV.nil ∧
  SV.nil = SV.nil ∧ SV.nil = SV.nil ∧ SV.nil = SV.nil ∧ q16_8 ∧ ∀ (g_1 : Nat), q16_9 g_1 c → True ∧ sw (q16_34 g_1 c) (q16_35 g_1 c ∧ ((True ∧ (g_1 + (1 : Nat)) * q16_37.bytes ≤ (140737488355328 : Nat) ∧
  (True ∧ ∃ (g' : Nat), q16_9 g' c ∧ c.nodes.length - g' < c.nodes.length - g_1 ∧ (q16_38 g_1 g' ∧ q16_11 y ∧ q16_13 y ∧ q16_15 y ∧ SV.nil = SV.nil ∧ q16_77 ∧
  q16_108 c me boot g_1 g') ∧ q16_43 c ∧ q16_79 y ∧ q16_74 ∧ q16_110 y c) ∧ True) ∧ True) ∧ True) (q16_61 y c)))) (True ∧ ((0 : Nat) + q16_3 y) * q16_75 ≤ (140737488355328 : Nat) ∧
  ∀ (t_1 : Bool), q16_4 t_1 y → sw t_1 (∃ (g0 : Nat), q16_5 g0 y ∧ q16_7 g0 ∧ q16_8 ∧ ∀ (g : Nat), q16_5 g y → True ∧ ∃ (g0_1 : Nat), q16_9 g0_1 c ∧ q16_7 g0_1 ∧
  q16_11 y ∧ q16_13 y ∧ q16_15 y ∧ q16_77 ∧ SV.nil = SV.nil ∧ SV.nil = SV.nil ∧ q16_17 c ∧ q16_19 c ∧ q16_21 c ∧ q16_23 c ∧ q16_25 me ∧ q16_25 boot ∧ g0_1 = (0 : Nat) ∧
  q16_106 ∧ q16_96 ∧ q16_107 ∧ q16_30 ∧ q16_31 ∧ q16_33 ∧ SV.nil = SV.nil ∧ SV.nil = SV.nil ∧ SV.nil = SV.nil ∧ SV.nil = SV.nil ∧ q16_8 ∧ ∀ (g_1 : Nat), q16_9 g_1 c →
  True ∧ sw (q16_34 g_1 c) (q16_35 g_1 c ∧ ((True ∧ (g_1 + (1 : Nat)) * q16_37.bytes ≤ (140737488355328 : Nat) ∧ (True ∧ ∃ (g' : Nat), q16_9 g' c ∧ c.nodes.length - g' < c.nodes.length - g_1 ∧
  (q16_38 g_1 g' ∧ q16_11 y ∧ q16_13 y ∧ q16_15 y ∧ q16_77 ∧ SV.nil = SV.nil ∧ q16_108 c me boot g_1 g') ∧ q16_43 c ∧ q16_80 y ∧ q16_74 ∧ q16_110 y c) ∧ True) ∧
  True) ∧ True) (∃ (g0_2 : Nat), g0_2 ≤ q16_3 y ∧ q16_7 g0_2 ∧ q16_58 ∧ q16_8 ∧ ∀ (g_2 : Nat), g_2 ≤ q16_3 y → ∀ (_ks : List Int) (_bn : List Nat) (_clock : Nat), True ∧
  sw (q16_82 g_2 y) (q16_83 g_2 y ∧ True ∧ ∃ (g' : Nat), g' ≤ q16_3 y ∧ q16_3 y - g' < q16_3 y - g_2 ∧ q16_84 g_2 g' ∧ q16_85 y ∧ q16_113 y c me boot = q16_113 y c me boot ∧
  q16_88 g_1 c ∧ q16_114 y c) (q16_60 c))) (True ∧ ((0 : Nat) + y.routes.length) * q16_62.bytes ≤ (140737488355328 : Nat) ∧ ∃ (g0 : Nat), q16_5 g0 y ∧ q16_7 g0 ∧
  q16_63 y ∧ q16_8 ∧ ∀ (g : Nat), q16_5 g y → True ∧ sw (q16_65 g y) (q16_66 g y ∧ (∀ (t_2 : Bool), q16_67 t_2 y g → sw t_2 (q16_66 g y ∧ (True ∧ ∃ (g' : Nat), q16_5 g' y ∧
  y.routes.length - g' < y.routes.length - g ∧ q16_68 g g' y ∧ q16_91 y ∧ q16_115 y c me boot = q16_115 y c me boot ∧ q16_74 ∧ q16_80 y ∧ q16_74 ∧ q16_110 y c) ∧
  True) (True ∧ ((0 : Nat) + (routeAt y (q16_6 g).toNat).via.length) * q16_75 ≤ (140737488355328 : Nat) ∧ q16_66 g y ∧ (True ∧ ∃ (g' : Nat), q16_5 g' y ∧
  y.routes.length - g' < y.routes.length - g ∧ q16_76 g g' y ∧ q16_91 y ∧ q16_115 y c me boot = q16_115 y c me boot ∧ q16_74 ∧ q16_80 y ∧ q16_74 ∧ q16_110 y c) ∧
  True)) ∧ True) (∃ (g0_1 : Nat), q16_9 g0_1 c ∧ q16_7 g0_1 ∧ q16_11 y ∧ q16_13 y ∧ q16_15 y ∧ q16_77 ∧ q16_93 ∧ SV.nil = SV.nil ∧ q16_17 c ∧ q16_19 c ∧ q16_21 c ∧
  q16_23 c ∧ q16_25 me ∧ q16_25 boot ∧ g0_1 = (0 : Nat) ∧ q16_106 ∧ q16_96 ∧ q16_107 ∧ q16_30 ∧ q16_31 ∧ q16_33 ∧ SV.nil = SV.nil ∧ SV.nil = SV.nil ∧ SV.nil = SV.nil ∧
  SV.nil = SV.nil ∧ q16_8 ∧ ∀ (g_1 : Nat), q16_9 g_1 c → True ∧ sw (q16_34 g_1 c) (q16_35 g_1 c ∧ ((True ∧ (g_1 + (1 : Nat)) * q16_37.bytes ≤ (140737488355328 : Nat) ∧
  (True ∧ ∃ (g' : Nat), q16_9 g' c ∧ c.nodes.length - g' < c.nodes.length - g_1 ∧ (q16_38 g_1 g' ∧ q16_11 y ∧ q16_13 y ∧ q16_15 y ∧ q16_77 ∧ q16_93 ∧ q16_108 c me boot g_1 g') ∧
  q16_43 c ∧ q16_79 y ∧ q16_74 ∧ q16_80 y ∧ q16_74 ∧ q16_110 y c) ∧ True) ∧ True) ∧ True) (∃ (g0_2 : Nat), g0_2 ≤ q16_3 y ∧ q16_7 g0_2 ∧ q16_58 ∧ q16_8 ∧
  ∀ (g_2 : Nat), g_2 ≤ q16_3 y → ∀ (_ks : List Int) (_bn : List Nat) (_clock : Nat), True ∧ sw (q16_82 g_2 y) (q16_83 g_2 y ∧ True ∧ ∃ (g' : Nat), g' ≤ q16_3 y ∧
  q16_3 y - g' < q16_3 y - g_2 ∧ q16_84 g_2 g' ∧ q16_85 y ∧ q16_116 y c me boot = q16_116 y c me boot ∧ q16_88 g_1 c ∧ q16_79 y ∧ q16_74 ∧ q16_114 y c) (q16_60 c)))))) ∧
  True) ∧ True) ∧ True) ∧ True)) False)) False) := by
  delta q16_0 q16_1 q16_2 q16_3 q16_4 q16_5 q16_6 q16_7 q16_8 q16_9 q16_10 q16_11 q16_12 q16_13 q16_14 q16_15 q16_16 q16_17 q16_18 q16_19 q16_20 q16_21 q16_22
    q16_23 q16_24 q16_25 q16_26 q16_27 q16_28 q16_29 q16_30 q16_31 q16_32 q16_33 q16_34 q16_35 q16_36 q16_37 q16_38 q16_39 q16_40 q16_41 q16_42 q16_43
    q16_44 q16_45 q16_46 q16_47 q16_48 q16_49 q16_50 q16_51 q16_52 q16_53 q16_54 q16_55 q16_56 q16_57 q16_58 q16_59 q16_60 q16_61 q16_62 q16_63 q16_64
    q16_65 q16_66 q16_67 q16_68 q16_69 q16_70 q16_71 q16_72 q16_73 q16_74 q16_75 q16_76 q16_77 q16_78 q16_79 q16_80 q16_81 q16_82 q16_83 q16_84 q16_85
    q16_86 q16_87 q16_88 q16_89 q16_90 q16_91 q16_92 q16_93 q16_94 q16_95 q16_96 q16_97 q16_98 q16_99 q16_100 q16_101 q16_102 q16_103 q16_104 q16_105
    q16_106 q16_107 q16_108 q16_109 q16_110 q16_111 q16_112 q16_113 q16_114 q16_115 q16_116
  intro c me y boot h hs hf
  obtain ⟨f1, f2, f3, f4⟩ := hf
  have hS : SoundP c := by
    unfold soundB at hs
    exact @of_decide_eq_true _ (Classical.propDecidable _) hs
  have h0 : soundF c = 0 := soundF_good c ((soundA_iff c).2 hS)
  obtain ⟨b1, b2, b3, b4, b5, b6, b7, b8, b9, b10⟩ := hS.1
  have hme : me.toNat < c.nodes.length := by omega
  obtain ⟨z1, z2, z3, z4, z5⟩ : smD y := h.2 y (getD_mem hme)
  clear_value y
  have z6 : ∀ k, k < y.routes.length → (routeAt y k).via.length ≤ 1099511627776 := fun k hk => (z5 (routeAt y k) (getD_mem hk)).2
  have e3 : (Tryz.prog.types[(3 : Nat)]).bytes = 8 := by kernel_rfl
  have e91 : (Tryz.prog.types[(91 : Nat)]).bytes = 40 := by kernel_rfl
  have e9 : (Tryz.prog.types[(9 : Nat)]).bytes = 16 := by kernel_rfl
  have s91 : (Tryz.prog.types[(91 : Nat)]).size = 2 := by kernel_rfl
  have s9 : (Tryz.prog.types[(9 : Nat)]).size = 1 := by kernel_rfl
  have hw : IntKind.i64.wrap ((c.nodes.length : Int) - 1) = (c.nodes.length : Int) - 1 := by rw [IntKind.wrap_i64]; omega
  rw [cfOf_cf, hw, h0]
  refine ⟨⟨c, rfl, h⟩, trivial, sw_mk (fun e => by simp at e) fun _ => ⟨trivial, trivial, ?_⟩⟩
  refine sw_mk (fun _ => ⟨trivial, sw_mk (fun e => ?_) fun _ => ⟨trivial, sw_mk (fun _ => ⟨trivial, sw_mk (fun e => ?_) fun _ => ?_⟩) fun e => ?_⟩⟩) fun e => ?_
  · simp at e; omega
  · simp at e; omega
  · repeat' (first
      | exact trivial
      | (refine start_ex ?_)
      | (refine loop_ex (by omega) ?_)
      | (refine wrap_succ (by omega))
      | (intro i hi j hj; exact names_eq c _ i j hi hj _ s9)
      | (intro i hi j hj; exact set_same y _ _ (by first | rfl | exact (List.length_eq_zero_iff.1 (by rw [Int.toNat_natCast] at e; exact e)).symm) i j hj)
      | (intro i hi j hj; exact rfl)
      | (refine tsw_mk (fun e => ?_) (fun e => ?_) <;> simp only [decide_eq_true_eq, decide_eq_false_iff_not, Nat.zero_add, List.nil_append] at e)
      | (refine all_sw (fun e => ?_) ?_)
      | (intro g)
      | (refine And.intro ?_ ?_)
      | exact rfl
      | (rw [e3]; omega)
      | (rw [e3, Int.toNat_natCast, Nat.zero_add]; exact Nat.le_trans (Nat.mul_le_mul_right 8 (z6 _ (by omega))) (by decide))
      | (rw [List.nil_append]; omega)
      | (rw [e91]; omega)
      | (rw [e9]; omega)
      | omega)
  · simp at e; omega
  · simp at e; omega
set_option maxRecDepth 100000 in
theorem ok16 : FnIs Tryz.prog 16 newG := by
  refine fnIs (C := (ctrsJ Tryz.prog b3 iA38 6)) (by kernel_rfl) (cokJ (by kernel_rfl) b3_ok iA38_ok) Tryz.func16 (code := code16) (by kernel_rfl) (by kernel_rfl) ?_
  rintro a ⟨c, me, boot, rfl, h, hs, hf⟩
  exact ⟨anns [(10, newRAnn (nodeAt c me.toNat)), (16, newHAnn c), (21, newPAnn (nodeAt c me.toNat))] [3] (dr := [(10, [0, 1, 2, 15, 16, 17, 18, 19, 20, 21, 22, 23, 24, 25, 26, 27, 28, 29, 30, 31, 32, 33, 34, 35, 36, 37, 38, 39, 40, 41, 42, 43, 44, 45, 46, 47, 48, 49, 50, 51, 52, 53, 54, 55, 56, 57, 58, 59, 60, 61, 62, 63, 64, 65, 66, 67, 68, 69, 70, 71]), (16, [0, 1, 2, 9, 10, 15, 16, 17, 18, 19, 20, 21, 22, 23, 24, 25, 26, 27, 28, 29, 30, 31, 32, 33, 34, 35, 36, 37, 38, 39, 40, 41, 42, 43, 44, 45, 46, 47, 48, 49, 50, 51, 52, 53, 54, 55, 56, 57, 58, 59, 60, 61, 62, 63, 64, 65, 66, 67, 68, 69, 70, 71, 72, 73, 74, 75, 76, 77, 78, 79, 80, 81, 82, 83, 84, 85, 86, 87, 88, 89, 90, 91, 92, 93, 94, 95]), (21, [0, 1, 2, 9, 10, 12, 15, 16, 17, 18, 19, 20, 21, 22, 23, 24, 25, 26, 27, 28, 29, 30, 31, 32, 33, 34, 35, 36, 37, 38, 39, 40, 41, 42, 43, 44, 45, 46, 47, 48, 49, 50, 51, 52, 53, 54, 55, 56, 57, 58, 59, 60, 61, 62, 63, 64, 65, 66, 67, 68, 69, 70, 71, 72, 73, 74, 75, 76, 77, 78, 79, 80, 81, 82, 83, 84, 85, 86, 87, 88, 89, 90, 91, 92, 93, 94, 95, 96, 97, 98, 99, 100, 101, 102, 103, 104, 105, 106, 107, 108, 109, 110, 111, 112, 113, 114, 115, 116, 117])]), kcast (vc16 c me boot h hs hf) (by kernel_rfl)⟩

end Go.ZR

namespace Go.ZR
open Go.Proofs
open Go.Z Go.ZM Go.RowKit
set_option maxRecDepth 100000
noncomputable def iA39c40 : Code := match Tryz.f40.body with | some c => c | none => .skip
noncomputable def iA39_40 : InlF := ⟨iA39c40, Tryz.f40.ntmps, Tryz.f40.results.toList, anns [] [1]⟩
noncomputable def iA39 : List (Nat × InlF) := [(40, iA39_40)]
theorem iA39_ok : InlsOk Tryz.prog iA39 := ⟨inlOk Tryz.func40 (by kernel_rfl) (by kernel_rfl), trivial⟩
noncomputable def code16b : Code := match Tryz.f16.body with | some c => c | none => .skip
set_option maxHeartbeats 4000000 in
theorem vc16b : ∀ (c : Cf) (me boot : Int), smC c → soundB c = false → (∃ (c_1 : Cf), [O.agg [O.d (D.recs (5 : Nat) c.nodes.length fun (i j : Nat) => match j with | (0 : Nat) => D.v (Value.string (nodeAt c i).host) | (1 : Nat) => D.v (Value.string (nodeAt c i).realm) | (2 : Nat) => D.v (Value.bool (nodeAt c i).serves) | (3 : Nat) => D.ints IntKind.i64 (nodeAt c i).peers | _x => D.recs (2 : Nat) (nodeAt c i).routes.length fun (k j : Nat) => match j with | (0 : Nat) => D.v (Value.string (routeAt (nodeAt c i) k).realm) | _x => D.ints IntKind.i64 (routeAt (nodeAt c i) k).via), O.d (D.v (Value.int IntKind.i64 c.window)), O.d (D.v (Value.int IntKind.i64 c.stored)), O.d (D.v (Value.int IntKind.i64 c.wait)), O.d (D.v (Value.int IntKind.i64 c.beat))]] = [O.agg [O.d (D.recs (5 : Nat) c_1.nodes.length fun (i j : Nat) => match j with | (0 : Nat) => D.v (Value.string (nodeAt c_1 i).host) | (1 : Nat) => D.v (Value.string (nodeAt c_1 i).realm) | (2 : Nat) => D.v (Value.bool (nodeAt c_1 i).serves) | (3 : Nat) => D.ints IntKind.i64 (nodeAt c_1 i).peers | _x => D.recs (2 : Nat) (nodeAt c_1 i).routes.length fun (k j : Nat) => match j with | (0 : Nat) => D.v (Value.string (routeAt (nodeAt c_1 i) k).realm) | _x => D.ints IntKind.i64 (routeAt (nodeAt c_1 i) k).via), O.d (D.v (Value.int IntKind.i64 c_1.window)), O.d (D.v (Value.int IntKind.i64 c_1.stored)), O.d (D.v (Value.int IntKind.i64 c_1.wait)), O.d (D.v (Value.int IntKind.i64 c_1.beat))]] ∧
  smC c_1) ∧ True ∧ sw (!decide (soundF (cfOf [cfO c]) = (0 : Int))) (Value.pointer none = Value.pointer none ∧ (2 : Int) = (2 : Int) ∧ true = true) (True ∧
  True ∧ sw (decide ((0 : Int) ≤ me)) (True ∧ sw (!decide (me ≤ IntKind.i64.wrap ((↑c.nodes.length : Int) - (1 : Int)))) (Value.pointer none = Value.pointer none ∧
  (1 : Int) = (2 : Int) ∧ true = true) (True ∧ sw (decide ((0 : Int) ≤ boot)) (True ∧ sw (!decide (boot ≤ (1099511627776 : Int))) (Value.pointer none = Value.pointer none ∧
  (1 : Int) = (2 : Int) ∧ true = true) ((False ∧ True) ∧ False ∧ True)) (Value.pointer none = Value.pointer none ∧ (1 : Int) = (2 : Int) ∧ true = true))) (Value.pointer none = Value.pointer none ∧
  (1 : Int) = (2 : Int) ∧ true = true)) := by
  intro c me boot h hs
  have h2 : soundF c = 2 := by unfold soundF; rw [hs]; rfl
  rw [cfOf_cf, h2]
  exact ⟨⟨c, rfl, h⟩, trivial, sw_mk (fun _ => ⟨rfl, rfl, rfl⟩) fun e => by simp at e⟩
set_option maxRecDepth 100000 in
theorem ok16b : FnIs Tryz.prog 16 newB := by
  refine fnIs (C := (ctrsJ Tryz.prog b3 iA39 4)) (by kernel_rfl) (cokJ (by kernel_rfl) b3_ok iA39_ok) Tryz.func16 (code := code16b) (by kernel_rfl) (by kernel_rfl) ?_
  rintro a ⟨c, me, boot, rfl, h, hs⟩
  exact ⟨anns [] [3], kcast (vc16b c me boot h hs) (by kernel_rfl)⟩

noncomputable def code16f : Code := match Tryz.f16.body with | some c => c | none => .skip
set_option maxHeartbeats 4000000 in
theorem vc16f : ∀ (c : Cf) (me boot : Int), smC c → soundB c = true → ¬Fine c me boot → (∃ (c_1 : Cf), [O.agg [O.d (D.recs (5 : Nat) c.nodes.length fun (i j : Nat) => match j with | (0 : Nat) => D.v (Value.string (nodeAt c i).host) | (1 : Nat) => D.v (Value.string (nodeAt c i).realm) | (2 : Nat) => D.v (Value.bool (nodeAt c i).serves) | (3 : Nat) => D.ints IntKind.i64 (nodeAt c i).peers | _x => D.recs (2 : Nat) (nodeAt c i).routes.length fun (k j : Nat) => match j with | (0 : Nat) => D.v (Value.string (routeAt (nodeAt c i) k).realm) | _x => D.ints IntKind.i64 (routeAt (nodeAt c i) k).via), O.d (D.v (Value.int IntKind.i64 c.window)), O.d (D.v (Value.int IntKind.i64 c.stored)), O.d (D.v (Value.int IntKind.i64 c.wait)), O.d (D.v (Value.int IntKind.i64 c.beat))]] = [O.agg [O.d (D.recs (5 : Nat) c_1.nodes.length fun (i j : Nat) => match j with | (0 : Nat) => D.v (Value.string (nodeAt c_1 i).host) | (1 : Nat) => D.v (Value.string (nodeAt c_1 i).realm) | (2 : Nat) => D.v (Value.bool (nodeAt c_1 i).serves) | (3 : Nat) => D.ints IntKind.i64 (nodeAt c_1 i).peers | _x => D.recs (2 : Nat) (nodeAt c_1 i).routes.length fun (k j : Nat) => match j with | (0 : Nat) => D.v (Value.string (routeAt (nodeAt c_1 i) k).realm) | _x => D.ints IntKind.i64 (routeAt (nodeAt c_1 i) k).via), O.d (D.v (Value.int IntKind.i64 c_1.window)), O.d (D.v (Value.int IntKind.i64 c_1.stored)), O.d (D.v (Value.int IntKind.i64 c_1.wait)), O.d (D.v (Value.int IntKind.i64 c_1.beat))]] ∧
  smC c_1) ∧ True ∧ sw (!decide (soundF (cfOf [cfO c]) = (0 : Int))) (Value.pointer none = Value.pointer none ∧ (2 : Int) = (1 : Int) ∧ true = true) (True ∧
  True ∧ sw (decide ((0 : Int) ≤ me)) (True ∧ sw (!decide (me ≤ IntKind.i64.wrap ((↑c.nodes.length : Int) - (1 : Int)))) (Value.pointer none = Value.pointer none ∧
  (1 : Int) = (1 : Int) ∧ true = true) (True ∧ sw (decide ((0 : Int) ≤ boot)) (True ∧ sw (!decide (boot ≤ (1099511627776 : Int))) (Value.pointer none = Value.pointer none ∧
  (1 : Int) = (1 : Int) ∧ true = true) ((False ∧ True) ∧ False ∧ True)) (Value.pointer none = Value.pointer none ∧ (1 : Int) = (1 : Int) ∧ true = true))) (Value.pointer none = Value.pointer none ∧
  (1 : Int) = (1 : Int) ∧ true = true)) := by
  intro c me boot h hs hf
  have h0 : soundF c = 0 := by unfold soundF; rw [hs]; rfl
  have hS : SoundP c := by
    unfold soundB at hs
    exact @of_decide_eq_true _ (Classical.propDecidable _) hs
  have hn := hS.1.2.1
  have hw : IntKind.i64.wrap ((c.nodes.length : Int) - 1) = (c.nodes.length : Int) - 1 := by rw [IntKind.wrap_i64]; omega
  rw [cfOf_cf, h0, hw]
  refine ⟨⟨c, rfl, h⟩, trivial, sw_mk (fun e => by simp at e) fun _ => ⟨trivial, trivial, sw_mk (fun e1 => ⟨trivial, sw_mk (fun _ => ⟨rfl, rfl, rfl⟩) fun e2 => ⟨trivial, sw_mk (fun e3 => ⟨trivial, sw_mk (fun _ => ⟨rfl, rfl, rfl⟩) fun e4 => ?_⟩) fun _ => ⟨rfl, rfl, rfl⟩⟩⟩) fun _ => ⟨rfl, rfl, rfl⟩⟩⟩
  refine (hf ?_).elim
  simp only [Bool.not_eq_false', decide_eq_true_eq] at e1 e2 e3 e4
  exact ⟨e1, by omega, e3, e4⟩
set_option maxRecDepth 100000 in
theorem ok16f : FnIs Tryz.prog 16 newF := by
  refine fnIs (C := (ctrsJ Tryz.prog b3 iA39 4)) (by kernel_rfl) (cokJ (by kernel_rfl) b3_ok iA39_ok) Tryz.func16 (code := code16f) (by kernel_rfl) (by kernel_rfl) ?_
  rintro a ⟨c, me, boot, rfl, h, hs, hf⟩
  exact ⟨anns [] [3], kcast (vc16f c me boot h hs hf) (by kernel_rfl)⟩

end Go.ZR

set_option maxRecDepth 100000
namespace Go.ZM
open Go.Z
def strA : ByteArray := ⟨#[97]⟩
def strB : ByteArray := ⟨#[98]⟩
def strL : ByteArray := ⟨#[108, 101, 102, 116]⟩
def strR : ByteArray := ⟨#[114, 105, 103, 104, 116]⟩
end Go.ZM
namespace Go.ZR
open Go.Z Go.ZM Go.Proofs
def nodesD : D := .recs 5 2 (gridD 5 [.v (.string strA), .v (.string strL), .v (.bool false), .ints .i64 [1], .recs 2 1 (gridD 2 [.v (.string strR), .ints .i64 [1]]),
  .v (.string strB), .v (.string strR), .v (.bool true), .ints .i64 [0], .recs 2 0 (gridD 2 [])])
def cfgO : O := .agg [.d nodesD, iO .i64 100, iO .i64 50, iO .i64 40, iO .i64 20]
def soundC0 : Ctr := nC 1 false (fun a => a = [cfgO]) fun _ => [iO .i64 0]
def a2 : List (Nat × Ctr) := [(42, onceC1), (41, fitsC)]
theorem a2_ok : COk Tryz.prog (ctrs a2) := cok_cons ok42 (cok_cons ok41 cok_nil)
end Go.ZR

namespace Go.ZR
open Go.Proofs
open Go.Z Go.ZM Go.RowKit
set_option maxRecDepth 100000
noncomputable def iA8c40 : Code := match Tryz.f40.body with | some c => c | none => .skip
noncomputable def iA8_40 : InlF := ⟨iA8c40, Tryz.f40.ntmps, Tryz.f40.results.toList, anns [] [1]⟩
noncomputable def iA8c43 : Code := match Tryz.f43.body with | some c => c | none => .skip
noncomputable def iA8_43 : InlF := ⟨iA8c43, Tryz.f43.ntmps, Tryz.f43.results.toList, anns [] [1]⟩
noncomputable def iA8c92 : Code := match Tryz.f92.body with | some c => c | none => .skip
noncomputable def iA8_92 : InlF := ⟨iA8c92, Tryz.f92.ntmps, Tryz.f92.results.toList, anns []⟩
noncomputable def iA8c145 : Code := match Tryz.f145.body with | some c => c | none => .skip
noncomputable def iA8_145 : InlF := ⟨iA8c145, Tryz.f145.ntmps, Tryz.f145.results.toList, anns [] [] [(2, 2)]⟩
noncomputable def iA8c93 : Code := match Tryz.f93.body with | some c => c | none => .skip
noncomputable def iA8_93 : InlF := ⟨iA8c93, Tryz.f93.ntmps, Tryz.f93.results.toList, anns [] [1]⟩
noncomputable def iA8c94 : Code := match Tryz.f94.body with | some c => c | none => .skip
noncomputable def iA8_94 : InlF := ⟨iA8c94, Tryz.f94.ntmps, Tryz.f94.results.toList, anns []⟩
noncomputable def iA8c146 : Code := match Tryz.f146.body with | some c => c | none => .skip
noncomputable def iA8_146 : InlF := ⟨iA8c146, Tryz.f146.ntmps, Tryz.f146.results.toList, anns [] [] [(2, 2)]⟩
noncomputable def iA8c95 : Code := match Tryz.f95.body with | some c => c | none => .skip
noncomputable def iA8_95 : InlF := ⟨iA8c95, Tryz.f95.ntmps, Tryz.f95.results.toList, anns []⟩
noncomputable def iA8c44 : Code := match Tryz.f44.body with | some c => c | none => .skip
noncomputable def iA8_44 : InlF := ⟨iA8c44, Tryz.f44.ntmps, Tryz.f44.results.toList, anns []⟩
noncomputable def iA8c96 : Code := match Tryz.f96.body with | some c => c | none => .skip
noncomputable def iA8_96 : InlF := ⟨iA8c96, Tryz.f96.ntmps, Tryz.f96.results.toList, anns [] [] [(2, 2)]⟩
noncomputable def iA8 : List (Nat × InlF) := [(40, iA8_40), (43, iA8_43), (92, iA8_92), (145, iA8_145), (93, iA8_93), (94, iA8_94), (146, iA8_146), (95, iA8_95), (44, iA8_44), (96, iA8_96)]
theorem iA8_ok : InlsOk Tryz.prog iA8 := ⟨inlOk Tryz.func40 (by kernel_rfl) (by kernel_rfl), inlOk Tryz.func43 (by kernel_rfl) (by kernel_rfl), inlOk Tryz.func92 (by kernel_rfl) (by kernel_rfl), inlOk Tryz.func145 (by kernel_rfl) (by kernel_rfl), inlOk Tryz.func93 (by kernel_rfl) (by kernel_rfl), inlOk Tryz.func94 (by kernel_rfl) (by kernel_rfl), inlOk Tryz.func146 (by kernel_rfl) (by kernel_rfl), inlOk Tryz.func95 (by kernel_rfl) (by kernel_rfl), inlOk Tryz.func44 (by kernel_rfl) (by kernel_rfl), inlOk Tryz.func96 (by kernel_rfl) (by kernel_rfl), trivial⟩
noncomputable def code14 : Code := match Tryz.f14.body with | some c => c | none => .skip
set_option maxHeartbeats 4000000 in
theorem vc14 : True ∧ True ∧ True ∧ True ∧ True ∧ True ∧ True ∧ True ∧ True ∧ True ∧ True ∧ ((0 : Int) ≤ (0 : Int) ∧ (0 : Int) < (↑(2 : Nat) : Int)) ∧ True ∧ ((0 : Int) ≤ (0 : Int) ∧
  (0 : Int) < (↑(2 : Nat) : Int)) ∧ (∃ (l : List Int), [O.d (D.v (Value.int IntKind.i64 (10 : Int))), O.d (D.ints IntKind.u8 [(97 : Int)])] = [O.d (D.v (Value.int IntKind.i64 (10 : Int))), O.d (D.ints IntKind.u8 l)] ∧
  sm l.length) ∧ True ∧ True ∧ True ∧ ((0 : Int) ≤ (1 : Int) ∧ (1 : Int) < (↑(2 : Nat) : Int)) ∧ (∃ (l : List Int), [O.d (D.v (Value.int IntKind.i64 (10 : Int))), O.d (D.ints IntKind.u8 [(108 : Int), (101 : Int), (102 : Int), (116 : Int)])] = [O.d (D.v (Value.int IntKind.i64 (10 : Int))), O.d (D.ints IntKind.u8 l)] ∧
  sm l.length) ∧ True ∧ True ∧ True ∧ (∃ (p : Int), [O.d (D.ints IntKind.i64 [(1 : Int)])] = [O.d (D.ints IntKind.i64 [p])]) ∧ True ∧ True ∧ ((0 : Int) ≤ (0 : Int) ∧
  (0 : Int) < (↑(1 : Nat) : Int)) ∧ (∃ (l : List Int), [O.d (D.v (Value.int IntKind.i64 (10 : Int))), O.d (D.ints IntKind.u8 [(114 : Int), (105 : Int), (103 : Int), (104 : Int), (116 : Int)])] = [O.d (D.v (Value.int IntKind.i64 (10 : Int))), O.d (D.ints IntKind.u8 l)] ∧
  sm l.length) ∧ True ∧ True ∧ True ∧ ((0 : Int) ≤ (0 : Int) ∧ (0 : Int) < (1 : Int)) ∧ True ∧ ((0 : Int) ≤ (0 : Int) ∧ (0 : Int) < (1 : Int)) ∧ True ∧ True ∧
  True ∧ True ∧ True ∧ True ∧ True ∧ True ∧ True ∧ ((0 : Int) ≤ (0 : Int) ∧ (0 : Int) < (1 : Int)) ∧ True ∧ True ∧ True ∧ True ∧ ((0 : Int) ≤ [(1 : Int)].getD (Int.toNat (0 : Int)) (0 : Int) ∧
  [(1 : Int)].getD (Int.toNat (0 : Int)) (0 : Int) < (↑(2 : Nat) : Int)) ∧ True ∧ ((0 : Int) ≤ (0 : Int) ∧ (0 : Int) < (1 : Int)) ∧ True ∧ True ∧ True ∧ True ∧
  True ∧ True ∧ ((0 : Int) ≤ (1 : Int) ∧ (1 : Int) < (↑(2 : Nat) : Int)) ∧ True ∧ ((0 : Int) ≤ (0 : Int) ∧ (0 : Int) < (↑(2 : Nat) : Int)) ∧ (∃ (l : List Int), [O.d (D.v (Value.int IntKind.i64 (10 : Int))), O.d (D.ints IntKind.u8 [(98 : Int)])] = [O.d (D.v (Value.int IntKind.i64 (10 : Int))), O.d (D.ints IntKind.u8 l)] ∧
  sm l.length) ∧ True ∧ True ∧ True ∧ ((0 : Int) ≤ (1 : Int) ∧ (1 : Int) < (↑(2 : Nat) : Int)) ∧ (∃ (l : List Int), [O.d (D.v (Value.int IntKind.i64 (10 : Int))), O.d (D.ints IntKind.u8 [(114 : Int), (105 : Int), (103 : Int), (104 : Int), (116 : Int)])] = [O.d (D.v (Value.int IntKind.i64 (10 : Int))), O.d (D.ints IntKind.u8 l)] ∧
  sm l.length) ∧ True ∧ True ∧ True ∧ (∃ (p : Int), [O.d (D.ints IntKind.i64 [(0 : Int)])] = [O.d (D.ints IntKind.i64 [p])]) ∧ True ∧ True ∧ True ∧ True ∧
  ((0 : Int) ≤ (0 : Int) ∧ (0 : Int) < (1 : Int)) ∧ True ∧ True ∧ True ∧ True ∧ ((0 : Int) ≤ [(0 : Int)].getD (Int.toNat (0 : Int)) (0 : Int) ∧ [(0 : Int)].getD (Int.toNat (0 : Int)) (0 : Int) < (↑(2 : Nat) : Int)) ∧
  True ∧ ((0 : Int) ≤ (0 : Int) ∧ (0 : Int) < (1 : Int)) ∧ True ∧ True ∧ True ∧ True ∧ True ∧ True ∧ (0 : Int) = (0 : Int) ∧ true = true := by
  repeat' (first | exact trivial | exact ⟨_, rfl⟩ | exact ⟨_, rfl, by unfold sm; decide⟩ | refine And.intro ?_ ?_ | decide)
set_option maxRecDepth 100000 in
theorem ok14 : FnIs Tryz.prog 14 soundC0 := by
  refine fnIs (C := (ctrsJ Tryz.prog a2 iA8 12)) (by kernel_rfl) (cokJ (by kernel_rfl) a2_ok iA8_ok) Tryz.func14 (code := code14) (by kernel_rfl) (by kernel_rfl) ?_
  rintro a rfl
  exact ⟨anns [] [1, 13, 19] [(5, 3), (8, 3), (17, 2)], kcast (vc14) (by kernel_rfl)⟩

end Go.ZR
