/- RoutePicks: where what it reads is of bulk at most 1048576, it is true, and the input reads as it did. -/
import Derived.Test.YtgnfpcjndhnglaaB13
import Derived.Test.YtgnfpcjndhnglaaB15
import Derived.JoinedCond
import Derived.OpenShut
namespace Go.Proofs.Ytgnfpcjndhnglaa
open Go.ChangeShapes Go.WideShapes Go.ChangeAt Go.RowKit
open Go.Y Go.YM Go.YR

theorem Try.own : ownKnob Try.prog.godebug = none := by kernel_rfl
theorem Try.laidOut : laidOutB Try.prog = true := by kernel_rfl

theorem bulk_five {H : Type} {d0 d1 d2 d3 d4 : DataW H} (hk : Rows.uptoSmall H ([d0, d1, d2, d3, d4] ++ []) = true) : Bnd 1048576 d0 ∧ Bnd 1048576 d1 ∧ Bnd 1048576 d2 ∧ Bnd 1048576 d3 := by
  have h := of_decide_eq_true hk
  simp only [List.append_nil, Rows.uptoBulkAll] at h
  unfold Bnd
  refine ⟨.inl ?_, .inl ?_, .inl ?_, .inl ?_⟩ <;> omega

/-- From a walk over all nodes, names, messages to a call on whatever such arguments. -/
theorem route_law {f : Nat} (ok : FnIs Try.prog f routeC) {H : Type} {enc : TypeId × Value → H} {W : World} {v0 v1 v2 v3 v4 : Value} {d0 d1 d2 d3 d4 : DataW H} {p0 p1 p2 p3 p4 : List MemPlace}
    (hval : ∀ (j : Nat) t v, #[(25 : TypeId), 26, 22, 30, 3][j]? = some t → #[v0, v1, v2, v3, v4][j]? = some v → Value.okWide Try.prog W .any 0 t v)
    (h0 : DataW.Trod enc Try.prog W 0 (fun _ => true) true 25 v0 d0 p0) (h1 : DataW.Trod enc Try.prog W 0 (fun _ => true) true 26 v1 d1 p1) (h2 : DataW.Trod enc Try.prog W 0 (fun _ => true) true 22 v2 d2 p2)
    (h3 : DataW.Trod enc Try.prog W 0 (fun _ => true) true 30 v3 d3 p3) (h4 : DataW.Trod enc Try.prog W 0 (fun _ => true) true 3 v4 d4 p4)
    (hk : Bnd 1048576 d0 ∧ Bnd 1048576 d1 ∧ Bnd 1048576 d2 ∧ Bnd 1048576 d3) :
    Calls Try.prog f #[v0, v1, v2, v3, v4] W fun e W' => e = .returned (.bool true) ∧ Below W.heap.size W W' := by
  obtain ⟨n, n1, n2, us, rfl, hn⟩ := open_node (hval 0 25 _ rfl rfl) h0 hk.1
  obtain ⟨names, l1, hl⟩ := open_names (hval 1 26 _ rfl rfl) h1 hk.2.1
  obtain ⟨up, u1, hu⟩ := open_up (hval 2 22 _ rfl rfl) h2 hk.2.2.1
  obtain ⟨m, m1, um, rfl, hm⟩ := open_msg (hval 3 30 _ rfl rfl) h3 hk.2.2.2
  obtain ⟨fr, rfl, rfl, rfl, _⟩ := open_int Try.underlying3 (hval 4 3 v4 rfl rfl) h4
  have h4' : (D.v (.int .i64 fr)).holds (fun _ => True) W (.int .i64 fr) := ⟨rfl, rfl⟩
  exact ok.law (A := fun _ => True) (ads := [ndO n, .d (strsD names), isO up, msgO m, iO .i64 fr]) (vs := [.agg us.toArray, v1, v2, .agg um.toArray, .int .i64 fr])
    (ol_agg (ds := ndL n) hn (ol_cons hl (ol_cons hu (ol_agg (ds := msgL m) hm (ol_cons h4' ol_nil))))) ⟨n, names, up, m, fr, rfl, ⟨n1, l1, u1, m1⟩, n2⟩ rfl

set_option maxRecDepth 100000 in
theorem routePicks_lifted (os : Os) (started : os.Started) (H : Type) (enc : TypeId × Value → H) (F : Stop.Interp) :
    ReturnsInHanded {} Try.checked os 3 .any ((Rows.OpenSpec.upto Rows.routePicksSpec).pre6 enc Try.prog Try.f3 Rows.routePicksUptoRow.domain false) (((Rows.OpenSpec.upto Rows.routePicksSpec).at F).post enc Try.prog Try.f3 false true false false) := by
  refine returnsInHanded_of_cond (C := Try.checked) (s := Rows.OpenSpec.upto Rows.routePicksSpec) (k := Rows.uptoSmall) rfl Try.own started (by kernel_rfl) Try.func3
    (OpenSpec.witness (enc := enc) (C := Try.checked) (s := Rows.OpenSpec.upto Rows.routePicksSpec) (k := Rows.uptoSmall) rfl false ⟨#[], #[.agg #[.string ⟨#[]⟩, .string ⟨#[]⟩, .bool false, .slice none 0 0, .slice none 0 0], .slice none 0 0, .slice none 0 0,
      .agg #[.bool false, .bool false, .bool false, .bool false, .int .u32 0, .int .u32 0, .int .u32 0, .int .u32 0, .slice none 0 0], .int .i64 0], []⟩ 8 (by kernel_rfl) (by kernel_rfl) (by kernel_rfl)
      (x := ([.agg [.lit (.string []), .lit (.string []), .lit (.bool false), .nil, .nil], .nil, .nil, .agg [.lit (.bool false), .lit (.bool false), .lit (.bool false), .lit (.bool false), .lit (.int .u32 0), .lit (.int .u32 0), .lit (.int .u32 0), .lit (.int .u32 0), .nil], .lit (.int .i64 0)], [], [])) (by kernel_rfl) rfl (by kernel_rfl)) ?_
  intro W base args ds gs before hval0 hW _ hk _
  have hval : ∀ (j : Nat) t v, Try.f3.params[j]? = some t → args[j]? = some v → Value.okWide Try.prog W .any base t v := hval0
  have hW' := hW
  obtain ⟨p, q, hA0, hV, rfl, hfz, hnd⟩ := hW
  have hA : DataW.TrodAll enc Try.prog W 0 (fun _ => true) true Try.f3.params.toList args.toList ds p := hA0
  rw [Try.params3] at hA hval
  obtain ⟨v0, vs0, d0, ds0, p0, q0, hargs, rfl, rfl, h0, r0⟩ := trodAll_cons hA
  obtain ⟨v1, vs1, d1, ds1, p1, q1, rfl, rfl, rfl, h1, r1⟩ := trodAll_cons r0
  obtain ⟨v2, vs2, d2, ds2, p2, q2, rfl, rfl, rfl, h2, r2⟩ := trodAll_cons r1
  obtain ⟨v3, vs3, d3, ds3, p3, q3, rfl, rfl, rfl, h3, r3⟩ := trodAll_cons r2
  obtain ⟨v4, vs4, d4, ds4, p4, q4, rfl, rfl, rfl, h4, r4⟩ := trodAll_cons r3
  obtain ⟨rfl, rfl, rfl⟩ := trodAll_nil r4
  obtain rfl : args = #[v0, v1, v2, v3, v4] := by cases args; simp_all
  obtain ⟨rfl, rfl⟩ := trodVars_none hV
  refine (route_law ok3 hval h0 h1 h2 h3 h4 (bulk_five hk)).mono fun e W' ⟨he, hb⟩ => ?_
  subst he
  exact ⟨_, rfl, post_true (s := Rows.routePicksSpec) Try.laidOut (by kernel_rfl) rfl (by kernel_rfl) Try.underlying4 hW' ⟨rfl, rfl, rfl⟩ hb⟩

theorem routePicks_holds : Rows.RoutePicksUptoSaid :=
  OpenClaim.holds_of_cond 3 Try.f3 rfl rfl rfl rfl rfl rfl rfl ⟨rfl, rfl, rfl, rfl, rfl⟩ rfl rfl rfl rfl rfl (by kernel_rfl) Try.func3 (by kernel_rfl)
    (of_decide_eq_true (by kernel_rfl)) (by unfold Func.isWrapper; first | (rw [if_pos (by decide +kernel)]; kernel_rfl) | (rw [if_neg (by decide +kernel)]; exact ⟨rfl, rfl⟩))
    (fun os started H enc _ F => routePicks_lifted os started H enc F)
end Go.Proofs.Ytgnfpcjndhnglaa
