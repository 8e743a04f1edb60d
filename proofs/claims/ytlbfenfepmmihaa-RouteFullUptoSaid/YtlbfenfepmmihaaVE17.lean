/- RouteFull: where what it reads is of bulk at most 1048576, it is true, and the input reads as it did. -/
import Derived.Test.YtlbfenfepmmihaaV19
import Derived.Test.YtlbfenfepmmihaaV20
set_option maxRecDepth 100000
namespace Go.Proofs.Ytlbfenfepmmihaa
open Go.ChangeShapes Go.WideShapes Go.ChangeAt Go.RowKit
open Go.Z Go.ZM Go.ZR

theorem routeFull_law {H : Type} {enc : TypeId × Value → H} {W : World} {v0 v1 : Value} {d0 d1 : DataW H} {p0 p1 : List MemPlace}
    (hval : ∀ (j : Nat) t v, #[(5 : TypeId), 5][j]? = some t → #[v0, v1][j]? = some v → Value.okWide Try.prog W .any 0 t v)
    (t0 : DataW.Trod enc Try.prog W 0 (fun _ => true) true 5 v0 d0 p0) (t1 : DataW.Trod enc Try.prog W 0 (fun _ => true) true 5 v1 d1 p1)
    (k0 : Bnd 1048576 d0) (k1 : Bnd 1048576 d1) : Calls Try.prog 16 #[v0, v1] W fun e W' => e = .returned (.bool true) ∧ Below W.heap.size W W' := by
  obtain ⟨x0, h0, o0⟩ := open5 (hval 0 5 _ rfl rfl) t0 k0
  obtain ⟨x1, h1, o1⟩ := open5 (hval 1 5 _ rfl rfl) t1 k1
  exact ok16.law (A := fun _ => True) (ads := [iO .u8 x0, iO .u8 x1]) (vs := [v0, v1]) (ol_consO o0 (ol_consO o1 ol_nil)) ⟨x0, x1, rfl, h0, h1⟩ rfl

theorem routeFull_lifted (os : Os) (started : os.Started) (H : Type) (enc : TypeId × Value → H) (F : Stop.Interp) :
    ReturnsInHanded {} Try.checked os 16 .any ((Rows.OpenSpec.upto Rows.routeFullSpec).pre6 enc Try.prog Try.f16 Rows.routeFullUptoRow.domain false) (((Rows.OpenSpec.upto Rows.routeFullSpec).at F).post enc Try.prog Try.f16 false true false false) := by
  refine returnsInHanded_of_cond (C := Try.checked) (s := Rows.OpenSpec.upto Rows.routeFullSpec) (k := Rows.uptoSmall) rfl Try.own started (by kernel_rfl) Try.func16
    (OpenSpec.witness (enc := enc) (C := Try.checked) (s := Rows.OpenSpec.upto Rows.routeFullSpec) (k := Rows.uptoSmall) rfl false ⟨#[], #[.int .u8 0, .int .u8 0], []⟩ 8 (by kernel_rfl) (by kernel_rfl) (by kernel_rfl)
      (x := ([.lit (.int .u8 0), .lit (.int .u8 0)], [], [])) (by kernel_rfl) rfl (by kernel_rfl)) ?_
  intro W base args ds gs before hval0 hW _ hk _
  have hval : ∀ (j : Nat) t v, Try.f16.params[j]? = some t → args[j]? = some v → Value.okWide Try.prog W .any base t v := hval0
  have hW' := hW
  obtain ⟨p, q, hA0, hV, rfl, hfz, hnd⟩ := hW
  have hA : DataW.TrodAll enc Try.prog W 0 (fun _ => true) true Try.f16.params.toList args.toList ds p := hA0
  rw [Try.params16] at hA hval
  obtain ⟨v0, vs0, d0, ds0, p0, q0, hargs, rfl, rfl, h0, r0⟩ := trodAll_cons hA
  obtain ⟨v1, vs1, d1, ds1, p1, q1, rfl, rfl, rfl, h1, r1⟩ := trodAll_cons r0
  obtain ⟨rfl, rfl, rfl⟩ := trodAll_nil r1
  obtain rfl : args = #[v0, v1] := by cases args; simp_all
  obtain ⟨rfl, rfl⟩ := trodVars_none hV
  refine (routeFull_law hval h0 h1 (bulk_in hk (by simp)) (bulk_in hk (by simp))).mono fun e W' ⟨he, hb⟩ => ?_
  subst he
  exact ⟨_, rfl, post_true (s := Rows.routeFullSpec) Try.laidOut (by kernel_rfl) rfl (by kernel_rfl) Try.underlying4 hW' ⟨rfl, rfl, rfl⟩ hb⟩

theorem routeFull_holds : Rows.RouteFullUptoSaid :=
  OpenClaim.holds_of_cond 16 Try.f16 rfl rfl rfl rfl rfl rfl rfl ⟨rfl, rfl, rfl, rfl, rfl⟩ rfl rfl rfl rfl rfl (by kernel_rfl) Try.func16 (joined_of (by kernel_rfl) (by kernel_rfl) (by kernel_rfl) rfl rfl (by kernel_rfl) (by kernel_rfl) (by kernel_rfl) (by kernel_rfl) (by kernel_rfl) (by kernel_rfl) (by kernel_rfl) (by kernel_rfl) (by kernel_rfl) (by kernel_rfl) (by kernel_rfl) (by kernel_rfl) (by kernel_rfl) pf_keys (by kernel_rfl) pf_lift pf_make (by kernel_rfl) (by kernel_rfl) (by kernel_rfl) (by kernel_rfl))
    (of_decide_eq_true (by kernel_rfl)) (by unfold Func.isWrapper; first | (rw [if_pos (by decide +kernel)]; kernel_rfl) | (rw [if_neg (by decide +kernel)]; exact ⟨rfl, rfl⟩))
    (fun os started H enc _ F => routeFull_lifted os started H enc F)
end Go.Proofs.Ytlbfenfepmmihaa
