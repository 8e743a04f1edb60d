/- AgentOpens: where what it reads is of bulk at most 1048576, it is true, and the input reads as it did. -/
import Derived.Test.YtdamnoleoakehaaGreatDoorKX29
import Derived.Test.YtdamnoleoakehaaGreatDoorKO40
import Derived.Test.YtdamnoleoakehaaGreatDoorKX30
import Derived.Test.YtdamnoleoakehaaGreatDoorCards
import Derived.Test.YtdamnoleoakehaaGreatDoorTie
import Derived.SevenTiedAt
set_option maxRecDepth 100000
namespace Go.Proofs.YtdamnoleoakehaaGreatDoor
open Go.ChangeShapes Go.WideShapes Go.ChangeAt Go.RowKit
open Go.Z

theorem agentOpens_law {H : Type} {enc : TypeId × Value → H} {W : World} {v0 v1 v2 : Value} {d0 d1 d2 : DataW H} {p0 p1 p2 : List MemPlace}
    (hval : ∀ (j : Nat) t v, #[(34 : TypeId), 4, 9][j]? = some t → #[v0, v1, v2][j]? = some v → Value.okWide Tryz.prog W .any 0 t v)
    (_t0 : DataW.Trod enc Tryz.prog W 0 (fun _ => true) true 34 v0 d0 p0) (_t1 : DataW.Trod enc Tryz.prog W 0 (fun _ => true) true 4 v1 d1 p1) (t2 : DataW.Trod enc Tryz.prog W 0 (fun _ => true) true 9 v2 d2 p2)
    (_k0 : Bnd 1048576 d0) (_k1 : Bnd 1048576 d1) (k2 : Bnd 1048576 d2) : Calls Tryz.prog 4 #[v0, v1, v2] W fun e W' => e = .returned (.bool true) ∧ Below W.heap.size W W' := by
  exact Go.Q.opens_calls (hval 0 34 _ rfl rfl) (hval 1 4 _ rfl rfl) (hval 2 9 _ rfl rfl) t2 k2

theorem agentOpens_met (os : Os) : laidMet Tryz.prog Rows.agentOpensUptoRow.laid ((laidWorld os).forCall (fun _ _ => 0) ⟨#[], #[.int .u32 0, .bool false, .string ⟨#[]⟩], []⟩).memory :=
  laidMet_of_run' 8 (by kernel_rfl) (by kernel_rfl)
theorem agentOpens_reads (os : Os) {H : Type} (enc : TypeId × Value → H) : ∃ places, DataW.whole enc Tryz.prog ((laidWorld os).forCall (fun _ _ => 0) ⟨#[], #[.int .u32 0, .bool false, .string ⟨#[]⟩], []⟩).memory Tryz.f4.params.toList Rows.agentOpensSpec.vars false #[.int .u32 0, .bool false, .string ⟨#[]⟩].toList 8 = some ([.lit (.int .u32 0), .lit (.bool false), .lit (.string [])], [], places) :=
  ⟨[], by kernel_rfl⟩

theorem agentOpens_lifted (os : Os) (started : os.Started) (H : Type) (enc : TypeId × Value → H) (F : Stop.Interp) :
    ReturnsInHanded {} Tryz.checked os 4 .any ((Rows.OpenSpec.upto Rows.agentOpensSpec).preRow enc Tryz.prog Tryz.f4 Rows.agentOpensUptoRow.domain false Rows.agentOpensUptoRow.laid) (((Rows.OpenSpec.upto Rows.agentOpensSpec).at F).post enc Tryz.prog Tryz.f4 false true false false) := by
  obtain ⟨places, hx⟩ := agentOpens_reads os enc
  refine returnsInHanded_of_row (C := Tryz.checked) (s := Rows.OpenSpec.upto Rows.agentOpensSpec) Tryz.own started (by kernel_rfl) Tryz.func4
    (witness_row_at (enc := enc) (C := Tryz.checked) false (laidWorld os) #[.int .u32 0, .bool false, .string ⟨#[]⟩] rfl (by kernel_rfl) (by kernel_rfl) (by kernel_rfl)
      (OpenSpec.preRow_of_cond 8 hx (by kernel_rfl) (fun k hk => by cases hk; kernel_rfl) (by kernel_rfl) (agentOpens_met os))) ?_
  intro W base args ds gs before hval0 hW _ hcond _ _ _ _
  have hk := hcond _ rfl
  have hval : ∀ (j : Nat) t v, Tryz.f4.params[j]? = some t → args[j]? = some v → Value.okWide Tryz.prog W .any base t v := hval0
  have hW' := hW
  obtain ⟨p, q, hA0, hV, rfl, hfz, hnd⟩ := hW
  have hA : DataW.TrodAll enc Tryz.prog W 0 (fun _ => true) true Tryz.f4.params.toList args.toList ds p := hA0
  rw [Tryz.params4] at hA hval
  obtain ⟨v0, vs0, d0, ds0, p0, q0, hargs, rfl, rfl, h0, r0⟩ := trodAll_cons hA
  obtain ⟨v1, vs1, d1, ds1, p1, q1, rfl, rfl, rfl, h1, r1⟩ := trodAll_cons r0
  obtain ⟨v2, vs2, d2, ds2, p2, q2, rfl, rfl, rfl, h2, r2⟩ := trodAll_cons r1
  obtain ⟨rfl, rfl, rfl⟩ := trodAll_nil r2
  obtain rfl : args = #[v0, v1, v2] := by cases args; simp_all
  obtain ⟨rfl, rfl⟩ := trodVars_none hV
  refine (agentOpens_law hval h0 h1 h2 (bulk_in hk (by simp)) (bulk_in hk (by simp)) (bulk_in hk (by simp))).mono fun e W' ⟨he, hb⟩ => ?_
  subst he
  exact ⟨_, rfl, post_true (s := Rows.agentOpensSpec) Tryz.laidOut (by kernel_rfl) rfl (by kernel_rfl) Tryz.underlying4 hW' ⟨rfl, rfl, rfl⟩ hb⟩

theorem agentOpens_holds : Rows.AgentOpensUptoSaid :=
  OpenClaim.holds_of_cond 4 Tryz.f4 rfl rfl rfl rfl rfl rfl rfl ⟨rfl, rfl, rfl, rfl, rfl⟩ rfl rfl rfl rfl rfl (by kernel_rfl) Tryz.func4 (joined_of (by kernel_rfl) (by kernel_rfl) (by kernel_rfl) rfl rfl (by kernel_rfl) (by kernel_rfl) (by kernel_rfl) (by kernel_rfl) (by kernel_rfl) (by kernel_rfl) (by kernel_rfl) (by kernel_rfl) (by kernel_rfl) (by kernel_rfl) (by kernel_rfl) (by kernel_rfl) (by kernel_rfl) pf_keys (by kernel_rfl) pf_lift pf_make (by kernel_rfl) (by kernel_rfl) (by kernel_rfl) (by kernel_rfl))
    (of_decide_eq_true (by kernel_rfl)) (by unfold Func.isWrapper; first | (rw [if_pos (by decide +kernel)]; kernel_rfl) | (rw [if_neg (by decide +kernel)]; exact ⟨rfl, rfl⟩))
    (fun os started H enc _ F => by rw [OpenClaim.pre_eq_preRow]; exact agentOpens_lifted os started H enc F)

theorem agentOpens_plain (f : FuncId) (fn : Func) (hf : Tryz.pinned.checked.prog.funcNamed Rows.agentOpensUptoRow.func = some f) (hfn : Tryz.pinned.checked.prog.funcs[f]? = some fn) :
    true = Tryz.pinned.checked.prog.looks [] ∧ ∀ (j : Nat) t, fn.params[j]? = some t → Tryz.pinned.checked.prog.wantsStandIn t = false := by
  obtain rfl : f = 4 := Option.some.inj ((show Tryz.prog.funcNamed Rows.agentOpensUptoRow.func = some 4 by kernel_rfl).symm.trans hf) |>.symm
  obtain rfl : fn = Tryz.f4 := (Option.some.inj (Tryz.func4.symm.trans hfn)).symm
  refine ⟨by kernel_rfl, fun j t ht => ?_⟩
  rw [Tryz.params4] at ht
  have hm : t ∈ [34, 4, 9] := by simpa using Array.mem_of_getElem? ht
  simp only [List.mem_cons, List.not_mem_nil, or_false] at hm
  rcases hm with rfl | rfl | rfl
  · exact (show Tryz.prog.wantsStandIn 34 = false by kernel_rfl)
  · exact (show Tryz.prog.wantsStandIn 4 = false by kernel_rfl)
  · exact (show Tryz.prog.wantsStandIn 9 = false by kernel_rfl)
theorem agentOpens_card : Rows.AgentOpensUptoCardSaid :=
  Claim7.holds_tied_plain_at .later [] _ _ _ _ agentOpens_holds (fun _ h => by cases h) (by kernel_rfl) (fun _ h => by cases h) agentOpensUpto_row_tie rfl ⟨rfl, rfl⟩ (by kernel_rfl) rfl agentOpens_plain (by kernel_rfl)
end Go.Proofs.YtdamnoleoakehaaGreatDoor

