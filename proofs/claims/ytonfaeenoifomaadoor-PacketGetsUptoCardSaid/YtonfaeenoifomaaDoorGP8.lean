/- PacketGets: where what it reads is of bulk at most 1048576, it is true, and the input reads as it did. -/
import Derived.Test.YtonfaeenoifomaaDoorG10
import Derived.Test.YtonfaeenoifomaaDoorCards
import Derived.Test.YtonfaeenoifomaaDoorTie
import Derived.SevenTiedAt
set_option maxRecDepth 100000
namespace Go.Proofs.YtonfaeenoifomaaDoor
open Go.ChangeShapes Go.WideShapes Go.ChangeAt Go.RowKit
open Go.Z Go.ZM Go.ZR

theorem packetGets_law {H : Type} {enc : TypeId × Value → H} {W : World} {v0 : Value} {d0 : DataW H} {p0 : List MemPlace}
    (hval : ∀ (j : Nat) t v, #[(26 : TypeId)][j]? = some t → #[v0][j]? = some v → Value.okWide Tryd.prog W .any 0 t v)
    (t0 : DataW.Trod enc Tryd.prog W 0 (fun _ => true) true 26 v0 d0 p0)
    (k0 : Bnd 1048576 d0) (hL : laidMetH Tryd.prog Rows.packetGetsUptoRow.laid W) : Calls Tryd.prog 4 #[v0] W fun e W' => e = .returned (.bool true) ∧ Below W.heap.size W W' := by
  obtain ⟨x0, h0, o0⟩ := open26 (hval 0 26 _ rfl rfl) t0 k0
  exact ok4.law (A := fun _ => True) (ads := [bsO x0]) (vs := [v0]) (ol_consO o0 ol_nil) ⟨x0, rfl, h0.1, h0.2⟩ rfl (table hL)

theorem packetGets_met (os : Os) : laidMet Tryd.prog Rows.packetGetsUptoRow.laid ((laidWorld os).forCall (fun _ _ => 0) ⟨#[], #[.slice none 0 0], []⟩).memory :=
  laidMet_of_run' 8 (by kernel_rfl) (by kernel_rfl)
theorem packetGets_reads (os : Os) {H : Type} (enc : TypeId × Value → H) : ∃ places, DataW.whole enc Tryd.prog ((laidWorld os).forCall (fun _ _ => 0) ⟨#[], #[.slice none 0 0], []⟩).memory Tryd.f4.params.toList Rows.packetGetsSpec.vars false #[.slice none 0 0].toList 8 = some ([.nil], [], places) :=
  ⟨[], by kernel_rfl⟩

theorem packetGets_lifted (os : Os) (started : os.Started) (H : Type) (enc : TypeId × Value → H) (F : Stop.Interp) :
    ReturnsInHanded {} Tryd.checked os 4 .any ((Rows.OpenSpec.upto Rows.packetGetsSpec).preRow enc Tryd.prog Tryd.f4 Rows.packetGetsUptoRow.domain false Rows.packetGetsUptoRow.laid) (((Rows.OpenSpec.upto Rows.packetGetsSpec).at F).post enc Tryd.prog Tryd.f4 false true false false) := by
  obtain ⟨places, hx⟩ := packetGets_reads os enc
  refine returnsInHanded_of_row (C := Tryd.checked) (s := Rows.OpenSpec.upto Rows.packetGetsSpec) Tryd.own started (by kernel_rfl) Tryd.func4
    (witness_row_at (enc := enc) (C := Tryd.checked) false (laidWorld os) #[.slice none 0 0] rfl (by kernel_rfl) (by kernel_rfl) (by kernel_rfl)
      (OpenSpec.preRow_of_cond 8 hx (by kernel_rfl) (fun k hk => by cases hk; kernel_rfl) (by kernel_rfl) (packetGets_met os))) ?_
  intro W base args ds gs before hval0 hW _ hcond _ hL _ _
  have hk := hcond _ rfl
  have hval : ∀ (j : Nat) t v, Tryd.f4.params[j]? = some t → args[j]? = some v → Value.okWide Tryd.prog W .any base t v := hval0
  have hW' := hW
  obtain ⟨p, q, hA0, hV, rfl, hfz, hnd⟩ := hW
  have hA : DataW.TrodAll enc Tryd.prog W 0 (fun _ => true) true Tryd.f4.params.toList args.toList ds p := hA0
  rw [Tryd.params4] at hA hval
  obtain ⟨v0, vs0, d0, ds0, p0, q0, hargs, rfl, rfl, h0, r0⟩ := trodAll_cons hA
  obtain ⟨rfl, rfl, rfl⟩ := trodAll_nil r0
  obtain rfl : args = #[v0] := by cases args; simp_all
  obtain ⟨rfl, rfl⟩ := trodVars_none hV
  refine (packetGets_law hval h0 (bulk_in hk (by simp)) hL).mono fun e W' ⟨he, hb⟩ => ?_
  subst he
  exact ⟨_, rfl, post_true (s := Rows.packetGetsSpec) Tryd.laidOut (by kernel_rfl) rfl (by kernel_rfl) Tryd.underlying4 hW' ⟨rfl, rfl, rfl⟩ hb⟩

theorem packetGets_holds : Rows.PacketGetsUptoSaid :=
  OpenClaim.holds_of_cond 4 Tryd.f4 rfl rfl rfl rfl rfl rfl rfl ⟨rfl, rfl, rfl, rfl, rfl⟩ rfl rfl rfl rfl rfl (by kernel_rfl) Tryd.func4 (by kernel_rfl)
    (of_decide_eq_true (by kernel_rfl)) (by unfold Func.isWrapper; first | (rw [if_pos (by decide +kernel)]; kernel_rfl) | (rw [if_neg (by decide +kernel)]; exact ⟨rfl, rfl⟩))
    (fun os started H enc _ F => by rw [OpenClaim.pre_eq_preRow]; exact packetGets_lifted os started H enc F)

/-- No parameter wants a stand-in; the program's own looks are off. -/
theorem packetGets_plain (f : FuncId) (fn : Func) (hf : Tryd.pinned.checked.prog.funcNamed Rows.packetGetsUptoRow.func = some f) (hfn : Tryd.pinned.checked.prog.funcs[f]? = some fn) :
    false = Tryd.pinned.checked.prog.looks [] ∧ ∀ (j : Nat) t, fn.params[j]? = some t → Tryd.pinned.checked.prog.wantsStandIn t = false := by
  obtain rfl : f = 4 := Option.some.inj ((show Tryd.prog.funcNamed Rows.packetGetsUptoRow.func = some 4 by kernel_rfl).symm.trans hf) |>.symm
  obtain rfl : fn = Tryd.f4 := (Option.some.inj (Tryd.func4.symm.trans hfn)).symm
  refine ⟨by kernel_rfl, fun j t ht => ?_⟩
  rw [Tryd.params4] at ht
  have hm : t ∈ [26] := by simpa using Array.mem_of_getElem? ht
  simp only [List.mem_cons, List.not_mem_nil, or_false] at hm
  rcases hm with rfl
  exact (show Tryd.prog.wantsStandIn 26 = false by kernel_rfl)
/-- The card. -/
theorem packetGets_card : Rows.PacketGetsUptoCardSaid :=
  Claim7.holds_tied_plain_at .later [] _ _ _ _ packetGets_holds (fun _ h => by cases h) (by kernel_rfl) (fun _ h => by cases h) packetGetsUpto_row_tie rfl ⟨rfl, rfl⟩ (by kernel_rfl) rfl packetGets_plain (by kernel_rfl)
end Go.Proofs.YtonfaeenoifomaaDoor
