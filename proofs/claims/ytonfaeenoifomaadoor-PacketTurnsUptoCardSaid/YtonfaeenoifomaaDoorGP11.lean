/- PacketTurns: where what it reads is of bulk at most 1048576, it is true, and the input reads as it did. -/
import Derived.Test.YtonfaeenoifomaaDoorG10
import Derived.Test.YtonfaeenoifomaaDoorCards
import Derived.Test.YtonfaeenoifomaaDoorTie
import Derived.SevenTiedAt
set_option maxRecDepth 100000
namespace Go.Proofs.YtonfaeenoifomaaDoor
open Go.ChangeShapes Go.WideShapes Go.ChangeAt Go.RowKit
open Go.Z Go.ZM Go.ZR

theorem packetTurns_law {H : Type} {enc : TypeId × Value → H} {W : World} {v0 v1 v2 : Value} {d0 d1 d2 : DataW H} {p0 p1 p2 : List MemPlace}
    (hval : ∀ (j : Nat) t v, #[(31 : TypeId), 25, 22][j]? = some t → #[v0, v1, v2][j]? = some v → Value.okWide Tryd.prog W .any 0 t v)
    (t0 : DataW.Trod enc Tryd.prog W 0 (fun _ => true) true 31 v0 d0 p0) (t1 : DataW.Trod enc Tryd.prog W 0 (fun _ => true) true 25 v1 d1 p1) (t2 : DataW.Trod enc Tryd.prog W 0 (fun _ => true) true 22 v2 d2 p2)
    (k0 : Bnd 1048576 d0) (k1 : Bnd 1048576 d1) (k2 : Bnd 1048576 d2) (hL : laidMetH Tryd.prog Rows.packetTurnsUptoRow.laid W) : Calls Tryd.prog 6 #[v0, v1, v2] W fun e W' => e = .returned (.bool true) ∧ Below W.heap.size W W' := by
  obtain ⟨x0, h0, o0⟩ := open31 (hval 0 31 _ rfl rfl) t0 k0
  obtain ⟨x1, h1, o1⟩ := open25 (hval 1 25 _ rfl rfl) t1 k1
  obtain ⟨x2, h2, o2⟩ := open22 (hval 2 22 _ rfl rfl) t2 k2
  exact ok6.law (A := fun _ => True) (ads := [pacO x0, iO .u16 x1, iO .u32 x2]) (vs := [v0, v1, v2]) (ol_consO o0 (ol_consO o1 (ol_consO o2 ol_nil))) ⟨x0, x1, x2, rfl, h0, h1, h2⟩ rfl (table hL)

theorem packetTurns_met (os : Os) : laidMet Tryd.prog Rows.packetTurnsUptoRow.laid ((laidWorld os).forCall (fun _ _ => 0) ⟨#[], #[.agg #[.int .u16 0, .int .u16 0, .int .u32 0, .slice none 0 0], .int .u16 0, .int .u32 0], []⟩).memory :=
  laidMet_of_run' 8 (by kernel_rfl) (by kernel_rfl)
theorem packetTurns_reads (os : Os) {H : Type} (enc : TypeId × Value → H) : ∃ places, DataW.whole enc Tryd.prog ((laidWorld os).forCall (fun _ _ => 0) ⟨#[], #[.agg #[.int .u16 0, .int .u16 0, .int .u32 0, .slice none 0 0], .int .u16 0, .int .u32 0], []⟩).memory Tryd.f6.params.toList Rows.packetTurnsSpec.vars false #[.agg #[.int .u16 0, .int .u16 0, .int .u32 0, .slice none 0 0], .int .u16 0, .int .u32 0].toList 8 = some ([.agg [.lit (.int .u16 0), .lit (.int .u16 0), .lit (.int .u32 0), .nil], .lit (.int .u16 0), .lit (.int .u32 0)], [], places) :=
  ⟨[], by kernel_rfl⟩

theorem packetTurns_lifted (os : Os) (started : os.Started) (H : Type) (enc : TypeId × Value → H) (F : Stop.Interp) :
    ReturnsInHanded {} Tryd.checked os 6 .any ((Rows.OpenSpec.upto Rows.packetTurnsSpec).preRow enc Tryd.prog Tryd.f6 Rows.packetTurnsUptoRow.domain false Rows.packetTurnsUptoRow.laid) (((Rows.OpenSpec.upto Rows.packetTurnsSpec).at F).post enc Tryd.prog Tryd.f6 false true false false) := by
  obtain ⟨places, hx⟩ := packetTurns_reads os enc
  refine returnsInHanded_of_row (C := Tryd.checked) (s := Rows.OpenSpec.upto Rows.packetTurnsSpec) Tryd.own started (by kernel_rfl) Tryd.func6
    (witness_row_at (enc := enc) (C := Tryd.checked) false (laidWorld os) #[.agg #[.int .u16 0, .int .u16 0, .int .u32 0, .slice none 0 0], .int .u16 0, .int .u32 0] rfl (by kernel_rfl) (by kernel_rfl) (by kernel_rfl)
      (OpenSpec.preRow_of_cond 8 hx (by kernel_rfl) (fun k hk => by cases hk; kernel_rfl) (by kernel_rfl) (packetTurns_met os))) ?_
  intro W base args ds gs before hval0 hW _ hcond _ hL _ _
  have hk := hcond _ rfl
  have hval : ∀ (j : Nat) t v, Tryd.f6.params[j]? = some t → args[j]? = some v → Value.okWide Tryd.prog W .any base t v := hval0
  have hW' := hW
  obtain ⟨p, q, hA0, hV, rfl, hfz, hnd⟩ := hW
  have hA : DataW.TrodAll enc Tryd.prog W 0 (fun _ => true) true Tryd.f6.params.toList args.toList ds p := hA0
  rw [Tryd.params6] at hA hval
  obtain ⟨v0, vs0, d0, ds0, p0, q0, hargs, rfl, rfl, h0, r0⟩ := trodAll_cons hA
  obtain ⟨v1, vs1, d1, ds1, p1, q1, rfl, rfl, rfl, h1, r1⟩ := trodAll_cons r0
  obtain ⟨v2, vs2, d2, ds2, p2, q2, rfl, rfl, rfl, h2, r2⟩ := trodAll_cons r1
  obtain ⟨rfl, rfl, rfl⟩ := trodAll_nil r2
  obtain rfl : args = #[v0, v1, v2] := by cases args; simp_all
  obtain ⟨rfl, rfl⟩ := trodVars_none hV
  refine (packetTurns_law hval h0 h1 h2 (bulk_in hk (by simp)) (bulk_in hk (by simp)) (bulk_in hk (by simp)) hL).mono fun e W' ⟨he, hb⟩ => ?_
  subst he
  exact ⟨_, rfl, post_true (s := Rows.packetTurnsSpec) Tryd.laidOut (by kernel_rfl) rfl (by kernel_rfl) Tryd.underlying4 hW' ⟨rfl, rfl, rfl⟩ hb⟩

theorem packetTurns_holds : Rows.PacketTurnsUptoSaid :=
  OpenClaim.holds_of_cond 6 Tryd.f6 rfl rfl rfl rfl rfl rfl rfl ⟨rfl, rfl, rfl, rfl, rfl⟩ rfl rfl rfl rfl rfl (by kernel_rfl) Tryd.func6 (by kernel_rfl)
    (of_decide_eq_true (by kernel_rfl)) (by unfold Func.isWrapper; first | (rw [if_pos (by decide +kernel)]; kernel_rfl) | (rw [if_neg (by decide +kernel)]; exact ⟨rfl, rfl⟩))
    (fun os started H enc _ F => by rw [OpenClaim.pre_eq_preRow]; exact packetTurns_lifted os started H enc F)

/-- No parameter wants a stand-in; the program's own looks are off. -/
theorem packetTurns_plain (f : FuncId) (fn : Func) (hf : Tryd.pinned.checked.prog.funcNamed Rows.packetTurnsUptoRow.func = some f) (hfn : Tryd.pinned.checked.prog.funcs[f]? = some fn) :
    false = Tryd.pinned.checked.prog.looks [] ∧ ∀ (j : Nat) t, fn.params[j]? = some t → Tryd.pinned.checked.prog.wantsStandIn t = false := by
  obtain rfl : f = 6 := Option.some.inj ((show Tryd.prog.funcNamed Rows.packetTurnsUptoRow.func = some 6 by kernel_rfl).symm.trans hf) |>.symm
  obtain rfl : fn = Tryd.f6 := (Option.some.inj (Tryd.func6.symm.trans hfn)).symm
  refine ⟨by kernel_rfl, fun j t ht => ?_⟩
  rw [Tryd.params6] at ht
  have hm : t ∈ [31, 25, 22] := by simpa using Array.mem_of_getElem? ht
  simp only [List.mem_cons, List.not_mem_nil, or_false] at hm
  rcases hm with rfl | rfl | rfl
  · exact (show Tryd.prog.wantsStandIn 31 = false by kernel_rfl)
  · exact (show Tryd.prog.wantsStandIn 25 = false by kernel_rfl)
  · exact (show Tryd.prog.wantsStandIn 22 = false by kernel_rfl)
/-- The card. -/
theorem packetTurns_card : Rows.PacketTurnsUptoCardSaid :=
  Claim7.holds_tied_plain_at .later [] _ _ _ _ packetTurns_holds (fun _ h => by cases h) (by kernel_rfl) (fun _ h => by cases h) packetTurnsUpto_row_tie rfl ⟨rfl, rfl⟩ (by kernel_rfl) rfl packetTurns_plain (by kernel_rfl)
end Go.Proofs.YtonfaeenoifomaaDoor
