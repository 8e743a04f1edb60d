/- Part 40 of what the closing text rests on. -/
import Derived.Test.YtdamnoleoakehaaGreatDoorKO38
import Derived.Test.YtdamnoleoakehaaGreatDoorKX29
set_option maxRecDepth 100000
namespace Go.Q
noncomputable section
open Go.RowKit Go.Proofs Go.ChangeShapes Go.WideShapes Go.ChangeAt
open Go.Z hiding cond_false get resF
open Go.Proofs.YtdamnoleoakehaaGreatDoor.Rows (uptoBulk uptoBulkAll)
theorem u32_open {W0 : World} {b0 : Nat} {v : Value} {t : TypeId} (ht : Tryz.prog.underlying t = some (.int .u32)) (hv : Value.okWide Tryz.prog W0 .any b0 t v) : ∃ h : Int, v = .int .u32 h ∧ 0 ≤ h ∧ h ≤ 4294967295 := by
  unfold Value.okWide at hv
  rw [ht] at hv
  unfold Cell.okWide at hv
  rw [ht] at hv
  unfold Cell.ok at hv
  rw [ht] at hv
  cases v with
  | int k n => exact ⟨n, by rw [hv.1], hv.2⟩
  | slice a l c => cases a <;> exact hv.elim
  | _ => first | exact hv.elim | simp_all
theorem bool_open {W0 : World} {b0 : Nat} {v : Value} {t : TypeId} (ht : Tryz.prog.underlying t = some .bool) (hv : Value.okWide Tryz.prog W0 .any b0 t v) : ∃ b : Bool, v = .bool b := by
  unfold Value.okWide at hv
  rw [ht] at hv
  unfold Cell.okWide at hv
  rw [ht] at hv
  unfold Cell.ok at hv
  rw [ht] at hv
  cases v with
  | bool b => exact ⟨b, rfl⟩
  | slice a l c => cases a <;> exact hv.elim
  | _ => first | exact hv.elim | simp_all
theorem opens_calls {H : Type} {enc : TypeId × Value → H} {W0 : World} {b0 : Nat} {v0 v1 v2 : Value} {d : DataW H} {ps : List MemPlace} {base : Nat}
    (hv0 : Value.okWide Tryz.prog W0 .any b0 34 v0) (hv1 : Value.okWide Tryz.prog W0 .any b0 4 v1) (hv2 : Value.okWide Tryz.prog W0 .any b0 9 v2) (h2 : DataW.Trod enc Tryz.prog W0 base (fun _ => true) true 9 v2 d ps) (hb : Bnd 1048576 d) :
    Calls Tryz.prog 4 #[v0, v1, v2] W0 fun e W' => e = .returned (.bool true) ∧ Below W0.heap.size W0 W' := by
  obtain ⟨x, rfl, hh⟩ := u32_open (by kernel_rfl) hv0
  obtain ⟨t, rfl⟩ := bool_open (by kernel_rfl) hv1
  have hs : ∃ s : ByteArray, v2 = .string s := by
    have ht : Tryz.prog.underlying 9 = some .string := by kernel_rfl
    unfold Value.okWide at hv2
    rw [ht] at hv2
    unfold Cell.okWide at hv2
    rw [ht] at hv2
    unfold Cell.ok at hv2
    rw [ht] at hv2
    cases v2 with
    | string s => exact ⟨s, rfl⟩
    | slice a l c => cases a <;> exact hv2.elim
    | _ => first | exact hv2.elim | simp_all
  obtain ⟨s, rfl⟩ := hs
  obtain ⟨fuel, hf⟩ := h2
  obtain ⟨s', e1, e2, hm⟩ := DataW.trod_string (by kernel_rfl) hf
  obtain rfl : s = s' := by
    have : ([Value.string s] : List Value) = [.string s'] := e1
    simpa using this
  have hsz : s.size ≤ 1048576 := by
    rcases hb with hb | hb
    · have e3 := congrArg Prod.fst e2
      simp only at e3
      rw [e3] at hb
      simp only [uptoBulk] at hb
      have : s.data.toList.length = s.size := Array.length_toList
      omega
    · omega
  have hl : (bys s).length ≤ 1048576 := by
    have : (bys s).length = s.size := by unfold bys; rw [List.length_map]; exact Array.length_toList
    omega
  have := opens_bytes (t := t) (h := x) (W0 := W0) (bys_by s) hl hh
  rw [txt_bys] at this
  exact this
end
end Go.Q

