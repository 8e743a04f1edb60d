/- RouteEnds: where what it reads is of bulk at most 1048576, it is true, and the input reads as it did. -/
import Derived.Test.YtgnfpcjndhnglaaB21
import Derived.Test.YtgnfpcjndhnglaaB16
namespace Go.YR
open Go.Proofs
open Go.ChangeShapes Go.WideShapes Go.ChangeAt Go.RowKit
open Go.Y Go.YM
theorem flat42 : flat Try.prog 8 42 = some [.recs [.ints .u8]] := by kernel_rfl
theorem flat9 : flat Try.prog 8 9 = some [.str] := by kernel_rfl
theorem sl42 : ∃ e, Try.prog.underlying 42 = some (.slice e) := ⟨_, Try.underlying42⟩
theorem recs_vias {N n : Nat} {f : Nat → Nat → D} (h : ∀ i, i < n → fitsL N [.ints .u8] (f i)) :
    ∃ l : List (List Int), readsTo (.recs 1 n f) (viasD l) ∧ l.length = n ∧ ∀ a, a ∈ l → a.length ≤ N := by
  refine ⟨(List.range n).map fun i => vl (f i 0), ?_, by simp, fun a ha => ?_⟩
  · have hl : ((List.range n).map fun i => vl (f i 0)).length = n := by simp
    show readsTo (.recs 1 n f) (.recs 1 ((List.range n).map fun i => vl (f i 0)).length (viaCell ((List.range n).map fun i => vl (f i 0))))
    rw [hl]
    refine reads_recs fun i hi j hj => ?_
    have hf := h i hi
    simp only [fitsL, fits] at hf
    obtain ⟨⟨x0, e0, _⟩, _⟩ := hf
    unfold viaCell
    rw [range_get n _ _ hi]
    match j, hj with
    | 0, _ => simp only [e0, vl]
  · obtain ⟨i, hi, rfl⟩ := List.mem_map.1 ha
    have hf := h i (by simpa using hi)
    simp only [fitsL, fits] at hf
    obtain ⟨⟨x1, e1, _, h1⟩, _⟩ := hf
    simp only [e1, vl]; exact h1
section
variable {H : Type} {enc : TypeId × Value → H} {W : World}
theorem open_vias {b0 : Nat} {r : Reach} {v : Value} {d : DataW H} {ps : List MemPlace} {base N : Nat} (hv : Value.okWide Try.prog W r b0 42 v) (h : DataW.Trod enc Try.prog W base (fun _ => true) true 42 v d ps) (hb : Bnd N d) :
    ∃ l : List (List Int), l.length ≤ N ∧ (∀ a, a ∈ l → a.length ≤ N) ∧ (viasD l).holds (fun _ => True) W v := by
  obtain ⟨fuel, hf⟩ := h
  rw [slice_cells sl42 hv] at hf
  obtain ⟨ds, h1, h2, h3⟩ := deep 8 42 fuel _ _ _ N hf flat42 hb
  match ds, h1 with
  | [a0], _ =>
    simp only [fitsL, fits, List.getD_cons_zero, List.getD_cons_succ] at h2
    obtain ⟨⟨n, f, rfl, hn, hfs⟩, _⟩ := h2
    obtain ⟨l, l1, l2, l3⟩ := recs_vias (N := N) (fun i hi => by simpa only [fitsL, fits] using hfs i hi)
    exact ⟨l, by omega, l3, l1 _ _ _ h3.1⟩
theorem open_text {b0 : Nat} {r : Reach} {v : Value} {d : DataW H} {ps : List MemPlace} {base N : Nat} (hv : Value.okWide Try.prog W r b0 9 v) (h : DataW.Trod enc Try.prog W base (fun _ => true) true 9 v d ps) (hb : Bnd N d) :
    ∃ s : ByteArray, s.size ≤ N ∧ v = .string s := by
  obtain ⟨s, rfl⟩ := okWide_string Try.underlying9 hv
  obtain ⟨fuel, hf⟩ := h
  obtain ⟨ds, h1, h2, h3⟩ := deep 8 9 fuel _ _ _ N hf flat9 hb
  match ds, h1 with
  | [a0], _ =>
    simp only [fitsL, fits, List.getD_cons_zero] at h2
    obtain ⟨⟨s', rfl, hs⟩, _⟩ := h2
    have h4 : Value.string s = .string s' := h3.1.1
    cases h4
    exact ⟨s, hs, rfl⟩
end
end Go.YR
namespace Go.Proofs.Ytgnfpcjndhnglaa
open Go.ChangeShapes Go.WideShapes Go.ChangeAt Go.RowKit
open Go.Y Go.YM Go.YR

theorem bulk_two {H : Type} {d0 d1 : DataW H} (hk : Rows.uptoSmall H ([d0, d1] ++ []) = true) : Bnd 1048576 d0 ∧ Bnd 1048576 d1 := by
  have h := of_decide_eq_true hk
  simp only [List.append_nil, Rows.uptoBulkAll] at h
  unfold Bnd
  refine ⟨.inl ?_, .inl ?_⟩ <;> omega

theorem ends_law {f : Nat} (ok : FnIs Try.prog f endsC) {H : Type} {enc : TypeId × Value → H} {W : World} {v0 v1 : Value} {d0 d1 : DataW H} {p0 p1 : List MemPlace}
    (hval : ∀ (j : Nat) t v, #[(42 : TypeId), 9][j]? = some t → #[v0, v1][j]? = some v → Value.okWide Try.prog W .any 0 t v)
    (h0 : DataW.Trod enc Try.prog W 0 (fun _ => true) true 42 v0 d0 p0) (h1 : DataW.Trod enc Try.prog W 0 (fun _ => true) true 9 v1 d1 p1) (hk : Bnd 1048576 d0 ∧ Bnd 1048576 d1) :
    Calls Try.prog f #[v0, v1] W fun e W' => e = .returned (.bool true) ∧ Below W.heap.size W W' := by
  obtain ⟨l, l1, l2, hl⟩ := open_vias (hval 0 42 _ rfl rfl) h0 hk.1
  obtain ⟨s, hs, rfl⟩ := open_text (hval 1 9 _ rfl rfl) h1 hk.2
  have h4' : (D.v (.string s)).holds (fun _ => True) W (.string s) := ⟨rfl, rfl⟩
  exact ok.law (A := fun _ => True) (ads := [.d (viasD l), sO s]) (vs := [v0, .string s]) (ol_cons hl (ol_cons h4' ol_nil)) ⟨l, s, rfl, l1, l2, hs⟩ rfl

set_option maxRecDepth 100000 in
theorem routeEnds_lifted (os : Os) (started : os.Started) (H : Type) (enc : TypeId × Value → H) (F : Stop.Interp) :
    ReturnsInHanded {} Try.checked os 6 .any ((Rows.OpenSpec.upto Rows.routeEndsSpec).pre6 enc Try.prog Try.f6 Rows.routeEndsUptoRow.domain false) (((Rows.OpenSpec.upto Rows.routeEndsSpec).at F).post enc Try.prog Try.f6 false true false false) := by
  refine returnsInHanded_of_cond (C := Try.checked) (s := Rows.OpenSpec.upto Rows.routeEndsSpec) (k := Rows.uptoSmall) rfl Try.own started (by kernel_rfl) Try.func6
    (OpenSpec.witness (enc := enc) (C := Try.checked) (s := Rows.OpenSpec.upto Rows.routeEndsSpec) (k := Rows.uptoSmall) rfl false ⟨#[], #[.slice none 0 0, .string ⟨#[]⟩], []⟩ 8 (by kernel_rfl) (by kernel_rfl) (by kernel_rfl)
      (x := ([.nil, .lit (.string [])], [], [])) (by kernel_rfl) rfl (by kernel_rfl)) ?_
  intro W base args ds gs before hval0 hW _ hk _
  have hval : ∀ (j : Nat) t v, Try.f6.params[j]? = some t → args[j]? = some v → Value.okWide Try.prog W .any base t v := hval0
  have hW' := hW
  obtain ⟨p, q, hA0, hV, rfl, hfz, hnd⟩ := hW
  have hA : DataW.TrodAll enc Try.prog W 0 (fun _ => true) true Try.f6.params.toList args.toList ds p := hA0
  rw [Try.params6] at hA hval
  obtain ⟨v0, vs0, d0, ds0, p0, q0, hargs, rfl, rfl, h0, r0⟩ := trodAll_cons hA
  obtain ⟨v1, vs1, d1, ds1, p1, q1, rfl, rfl, rfl, h1, r1⟩ := trodAll_cons r0
  obtain ⟨rfl, rfl, rfl⟩ := trodAll_nil r1
  obtain rfl : args = #[v0, v1] := by cases args; simp_all
  obtain ⟨rfl, rfl⟩ := trodVars_none hV
  refine (ends_law ok6 hval h0 h1 (bulk_two hk)).mono fun e W' ⟨he, hb⟩ => ?_
  subst he
  exact ⟨_, rfl, post_true (s := Rows.routeEndsSpec) Try.laidOut (by kernel_rfl) rfl (by kernel_rfl) Try.underlying4 hW' ⟨rfl, rfl, rfl⟩ hb⟩

theorem routeEnds_holds : Rows.RouteEndsUptoSaid :=
  OpenClaim.holds_of_cond 6 Try.f6 rfl rfl rfl rfl rfl rfl rfl ⟨rfl, rfl, rfl, rfl, rfl⟩ rfl rfl rfl rfl rfl (by kernel_rfl) Try.func6 (by kernel_rfl)
    (of_decide_eq_true (by kernel_rfl)) (by unfold Func.isWrapper; first | (rw [if_pos (by decide +kernel)]; kernel_rfl) | (rw [if_neg (by decide +kernel)]; exact ⟨rfl, rfl⟩))
    (fun os started H enc _ F => routeEnds_lifted os started H enc F)
end Go.Proofs.Ytgnfpcjndhnglaa
