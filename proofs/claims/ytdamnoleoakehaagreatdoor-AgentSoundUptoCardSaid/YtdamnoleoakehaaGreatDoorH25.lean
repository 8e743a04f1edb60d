/- Part 25 of what the closing text rests on. -/
import Derived.Test.YtdamnoleoakehaaGreatDoorH24
import Derived.Lib.SlBytesConst
import Derived.WalkKit
import Derived.Below
set_option maxRecDepth 100000
namespace Go.Proofs.YtdamnoleoakehaaGreatDoor
open Go.Proofs Go.ZM Go.ZR
open Go.RowKit Go.Z
theorem Tryz.info5p : (Tryz.prog.info? 5).map (fun i => (i.zero, i.size, i.bytes)) = some (some (.int .u8 0), 1, 1) := by kernel_rfl
theorem five : ∃ i, Tryz.prog.info? 5 = some i ∧ i.zero = some (.int .u8 0) ∧ i.size = 1 ∧ i.bytes = 1 := by
  have h := Tryz.info5p
  cases hi : Tryz.prog.info? 5 with
  | none => rw [hi] at h; cases h
  | some i =>
    rw [hi] at h
    simp only [Option.map_some, Option.some.injEq, Prod.mk.injEq] at h
    exact ⟨i, rfl, h.1, h.2.1, h.2.2⟩

def didC : Array Value := #[.int .u8 100, .int .u8 105, .int .u8 100, .int .u8 32]
def didW (w : World) : World := w.alloc (.cells didC 5 (didC.size, didC.size + 1))
theorem did_cell (w : World) {i : Nat} {z : Int} (h : ([100, 105, 100, 32] : List Int)[i]? = some z) : (didW w).cell? ⟨w.heap.size, i, none⟩ = some (.int .u8 z) := by
  have hb : (didW w).heap[w.heap.size]? = some (.cells didC 5 (didC.size, didC.size + 1)) := by
    show (w.heap.push _)[w.heap.size]? = _
    simp
  simp only [World.cell?, hb]
  match i, h with
  | 0, h => simp at h; subst h; rfl
  | 1, h => simp at h; subst h; rfl
  | 2, h => simp at h; subst h; rfl
  | 3, h => simp at h; subst h; rfl
  | _ + 4, h => simp at h
theorem did_old (w : World) {a : Addr} {v : Value} (h : w.cell? a = some v) : (didW w).cell? a = some v := Lib.cell?_alloc_marked _ h

theorem run_did {L : Go.Z.Loc} {l : List Int} {w : World} (hw : L.wf) (hlen : L.len = l.length) (hcap : L.len ≤ L.cap) (hc : ∀ i z, l[i]? = some z → w.cell? ⟨L.b, L.o + i, none⟩ = some (.int .u8 z)) (hsm : sm l.length) (ty : Nat) :
    ∃ cap W', (Builtin.append_ #[41, 41] ty #[.slice (some ⟨w.heap.size, 0, none⟩) 4 4, .slice L.a L.len L.cap]).run Tryz.prog (didW w) = .ok (.slice (some ⟨if l = [] then w.heap.size else w.heap.size + 1, 0, none⟩) (4 + l.length) cap) W' ∧
      4 + l.length ≤ cap ∧ Below w.heap.size w W' ∧ (∀ i z, ([100, 105, 100, 32] ++ l)[i]? = some z → W'.cell? ⟨if l = [] then w.heap.size else w.heap.size + 1, i, none⟩ = some (.int .u8 z)) ∧ (if l = [] then w.heap.size else w.heap.size + 1) < W'.heap.size := by
  obtain ⟨i0, hi, hz0, hz1, hz2⟩ := five
  have hsm' : l.length ≤ 1099511627776 := hsm
  have hB : Below w.heap.size w (didW w) := (Below.refl _ w).alloc (Nat.le_refl _) _
  have hfc : ∀ w', w'.heap = (didW w).heap → (Builtin.firstCells i0.size l.length (.slice L.a L.len L.cap)).run Tryz.prog w' = .ok (l.map (Value.int .u8)).toArray w' := fun w' hh => by
    rw [← hlen]
    refine run_firstCells (P := Tryz.prog) (size := i0.size) (cs := l.map (Value.int .u8)) hw hcap (by rw [hz1]; simp [hlen]) (fun j v hv => ?_) rfl
    rw [List.getElem?_map, Option.map_eq_some_iff] at hv
    obtain ⟨z, hz, rfl⟩ := hv
    have h2 := did_old w (hc j z hz)
    simpa [World.cell?, hh] using h2
  have hsrc : SrcOk Tryz.prog i0 (.int .u8 0) 41 (.slice L.a L.len L.cap) l.length (l.map (Value.int .u8)) (didW w) :=
    .inl ⟨_, Tryz.underlying41, fun k => by simp, fun w' => by rw [hlen]; rfl, hfc _ rfl, hfc _ rfl⟩
  by_cases hnil : l = []
  · subst hnil
    refine ⟨4, didW w, ?_, Nat.le_refl _, hB, fun i z hz => did_cell w (by simpa using hz), ?_⟩
    · refine run_app_room (P := Tryz.prog) Tryz.underlying41 hi hz0 (by rw [hz1]; rfl) hsrc (some ⟨w.heap.size, 0, none⟩) 4 4 (by simp) (didW w) (fun a _ => ?_) (fun h => by cases h)
      rfl
    · show w.heap.size < (w.heap.push _).size
      simp
  · have hpos : 0 < l.length := List.length_pos_iff.2 hnil
    have hold : (Builtin.firstCells i0.size 4 (.slice (some ⟨w.heap.size, 0, none⟩) 4 4)).run Tryz.prog (didW w).drew = .ok (([100, 105, 100, 32] : List Int).map (Value.int .u8)).toArray (didW w).drew := by
      refine run_firstCells (P := Tryz.prog) (size := i0.size) (cs := ([100, 105, 100, 32] : List Int).map (Value.int .u8)) (L := (⟨some ⟨w.heap.size, 0, none⟩, 4, 4⟩ : Go.Z.Loc)) (.inr rfl) (Nat.le_refl _) (by rw [hz1]; rfl) (fun j v hv => ?_) rfl
      rw [List.getElem?_map, Option.map_eq_some_iff] at hv
      obtain ⟨z, hz, rfl⟩ := hv
      have := did_cell w hz
      show (didW w).drew.cell? ⟨w.heap.size, 0 + j, none⟩ = _
      rw [Nat.zero_add]
      exact this
    have hrun := run_app_grow (P := Tryz.prog) (ty := ty) Tryz.underlying41 hi hz0 (by rw [hz1]; rfl) hsrc (some ⟨w.heap.size, 0, none⟩) 4 4 _ (by omega) hold (by omega) (by rw [hz2]; omega)
    have hsz : (didW w).heap.size = w.heap.size + 1 := by
      show (w.heap.push _).size = _
      simp
    rw [hsz] at hrun
    simp only [if_neg hnil]
    refine ⟨_, _, hrun, ?_, ?_, fun i z hz => ?_, ?_⟩
    · exact grownCap_ge _ _ _ _
    · refine hB.trans ?_
      have hb := (Below.refl (didW w).heap.size (didW w).drew).alloc (Nat.le_refl _) (.cells ((([100, 105, 100, 32] : List Int).map (Value.int .u8)).toArray ++ (l.map (Value.int .u8)).toArray ++ Builtin.zeroCells (Value.int .u8 0).cells (grownCap (didW w) (4 + l.length) 4 5 - (4 + l.length))) 5)
      exact ⟨hb.os, hb.tape, hb.output, hb.size, fun b hb1 => hb.block b (by omega)⟩
    · have hlt : i < 4 + l.length := by
        have := (List.getElem?_eq_some_iff.1 hz).1
        simp at this
        omega
      have e1 : (((([100, 105, 100, 32] : List Int).map (Value.int .u8)).toArray ++ (l.map (Value.int .u8)).toArray ++ Builtin.zeroCells (Value.int .u8 0).cells (grownCap (didW w) (4 + l.length) 4 5 - (4 + l.length))) : Array Value)[i]? = some (.int .u8 z) := by
        rw [Array.getElem?_append_left (by simp; omega)]
        rw [List.append_toArray, List.getElem?_toArray, ← List.map_append, List.getElem?_map, hz]
        rfl
      have e2 : ((didW w).drew.alloc (.cells ((([100, 105, 100, 32] : List Int).map (Value.int .u8)).toArray ++ (l.map (Value.int .u8)).toArray ++ Builtin.zeroCells (Value.int .u8 0).cells (grownCap (didW w) (4 + l.length) 4 5 - (4 + l.length))) 5)).heap[w.heap.size + 1]? = some (.cells ((([100, 105, 100, 32] : List Int).map (Value.int .u8)).toArray ++ (l.map (Value.int .u8)).toArray ++ Builtin.zeroCells (Value.int .u8 0).cells (grownCap (didW w) (4 + l.length) 4 5 - (4 + l.length))) 5) := by
        rw [← hsz]
        show ((didW w).heap.push _)[(didW w).heap.size]? = _
        simp
      simp only [World.cell?, e2]
      exact e1
    · show _ < ((didW w).heap.push _).size
      simp [hsz]

theorem wp_append2 {P : Program} {o : Oper} {a : Act} {w w' : World} {v : Value} {K : Act → World → Prop} {Q : Exit → Act → World → Prop} {s x : Operand} {t1 t2 : Nat}
    (ho : o.op = .call { callee := .builtin .append, args := #[s, x], argTypes := #[t1, t2] }) (hrun : (Builtin.append_ #[t1, t2] o.type #[a.eval s, a.eval x]).run P w = .ok v w') (hk : K (a.put o.dst v) w') : o.wp P a w K Q := by
  obtain ⟨dst, op, type, pos, after, guard⟩ := o
  simp only at ho
  subst ho
  unfold Oper.wp
  rw [show (execOp a.eval ⟨dst, .call { callee := .builtin .append, args := #[s, x], argTypes := #[t1, t2] }, type, pos, after, guard⟩).run P w = ((do pure (Next.value (← Builtin.append_ #[t1, t2] type #[a.eval s, a.eval x])) : Sem Next)).run P w from by simp [execOp, resolve, invoke, Go.builtin]]
  simp only [Sem.run_bind, hrun, Result.andThen]
  exact hk

set_option maxHeartbeats 1000000 in
theorem Tryz.work {L : Go.Z.Loc} {l : List Int} {w : World} (hw : L.wf) (hlen : L.len = l.length) (hcap : L.len ≤ L.cap) (hc : ∀ i z, l[i]? = some z → w.cell? ⟨L.b, L.o + i, none⟩ = some (.int .u8 z)) (hsm : sm l.length) :
    Calls Tryz.prog 37 #[.slice L.a L.len L.cap] w fun e W' => ∃ g cap, e = .returned (.slice (some ⟨g, 0, none⟩) (4 + l.length) cap) ∧ w.heap.size ≤ g ∧ g < W'.heap.size ∧ 4 + l.length ≤ cap ∧ Below w.heap.size w W' ∧
      ∀ i z, ([100, 105, 100, 32] ++ l)[i]? = some z → W'.cell? ⟨g, i, none⟩ = some (.int .u8 z) := by
  have kc := fun (w : World) (C : Array Value) (n c : Nat) => Lib.run_convert_bytes_const (P := Tryz.prog) w 41 5 C n c Tryz.underlying41 Tryz.underlying5
  obtain ⟨cap, W', ka, h1, h2, h3, h4⟩ := run_did hw hlen hcap hc hsm 41
  have hge : w.heap.size ≤ (if l = [] then w.heap.size else w.heap.size + 1) := by split <;> omega
  generalize (if l = [] then w.heap.size else w.heap.size + 1) = g at ka h3 h4 hge
  go_enter Tryz.func37, Tryz.ntmps37
  go_wp2_with (at_builtin; go_loud (refine wpList_plain rfl fun K hK => wp_append2 rfl ka (hK _ _ ?_)))
  go_ret
  exact ⟨_, cap, rfl, hge, h4, h1, h2, h3⟩

theorem ok37 : FnIs Tryz.prog 37 workC := by
  refine ⟨fun w A args vs fp hA hnd hlt hpre _ => ?_, entersOk Tryz.func37 (by kernel_rfl) (by kernel_rfl)⟩
  obtain ⟨l, rfl, hl⟩ := hpre
  match vs, hA with
  | [], hA => simp [OL.holds] at hA
  | _ :: _ :: _, hA => simp [OL.holds] at hA
  | [v1], hA =>
    simp only [OL.holds, O.holds, bsO] at hA
    obtain ⟨_, _, rfl, ⟨hv1, rfl⟩, rfl⟩ := hA
    obtain ⟨L, rfl, hwf, hinn, hlen, hcap, hcell⟩ := D.holds_ints.1 hv1
    refine (Tryz.work hwf hlen hcap hcell hl).mono ?_
    rintro e W' ⟨g, cap, rfl, g1, g2, g3, hbel, hc⟩
    refine ⟨[.slice (some ⟨g, 0, none⟩) (4 + l.length) cap], [], [], rfl, ⟨hbel.os, hbel.tape, hbel.output, hbel.size, fun b hb _ => hbel.block b hb⟩, by simp, by simp, ?_, ?_⟩
    · exact ⟨[], [], rfl, by simp [O.holds], by simp [OL.holds]⟩
    · refine ⟨[], [], rfl, ?_, by simp [OL.holds]⟩
      refine ⟨⟨⟨some ⟨g, 0, none⟩, 4 + l.length, cap⟩, rfl, .inr rfl, fun _ => ⟨?_, g2⟩, by simp [vl, dO, at_, bsO]; omega, g3, fun i z hz => ?_⟩, rfl⟩
      · unfold After
        first
          | exact ⟨by simp, .inl g1⟩
          | exact ⟨.inl g1, by simp⟩
          | (refine ⟨?_, ?_⟩ <;> first | simp | exact .inl g1 | exact .inr g1 | exact g1)
          | exact .inl g1
          | exact .inr g1
      · show W'.cell? ⟨g, 0 + i, none⟩ = _
        rw [Nat.zero_add]
        exact hc i z hz
end Go.Proofs.YtdamnoleoakehaaGreatDoor
