/- The loud operations are sound: all. -/
import Derived.Test.YtonfaeenoifomaaZ16
namespace Go.Z
open Go.RowKit

section
variable {P : Program} {K : Ctx} {θ : Th} {h : List (Nat × R)} {nx : Nat} {w : World}

/-- A new array, all of it. -/
theorem new_sat (hs : SatH K θ h nx w) {e n cap : Nat} {r : D} {cells : List Value} {arr : Array Value} (hlen : r.len = n) (hle : n ≤ cap) (hsz : cap * r.es ≤ arr.size)
    (hpre : ∀ (j : Nat) (v : Value), cells[j]? = some v → arr[j]? = some v)
    (hcells : ∀ X' : Nat → Prop, (∀ b, b < w.heap.size → Free K θ h b → X' b) → ∀ w' : World, (∀ b, b < w.heap.size → w'.heap[b]? = w.heap[b]?) → r.cellsAre X' w' cells) :
    SatH K (θ.add nx { a := some ⟨w.heap.size, 0, none⟩, len := n, cap := cap }) ((nx, .own e r) :: h) (nx + 1) (w.alloc (.cells arr e)) := by
  have hb := below_alloc w (.cells arr e)
  refine hs.add_new hb (fun _ => Nat.le_refl _) (fun θ' X' hθ hX1 hX2 => ?_)
  have hc := hcells X' hX1 _ (fun b hb' => hb.block b hb')
  have hheap : (w.alloc (.cells arr e)).heap[w.heap.size]? = some (.cells arr e (0, 0)) := by
    show (w.heap.push _)[w.heap.size]? = _
    simp
  refine ⟨D.at_of_cells hlen.symm hle (fun j v hv => ?_) hc, .inr rfl, fun _ => ⟨_, hheap, ?_⟩⟩
  · show World.cell? _ ⟨w.heap.size, 0 + j, none⟩ = _
    simp only [World.cell?, hheap, Nat.zero_add]
    simpa using hpre j v hv
  · show 0 + cap * r.es ≤ _
    omega

theorem makeSliceL_sound (hs : SatH K θ h nx w) {T : Nat} {l c : SV} {u v : Value} (hu : V θ l u) (hv : V θ c v) {k : HK} (hq : makeSliceL P T l c h nx k) :
    LOK K θ nx k ((Instr.makeSlice T u v).run P w) := by
  unfold makeSliceL at hq
  split at hq <;> try exact hq.elim
  rename_i e k1 n k2 m hT
  split at hq <;> try exact hq.elim
  rename_i kk i hke hi
  split at hq <;> try exact hq.elim
  rename_i k' hz
  obtain ⟨b1, c1, h5⟩ := cond_false hq
  obtain ⟨c1, c2, c3, c4, c5⟩ := c1
  have b1 := nbeq b1
  subst c5
  simp only [V] at hu hv; subst hu hv
  have hn : n = (n.toNat : Int) := by omega
  have hm : m = (m.toNat : Int) := by omega
  have w1 : IntKind.i64.wrap n = n := IntWalk.i64_in _ (by omega)
  have w2 : IntKind.i64.wrap m = m := IntWalk.i64_in _ (by omega)
  have e3 : ((m.toNat * i.bytes : Nat) : Int) = (m.toNat : Int) * (i.bytes : Int) := Int.natCast_mul _ _
  have e4 : ¬ (281474976710656 < (i.bytes : Int) * m) := by rw [Int.mul_comm, hm]; omega
  refine ⟨_, _, _, _, _, _, h5, new_sat (n := n.toNat) (cap := m.toNat) (e := e) (cells := (List.replicate n.toNat 0).map (Value.int kk))
    (arr := ((Array.range (m.toNat * i.size)).map fun j => (Value.int kk 0).cells[j % (Value.int kk 0).cells.size]!)) hs (by simp [D.len]) (by omega) (by simp [D.es, b1]) (fun j v hv => ?_) (fun X' _ w' _ => rfl),
    Th.add_ext (hs.fresh nx (Nat.le_refl _)) _, by simp only [V]; exact ⟨_, Th.add_self _ _ _, rfl⟩, ?_, by omega⟩
  · rw [List.getElem?_map, List.getElem?_replicate] at hv
    split at hv <;> simp at hv
    subst hv
    have : j < m.toNat := by omega
    simp [b1, this, Value.cells, Nat.mod_one]
  · have h0 : ¬ (n < 0) := by omega
    have h1 : ¬ (m < n) := by omega
    have h2 : ¬ (m < 0) := by omega
    simp [Instr.makeSlice, run_underlying hT, asInt, asIntOf, run_typeInfo hi, run_sizeOf hi, w1, w2, h0, h1, h2, e4, newRow, Loc.val]
    split
    · rename_i hz0
      rw [hz0]
      congr 2
      simp
    · rw [run_zero hi hz]; rfl

theorem DL.get {X : Nat → Prop} {w' : World} : ∀ {l : List D} {vs : List Value} {p : Nat}, DL.holds X w' l vs → (hp : p < l.length) → ∃ c, vs[p]? = some c ∧ l[p].holds X w' c
  | [], _, _, _, hp => by simp at hp
  | _ :: _, [], _, h, _ => h.elim
  | _ :: _, v :: _, 0, h, _ => ⟨v, rfl, h.1⟩
  | _ :: l, _ :: vs, p + 1, h, hp => by simpa using DL.get (l := l) (vs := vs) h.2 (by simpa using hp)

theorem cellsOne : ∀ {l : List SV} {us : List Value}, VL θ l us → l.all oneS = true → ∀ u ∈ us, u.oneCell' = true
  | [], us, h1, _, u, hu => by rw [VL_nil_left h1] at hu; cases hu
  | s :: l, us, h1, h2, u, hu => by
    obtain ⟨v, vs, rfl, hv, hvs⟩ := VL_cons_left h1
    simp only [List.all_cons, Bool.and_eq_true] at h2
    rcases List.mem_cons.1 hu with rfl | hu
    · exact oneCell_of h2.1 hv
    · exact cellsOne hvs h2.2 u hu

theorem fillS_length {place : Nat → Option (Nat × Nat)} : ∀ {parts : List (Nat × SV)} {cells r : List SV}, fillS place cells parts = some r → r.length = cells.length
  | [], cells, r, h => by simp [fillS] at h; rw [h]
  | (i, s) :: rest, cells, r, h => by
    unfold fillS at h
    split at h <;> try (cases h; done)
    rename_i off size cs _ _
    cases hc : (Nat.beq cs.length size && Nat.ble (off + size) cells.length) with
    | false => rw [hc] at h; cases h
    | true =>
      rw [hc] at h
      simp only [Bool.and_eq_true] at hc
      have e1 := nbeq hc.1
      have e2 := nble hc.2
      rw [fillS_length (parts := rest) h]
      simp; omega

theorem fillS_places {size : Nat} : ∀ i r, placesSl size i = some r → (fun i => some (i * size, size)) i = some r := fun _ _ h => h

theorem intsOf_sound {kk : IntKind} : ∀ {cs : List SV} {zs : List Int} {us : List Value}, intsOf kk cs = some zs → VL θ cs us → us = zs.map (Value.int kk)
  | [], zs, us, h1, h2 => by simp [intsOf] at h1; subst h1; rw [VL_nil_left h2]; rfl
  | c :: cs, zs, us, h1, h2 => by
    obtain ⟨v, vs, rfl, hv, hvs⟩ := VL_cons_left h2
    unfold intsOf at h1
    split at h1 <;> try (cases h1; done)
    · rename_i heq; cases heq
    · rename_i k' z l heq
      cases heq
      split at h1 <;> try (cases h1; done)
      rename_i zs' hz
      split at h1 <;> cases h1
      rename_i hk; subst hk
      simp only [V] at hv
      rw [hv, intsOf_sound hz hvs]; rfl

theorem buildSliceL_sound (hs : SatH K θ h nx w) {T len : Nat} {parts : List (Nat × Value)} {ixs : List Nat} {vs : List SV} {k : HK}
    (hix : parts.map (·.1) = ixs) (hvs : VL θ vs (parts.map (·.2))) (hq : buildSliceL P T len ixs vs h nx k) :
    LOK K θ nx k ((Instr.buildSlice T len parts.toArray).run P w) := by
  unfold buildSliceL at hq
  split at hq <;> try exact hq.elim
  rename_i e hT
  split at hq <;> try exact hq.elim
  rename_i i hi
  split at hq <;> try exact hq.elim
  rename_i z hz
  obtain ⟨hc, hq0⟩ := cond_false hq
  clear hq
  simp only [Bool.and_eq_true] at hc
  have c1 := nble hc.1.1
  have c2 := nblt hc.1.2
  have c3 := nbeq hc.2
  split at hq0 <;> try exact hq0.elim
  rename_i cs hcs
  have hf2 : PV θ (ixs.zip vs) parts := by
    subst hix
    clear hcs hq0
    induction parts generalizing vs with
    | nil => simp [PV]
    | cons p ps ih =>
      cases vs with
      | nil => simp [VL] at hvs
      | cons s ss =>
        simp only [List.map_cons, VL] at hvs
        simp only [List.map_cons, List.zip_cons_cons]
        exact ⟨⟨rfl, hvs.1⟩, ih hvs.2⟩
  have hz0 : VL θ ((List.range (len * i.size)).map fun j => liftK1 (z.cells.toList.getD (j % i.size) undef)) ((Array.range (len * i.size)).map fun j => z.cells[j % z.cells.size]!).toList := by
    have : ((Array.range (len * i.size)).map fun j => z.cells[j % z.cells.size]!).toList = (List.range (len * i.size)).map fun j => z.cells.toList.getD (j % i.size) undef := by
      rw [Array.toList_map]
      simp only [Array.toList_range]
      apply List.map_congr_left
      intro j _
      rw [c3]
      have hlt : j % i.size < z.cells.size := by rw [c3]; exact Nat.mod_lt _ c2
      rw [getElem!_pos z.cells _ hlt]
      simp [List.getD, List.getElem?_eq_getElem (show j % i.size < z.cells.toList.length by simpa using hlt)]
    rw [this]
    have := VL_liftK1 θ ((List.range (len * i.size)).map fun j => z.cells.toList.getD (j % i.size) undef)
    simpa [Function.comp_def] using this
  obtain ⟨out, h1, h2⟩ := fillS_sound (θ := θ) (placeV := fun j => some (j * i.size, i.size)) (fun j r hr => hr) _ _ _ _ _ hf2 hz0 hcs
  have hrun : (Instr.buildSlice T len parts.toArray).run P w = .ok (.slice (some ⟨w.heap.size, 0, none⟩) len len) (w.alloc (.cells out e)) := by
    have hb : ¬ (16777216 < len * i.size) := by omega
    simp only [Instr.buildSlice, Sem.run_bind, run_underlying hT, Result.andThen, run_sizeOf hi]
    rw [if_neg (by simpa using hb), Sem.run_ite]
    split
    · rename_i h0
      have e0 : (Array.map (fun x => (#[] : Array Value)[x % (#[] : Array Value).size]!) (Array.range (len * i.size))) = ((Array.range (len * i.size)).map fun j => z.cells[j % z.cells.size]!) := by
        rw [h0]; simp
      simp only [Sem.run_bind, Sem.run_pure, Result.andThen]
      rw [e0, h1]; rfl
    · simp only [Sem.run_bind, run_zero hi hz, Result.andThen, Sem.run_pure]
      rw [h1]; rfl
  have hcl := VL_length h2
  have hfl := fillS_length hcs
  simp at hfl
  have hos : out.size = len * i.size := by
    have : out.toList.length = out.size := by simp
    omega
  split at hq0
  · rename_i kk hke
    split at hq0 <;> try exact hq0.elim
    rename_i zs hzs
    obtain ⟨b1, h5⟩ := cond_false hq0
    have b1 := nbeq b1
    have hout := intsOf_sound hzs h2
    refine ⟨_, _, _, _, _, _, h5, new_sat (n := len) (cap := len) (e := e) (cells := out.toList) (arr := out) hs ?_ (Nat.le_refl _) ?_ (fun j v hv => by simpa using hv) (fun X' _ w' _ => hout),
      Th.add_ext (hs.fresh nx (Nat.le_refl _)) _, by simp only [V]; exact ⟨_, Th.add_self _ _ _, rfl⟩, hrun, by omega⟩
    · have := congrArg List.length hout
      simp at this
      simp [D.len]; rw [← this, hos, b1, Nat.mul_one]
    · simp [D.es, hos, b1]
  · rename_i hke
    split at hq0 <;> try exact hq0.elim
    rename_i ds hds
    have hs1 : SatH K θ (freezeL h cs) nx w := freezeL_sound hs
    have hdl : DL.holds (Free K θ (freezeL h cs)) w ds out.toList := dsOf_sound hs1 h2 hds
    refine ⟨_, _, _, _, _, _, hq0, new_sat (n := len) (cap := len) (e := e) (cells := out.toList) (arr := out) hs1 rfl (Nat.le_refl _) ?_ (fun j v hv => by simpa using hv) (fun X' hX' w' hw' => ?_),
      Th.add_ext (hs.fresh nx (Nat.le_refl _)) _, by simp only [V]; exact ⟨_, Th.add_self _ _ _, rfl⟩, hrun, by omega⟩
    · simp [D.es, hos]
    · refine ⟨by simp [hos], fun i' hi' j' hj' => ?_⟩
      have hdl' : DL.holds X' w' ds out.toList := DL.holds_mono (fun b hb hf => ⟨hX' b hb hf, hw' b hb⟩) hdl
      have hlt : i' * i.size + j' < ds.length := by
        rw [DL.length hdl]
        simp only [Array.length_toList, hos]
        have : (i' + 1) * i.size ≤ len * i.size := Nat.mul_le_mul_right _ hi'
        rw [Nat.add_mul] at this; omega
      obtain ⟨c, g1, g2⟩ := DL.get hdl' hlt
      refine ⟨c, g1, ?_⟩
      simp only [gridD, List.getD, List.getElem?_eq_getElem hlt, Option.getD_some]
      exact g2
end
end Go.Z
