/- Part 11 of what the closing text rests on. -/
import Derived.Test.YtdamnoleoakehaaGreatDoorH10
namespace Go.Z
open Go.RowKit

section
variable {P : Program} {K : Ctx} {θ : Th} {h : List (Nat × R)} {nx : Nat} {w : World}

theorem run_firstCells {size m : Nat} {w0 : World} {L : Loc} {cs : List Value} (hw : L.wf) (hcap : L.len ≤ L.cap) (hl : cs.length = L.len * size)
    (hload : ∀ j v, cs[j]? = some v → w0.cell? ⟨L.b, L.o + j, none⟩ = some v) (hm : m = L.len) : (Builtin.firstCells size m L.val).run P w0 = .ok cs.toArray w0 := by
  subst hm
  unfold Loc.val
  cases ha : L.a with
  | none =>
    rcases hw with h0 | h0
    · have : L.len = 0 := by omega
      rw [this] at hl; simp at hl; subst hl
      rfl
    · rw [ha] at h0; cases h0
  | some a =>
    rcases hw with h0 | h0
    · have h1 : L.len = 0 := by omega
      rw [h1] at hl ⊢; simp at hl; subst hl
      exact run_firstCells_some w0 size 0 a 0 L.cap [] (by simp) (fun j v hv => by simp at hv)
    · rw [ha] at h0; cases h0
      exact run_firstCells_some w0 size L.len _ _ _ cs hl (fun j v hv => by rw [add_mk]; exact hload j v hv)

theorem srcD_sound (hs : SatH K θ h nx w) {e xT : Nat} {i : TypeInfo} {z : Value} (hi : P.info? e = some i) (hz : i.zero = some z) {x : SV} {u : Value} (hu : V θ x u) {c : Prop} {d : D}
    (hq : srcD P e xT x h = some (c, d)) (hc : c) (hes : d.es = i.size) :
    ∃ news, SrcOk P i z xT u d.len news w ∧ d.cellsAre (Free K θ h) w news := by
  unfold srcD at hq
  split at hq
  · rename_i e' m hT
    split at hq <;> cases hq
    rename_i hd
    obtain ⟨L, hL, hat, hw⟩ := arrOf_sound hs hd
    simp only [V] at hu
    obtain ⟨L', hL', rfl⟩ := hu
    obtain rfl := Option.some.inj (hL.symm.trans hL')
    obtain ⟨l1, l2⟩ := D.at_len hat
    obtain ⟨cs, a1, a2, a3⟩ := D.at_cells hat
    refine ⟨cs, .inl ⟨_, hT, fun k => by simp, fun w' => ?_, ?_, ?_⟩, a3⟩
    · rw [← l1]; rfl
    · exact run_firstCells hw l2 (by rw [a1, l1, hes]) a2 l1.symm
    · exact run_firstCells hw l2 (by rw [a1, l1, hes]) a2 l1.symm
  · rename_i s hT
    split at hq <;> cases hq
    simp only [V] at hu; subst hu
    have hsz : s.extract 0 s.size = s := by
      apply ByteArray.ext; simp
    have hlen : (D.ints IntKind.u8 (s.data.toList.map fun b => (b.toNat : Int))).len = s.size := by
      show (s.data.toList.map _).length = s.data.size
      rw [List.length_map, Array.length_toList]
    refine ⟨s.data.toList.map fun b => .int .u8 (b.toNat : Int), .inl ⟨_, hT, fun k => by simp, fun w' => ?_, ?_, ?_⟩, by simp [D.cellsAre, Function.comp_def]⟩
    · rw [hlen]; rfl
    · rw [hlen]; simp only [Builtin.firstCells, hsz]; simp
      apply Array.ext'; simp
    · rw [hlen]; simp only [Builtin.firstCells, hsz]; simp
      apply Array.ext'; simp
  · rename_i k kk zz hT
    split at hq <;> try (cases hq; done)
    rename_i ke hke
    split at hq <;> try (cases hq; done)
    rename_i i' hi'
    split at hq <;> cases hq
    rename_i k' hz'
    obtain rfl := Option.some.inj (hi.symm.trans hi')
    obtain rfl := Option.some.inj (hz.symm.trans hz')
    obtain ⟨c1, c2, c3, c4⟩ := hc
    subst c4
    simp only [V] at hu; subst hu
    have hlen : (D.ints k' (List.replicate zz.toNat 0)).len = zz.toNat := by simp [D.len]
    refine ⟨(Builtin.zeroCells (Value.int k' 0).cells zz.toNat).toList, .inr ⟨k, kk, hT, by rw [hlen, Int.toNat_of_nonneg c1], by rw [hlen]; omega, by rw [hlen]; exact c3, by rw [hlen]⟩, ?_⟩
    simp only [D.cellsAre, Builtin.zeroCells, Value.cells, Array.toList_map]
    apply List.ext_getElem?
    intro j
    simp only [List.getElem?_map, List.getElem?_replicate]
    by_cases hj : j < zz.toNat
    · simp [hj, Nat.mod_one]
    · simp [hj]
  · cases hq

theorem size_zero (zs : Array Value) (n : Nat) : (Builtin.zeroCells zs n).size = n * zs.size := by simp [Builtin.zeroCells]

theorem grow_sat (hs : SatH K θ h nx w) {e : Nat} {r : D} {cells : List Value} {zs : Array Value} {need cap : Nat} (hlen : r.len = need) (hes : zs.size = r.es)
    (hcells : ∀ X' : Nat → Prop, (∀ b, b < w.heap.size → Free K θ h b → X' b) → ∀ w' : World, (∀ b, b < w.heap.size → w'.heap[b]? = w.heap[b]?) → r.cellsAre X' w' cells) :
    SatH K (θ.add nx { a := some ⟨w.heap.size, 0, none⟩, len := need, cap := grownCap w need cap e })
      ((nx, .own e r) :: h) (nx + 1) (w.drew.alloc (.cells (cells.toArray ++ Builtin.zeroCells zs (grownCap w need cap e - need)) e)) := by
  have hb : Below w.heap.size w (w.drew.alloc (.cells (cells.toArray ++ Builtin.zeroCells zs (grownCap w need cap e - need)) e)) :=
    ((Below.refl _ _).drew).alloc (Nat.le_refl _) _
  have hge := grownCap_ge w need cap e
  refine hs.add_new hb (fun _ hb => Nat.le_of_eq hb.2) (fun θ' X' hθ hX1 hX2 => ?_)
  have hc := hcells X' hX1 _ (fun b hb' => hb.block b hb')
  have hcl := D.cellsAre_length hc
  have hheap : (w.drew.alloc (.cells (cells.toArray ++ Builtin.zeroCells zs (grownCap w need cap e - need)) e)).heap[w.heap.size]? = some (.cells (cells.toArray ++ Builtin.zeroCells zs (grownCap w need cap e - need)) e (0, 0)) := by
    show (w.heap.push _)[w.heap.size]? = _
    simp
  refine ⟨D.at_of_cells hlen.symm hge (fun j v hv => ?_) hc, .inr rfl, fun _ => ⟨_, hheap, ?_⟩⟩
  · have hj := (List.getElem?_eq_some_iff.1 hv).1
    show World.cell? _ ⟨w.heap.size, 0 + j, none⟩ = _
    simp only [World.cell?, hheap, Nat.zero_add]
    simp only [Option.isSome_none, Bool.false_eq_true, if_false]
    rw [Array.getElem?_append_left (by simpa using hj)]
    simpa using hv
  · show 0 + grownCap w need cap e * r.es ≤ _
    simp only [Array.size_append, List.size_toArray, size_zero, hes, hcl, hlen]
    rw [← Nat.add_mul]
    rw [show need + (grownCap w need cap e - need) = grownCap w need cap e by omega]
    omega

theorem freezeL_keep {n : Nat} {r : R} (hr : ∀ T d, r ≠ .own T d) : ∀ {l : List SV} {h : List (Nat × R)}, hfind h n = some r → hfind (freezeL h l) n = some r
  | [], _, hf => hf
  | s :: l, h, hf => by
    cases s <;> simp only [freezeL] <;> try exact freezeL_keep hr hf
    rename_i m
    refine freezeL_keep hr ?_
    unfold freezeH
    split
    · rename_i T d hm
      rw [hfind_cons, if_neg (fun e => ?_)]
      · exact hf
      · subst e; rw [hf] at hm; exact hr _ _ (Option.some.inj hm)
    · exact hf

theorem setRec_other {f : Nat → Nat → D} {i o i' : Nat} {ds : List D} (e : i' ≠ i) : setRec f i o ds i' = f i' := by
  funext j
  unfold setRec
  have : Nat.beq i' i = false := by
    cases h1 : Nat.beq i' i with
    | false => rfl
    | true => exact absurd (Nat.eq_of_beq_eq_true h1) e
  rw [this]
  rfl
theorem setRec_all {f : Nat → Nat → D} {i j : Nat} {ds : List D} (hj : j < ds.length) : setRec f i 0 ds i j = ds.getD j (.v undef) := by
  unfold setRec
  rw [show Nat.beq i i = true from Nat.beq_refl i, show Nat.ble 0 j = true from Nat.ble_eq_true_of_le (Nat.zero_le _), show Nat.blt j (0 + ds.length) = true from Nat.ble_eq_true_of_le (by omega)]
  simp [List.getD, List.getElem?_eq_getElem hj]

theorem POwn.snoc {X X' : Nat → Prop} {w w' : World} {L L' : Loc} {T S m len : Nat} {bs : List Nat} {f : Nat → Nat → D} (hp : POwn X w L T S m bs len f) (hk : Keeps X X' w w') (hwf : L'.wf) (hlen : L'.len = len + 1) (hcap : L'.len ≤ L'.cap)
    {b2 : Nat} (hb2 : b2 ∉ bs) (hcs : L'.b ∉ bs ++ [b2] ∧ ∃ cs : Array Value, w'.heap[L'.b]? = some (.cells cs T (0, 0)) ∧ L'.o + L'.cap ≤ cs.size)
    (hold : ∀ i v, i < len → w.cell? ⟨L.b, L.o + i, none⟩ = some v → w'.cell? ⟨L'.b, L'.o + i, none⟩ = some v) (hnew : w'.cell? ⟨L'.b, L'.o + len, none⟩ = some (.pointer (some ⟨b2, 0, none⟩)))
    (hblk : ∀ b, b ∈ bs ∨ b = b2 → w'.heap[b]? = w.heap[b]?) {us : List Value} {ds : List D} (hus : w.heap[b2]? = some (.cells us.toArray S (0, 0))) (hum : us.length = m) (hdl : DL.holds X w ds us) :
    POwn X' w' L' T S m (bs ++ [b2]) (len + 1) (setRec f len 0 ds) := by
  obtain ⟨p1, p2, p3, p4, p5, p6, p7⟩ := hp
  have hl := DL.length hdl
  refine ⟨hwf, hlen, hcap, by simp [p4], ?_, fun _ => hcs, fun i b hi => ?_⟩
  · rw [List.nodup_append]
    exact ⟨p5, by simp, fun x hx y hy => by simp at hy; subst hy; intro e; subst e; exact hb2 hx⟩
  · by_cases c : i < len
    · rw [List.getElem?_append_left (by omega)] at hi
      obtain ⟨g1, g2⟩ := p7 i b hi
      rw [setRec_other (by omega)]
      exact ⟨hold i _ c g1, g2.mono hk (hblk b (.inl (List.mem_of_getElem? hi)))⟩
    · rw [List.getElem?_append_right (by omega)] at hi
      have hi0 : i = len := by
        have := (List.getElem?_eq_some_iff.1 hi).1
        simp at this; omega
      subst hi0
      rw [p4, Nat.sub_self] at hi
      simp at hi
      subst hi
      refine ⟨hnew, us, by rw [hblk _ (.inr rfl)]; exact hus, hum, fun j hj => ?_⟩
      obtain ⟨c, e1, e2⟩ := DL.getD hdl j (by omega)
      exact ⟨c, e1, by rw [setRec_all (by omega)]; exact D.holds_mono hk _ _ e2⟩

theorem appendP_sound (hs : SatH K θ h nx w) {sT xT ty n q1 : Nat} {u v : Value} (hu : V θ (.a n) u) (hv : V θ (.sl q1 1) v) {k : HK} (hq : appendP P sT xT n q1 h nx k) :
    LOK K θ nx k ((Builtin.append_ #[sT, xT] ty #[u, v]).run P w) := by
  unfold appendP at hq
  split at hq <;> try exact hq.elim
  rename_i T S m bs len f e1 q2 e e' hp hf1 hT hxT
  split at hq <;> try exact hq.elim
  rename_i S' l i hf2 hi
  split at hq <;> try exact hq.elim
  rename_i z ds hz hds
  obtain ⟨hc, hq1⟩ := cond_false hq
  clear hq
  simp only [Bool.and_eq_true, Bool.not_eq_true'] at hc
  obtain ⟨⟨⟨⟨⟨⟨c1, c2⟩, c3⟩, c4⟩, c5⟩, c6⟩, c7⟩ := hc
  obtain rfl := nbeq c1
  obtain rfl := nbeq c2
  have c3 := nbeq c3
  have c4 := nbeq c4
  have c5 := nbeq c5
  have c6 := nblt c6
  have hnq : n ≠ q2 := fun e => by subst e; rw [Nat.beq_refl] at c7; cases c7
  obtain ⟨hlen48, hk⟩ := hq1
  have hs1 : SatH K θ (freezeL h l) nx w := freezeL_sound hs
  obtain ⟨hf0, _⟩ := pownOf_sound hs hp
  have hf0' := freezeL_keep (l := l) (by intro _ _ h; cases h) hf0
  have hf1' := freezeL_keep (l := l) (by intro _ _ h; cases h) hf1
  have hf2' := freezeL_keep (l := l) (by intro _ _ h; cases h) hf2
  obtain ⟨L, hL, hpo⟩ := hs1.res _ _ hf0'
  have hpo' := hpo
  obtain ⟨p1, p2, p3, p4, p5, p6, p7⟩ := hpo'
  obtain ⟨L1, hL1, us1, a1, a2, a3⟩ := hs1.res _ _ hf1'
  obtain ⟨L2, hL2, us2, b1, b2, b3⟩ := hs1.res _ _ hf2'
  have hdl : DL.holds (Free K θ (freezeL h l)) w ds us2 := dsOf_sound hs1 b3 hds
  have hlds := DL.length hdl
  have hum : us2.length = m := by rw [← VL_length b3, ← c3]
  have o1 : L1.o = 0 := by unfold Loc.o; rw [a1]
  have o2 : L2.o = 0 := by unfold Loc.o; rw [b1]
  have hus1 : us1 = [.pointer (some ⟨L2.b, 0, none⟩)] := by
    obtain ⟨x, us, rfl, g1, g2⟩ := VL_cons_left a3
    rw [VL_nil_left g2]
    simp only [V] at g1
    obtain ⟨L2', hL2', rfl⟩ := g1
    obtain rfl := Option.some.inj (hL2.symm.trans hL2')
    rw [o2]
  subst hus1
  simp only [V] at hu hv
  obtain ⟨L', hL', rfl⟩ := hu
  obtain rfl := Option.some.inj (hL.symm.trans hL')
  obtain ⟨L1', hL1', rfl⟩ := hv
  obtain rfl := Option.some.inj (hL1.symm.trans hL1')
  rw [o1]
  have hfc : ∀ w' : World, w'.heap = w.heap → (Builtin.firstCells i.size 1 (.slice (some ⟨L1.b, 0, none⟩) 1 1)).run P w' = .ok [Value.pointer (some ⟨L2.b, 0, none⟩)].toArray w' := fun w' hw' =>
    run_firstCells (P := P) (size := i.size) (m := 1) (w0 := w') (L := ⟨some ⟨L1.b, 0, none⟩, 1, 1⟩) (cs := [.pointer (some ⟨L2.b, 0, none⟩)]) (.inr rfl) (Nat.le_refl _) (by simp [c4]) (fun j v hj => by
      show w'.cell? ⟨L1.b, 0 + j, none⟩ = _
      rw [Nat.zero_add, cell_of_cells (by rw [hw']; exact a2)]; exact hj) rfl
  have hsr : SrcOk P i z xT (.slice (some ⟨L1.b, 0, none⟩) 1 1) 1 [Value.pointer (some ⟨L2.b, 0, none⟩)] w := .inl ⟨_, hxT, fun k => by simp, fun w' => rfl, hfc w rfl, hfc w.drew rfl⟩
  have own0 : ∀ b, (L.cap ≠ 0 ∧ L.b = b) ∨ b ∈ bs → OwnsAt θ (freezeL h l) n b := fun b hb => ⟨_, L, hf0', hL, hb⟩
  have own2 : OwnsAt θ (freezeL h l) q2 L2.b := ⟨_, L2, hf2', hL2, rfl⟩
  have hb2 : L2.b ∉ bs := fun hm => hnq (hs1.dis _ _ _ (own0 _ (.inr hm)) own2)
  have hLb2 : L.cap ≠ 0 → L.b ≠ L2.b := fun hc e => hnq (hs1.dis _ _ _ (own0 _ (.inl ⟨hc, rfl⟩)) (e ▸ own2))
  have hns : ∀ x ∈ [n, q1, q2], ∃ L, θ x = some L := fun x hx => by
    simp at hx
    rcases hx with rfl | rfl | rfl
    · exact ⟨L, hL⟩
    · exact ⟨L1, hL1⟩
    · exact ⟨L2, hL2⟩
  have hnx := hs.fresh nx (Nat.le_refl _)
  have hbs : ∀ b ∈ bs, b < w.heap.size := fun b hb => OwnsAt.lt hs1 (own0 b (.inr hb))
  have hb2lt : L2.b < w.heap.size := OwnsAt.lt hs1 own2
  have hzs : z.cells.size = i.size := by omega
  by_cases hroom : L.len + 1 ≤ L.cap
  · have hcap : L.cap ≠ 0 := by omega
    obtain ⟨g1, cur, hb, hcur⟩ := p6 hcap
    have ha : L.a = some ⟨L.b, L.o, none⟩ := p1.resolve_left hcap
    have hst := run_storeCells_at P L.b (L.o + L.len * i.size) T [Value.pointer (some ⟨L2.b, 0, none⟩)] 0 cur w hb (by simp [c4]; omega) (fun u hu => by simp at hu; subst hu; rfl)
    simp only [Nat.add_zero] at hst
    have hrun := run_app_room (P := P) (ty := ty) hT hi hz hzs hsr L.a L.len L.cap hroom _ (fun a ha' => by
      rw [ha] at ha'; cases ha'
      rw [add_mk]; exact hst) (fun h0 => by rw [ha] at h0; cases h0)
    have hkk := hk L2.b
    rw [setRecM_eq] at hkk
    refine ⟨_, _, _, θ.add nx { a := L.a, len := L.len + 1, cap := L.cap }, _, w.setRow L.b (cur.toList.take (L.o + L.len * i.size) ++ [Value.pointer (some ⟨L2.b, 0, none⟩)] ++ cur.toList.drop (L.o + L.len * i.size + [Value.pointer (some ⟨L2.b, 0, none⟩)].length)).toArray, hkk,
      hs1.trade (ns := [n, q1, q2]) (L' := { a := L.a, len := L.len + 1, cap := L.cap }) hns (fun b hb => ?_) rfl rfl rfl (by simp) (fun b hb hno => setRow_other w L.b b _ (fun e => hno n (by simp) (own0 b (.inl ⟨hcap, e.symm⟩))))
      (fun X' hX' => ?_), Th.add_ext hnx _, by simp only [V]; exact ⟨_, Th.add_self _ _ _, rfl⟩, hrun, by omega⟩
    · refine .inl ?_
      rcases hb with hb | hb
      · exact ⟨n, by simp, own0 b (.inl hb)⟩
      · rcases List.mem_append.1 hb with hb | hb
        · exact ⟨n, by simp, own0 b (.inr hb)⟩
        · simp at hb; subst hb; exact ⟨q2, by simp, own2⟩
    · have hrow : ∀ b, b ≠ L.b → (w.setRow L.b (cur.toList.take (L.o + L.len * i.size) ++ [Value.pointer (some ⟨L2.b, 0, none⟩)] ++ cur.toList.drop (L.o + L.len * i.size + [Value.pointer (some ⟨L2.b, 0, none⟩)].length)).toArray).heap[b]? = w.heap[b]? := fun b hne => setRow_other w L.b b _ hne
      refine hpo.snoc (L' := { a := L.a, len := L.len + 1, cap := L.cap }) (fun b hb' hfr => ⟨hX' b hb' hfr, hrow b (fun e => hfr.1 n (own0 b (.inl ⟨hcap, e.symm⟩)))⟩) (.inr ha) (by simp only; omega) hroom hb2 ⟨?_, _, setRow_heap w L.b cur _ T _ hb, ?_⟩ (fun i' v' hi' hv' => ?_) ?_ (fun b hb' => hrow b (fun e => ?_)) b2 hum hdl
      · intro hm
        rcases List.mem_append.1 hm with hm | hm
        · exact g1 hm
        · simp at hm; exact hLb2 hcap hm
      · show L.o + L.cap ≤ _
        simp only [List.size_toArray, List.length_append, List.length_take, List.length_drop, Array.length_toList, List.length_singleton]
        omega
      · show World.cell? _ ⟨L.b, L.o + i', none⟩ = _
        rw [cell_setRow_same w L.b _ cur _ T _ hb]
        simp only [List.getElem?_toArray]
        rw [List.append_assoc, List.getElem?_append_left (by simp [c4]; omega), List.getElem?_take, if_pos (by rw [c4]; omega)]
        simpa [World.cell?, hb] using hv'
      · show World.cell? _ ⟨L.b, L.o + len, none⟩ = _
        rw [cell_setRow_same w L.b _ cur _ T _ hb]
        simp only [List.getElem?_toArray]
        have t2 : (cur.toList.take (L.o + L.len * i.size)).length = L.o + L.len * i.size := by simp [c4]; omega
        rw [List.append_assoc, List.getElem?_append_right (by rw [t2, c4]; omega), t2, c4, show L.o + len - (L.o + L.len * 1) = 0 by omega]
        rfl
      · subst e
        rcases hb' with hb' | hb'
        · exact g1 hb'
        · exact hLb2 hcap hb'
  · have hll : L.cap < L.len + 1 := by omega
    have small : L.len + 1 ≤ 9223372036854775807 := by
      have := Nat.le_mul_of_pos_right (len + 1) c6
      omega
    obtain ⟨olds, q1', q2'⟩ := list_of_fn (fun j v => w.cell? ⟨L.b, L.o + j, none⟩ = some v) L.len (fun j hj => by
      have hlt : j < bs.length := by omega
      exact ⟨_, (p7 j _ (List.getElem?_eq_getElem hlt)).1⟩)
    have hrun := run_app_grow (P := P) (ty := ty) hT hi hz hzs hsr L.a L.len L.cap olds hll (run_firstCells p1 p3 (by rw [q1', c4, Nat.mul_one]) (fun j v hj => q2' j v hj) rfl) small (by rw [p2]; exact hlen48)
    have hge := grownCap_ge w (L.len + 1) L.cap T
    generalize hgc : grownCap w (L.len + 1) L.cap T = gc at hrun hge
    let w1 : World := w.drew.alloc (.cells (olds.toArray ++ [Value.pointer (some ⟨L2.b, 0, none⟩)].toArray ++ Builtin.zeroCells z.cells (gc - (L.len + 1))) T)
    have hbw : Below w.heap.size w w1 := ((Below.refl _ _).drew).alloc (Nat.le_refl _) _
    have hheap : w1.heap[w.heap.size]? = some (.cells (olds.toArray ++ [Value.pointer (some ⟨L2.b, 0, none⟩)].toArray ++ Builtin.zeroCells z.cells (gc - (L.len + 1))) T (0, 0)) := by
      show (w.heap.push _)[w.heap.size]? = _
      simp
    have hkk := hk L2.b
    rw [setRecM_eq] at hkk
    refine ⟨_, _, _, θ.add nx { a := some ⟨w.heap.size, 0, none⟩, len := L.len + 1, cap := gc }, _, w1, hkk, hs1.trade (ns := [n, q1, q2]) (L' := { a := some ⟨w.heap.size, 0, none⟩, len := L.len + 1, cap := gc }) hns (fun b hb => ?_) hbw.os hbw.tape hbw.output hbw.size (fun b hb _ => hbw.block b hb)
      (fun X' hX' => ?_), Th.add_ext hnx _, by simp only [V]; exact ⟨_, Th.add_self _ _ _, rfl⟩, hrun, by omega⟩
    · rcases hb with ⟨_, hb⟩ | hb
      · exact .inr (Nat.le_of_eq hb)
      · rcases List.mem_append.1 hb with hb | hb
        · exact .inl ⟨n, by simp, own0 b (.inr hb)⟩
        · simp at hb; subst hb; exact .inl ⟨q2, by simp, own2⟩
    · refine hpo.snoc (L' := { a := some ⟨w.heap.size, 0, none⟩, len := L.len + 1, cap := gc }) (fun b hb' hfr => ⟨hX' b hb' hfr, hbw.block b hb'⟩) (.inr rfl) (by simp only; omega) hge hb2 ⟨?_, _, hheap, ?_⟩ (fun i' v' hi' hv' => ?_) ?_ (fun b hb' => hbw.block b ?_) b2 hum hdl
      · intro hm
        have hm : w.heap.size ∈ bs ++ [L2.b] := hm
        rcases List.mem_append.1 hm with hm | hm
        · have := hbs _ hm; omega
        · simp at hm; omega
      · show 0 + gc ≤ _
        simp only [Array.size_append, List.size_toArray, size_zero, c5, q1', List.length_singleton]
        omega
      · show World.cell? _ ⟨w.heap.size, 0 + i', none⟩ = _
        simp only [World.cell?, hheap, Nat.zero_add]
        simp only [Option.isSome_none, Bool.false_eq_true, if_false]
        have hlo : i' < olds.length := by omega
        rw [Array.append_assoc, Array.getElem?_append_left (by simpa using hlo)]
        have := q2' i' _ (List.getElem?_eq_getElem hlo)
        rw [this] at hv'
        cases hv'
        simp [hlo]
      · show World.cell? _ ⟨w.heap.size, 0 + len, none⟩ = _
        simp only [World.cell?, hheap, Nat.zero_add]
        simp only [Option.isSome_none, Bool.false_eq_true, if_false]
        have hlo : olds.length = len := by omega
        rw [Array.append_assoc, Array.getElem?_append_right (by simp [hlo]), show len - olds.toArray.size = 0 by simp [hlo], Array.getElem?_append_left (by simp)]
        rfl
      · rcases hb' with hb' | hb'
        · exact hbs b hb'
        · subst hb'; exact hb2lt

theorem isSl_sound {T : Nat} (hq : appendL.isSl P T = true) : ∃ e, P.underlying T = some (.slice e) := by
  unfold appendL.isSl at hq
  split at hq
  · exact ⟨_, by assumption⟩
  · cases hq

theorem D.app_es {d e r : D} (h : D.app d e = some r) : e.es = d.es := by
  cases d <;> cases e <;> simp only [D.app] at h <;> (try (cases h; done))
  · rfl
  · rename_i es n f es' m g
    cases hb : Nat.beq es es' with
    | false => rw [hb] at h; cases h
    | true => exact (nbeq hb).symm

theorem appendL_sound (hs : SatH K θ h nx w) {sT xT ty : Nat} {s x : SV} {u v : Value} (hu : V θ s u) (hv : V θ x v) {k : HK} (hq : appendL P sT xT s x h nx k) :
    LOK K θ nx k ((Builtin.append_ #[sT, xT] ty #[u, v]).run P w) := by
  unfold appendL at hq
  split at hq <;> try exact hq.elim
  rename_i e hT
  split at hq <;> try exact hq.elim
  rename_i i hi
  split at hq <;> try exact hq.elim
  rename_i z hz
  obtain ⟨hc, hq0⟩ := cond_false hq
  clear hq
  simp only [Bool.and_eq_true] at hc
  have hzs := nbeq hc.1.1
  have hby := nblt hc.2
  have small : ∀ q : Nat, q * i.bytes ≤ 140737488355328 → q ≤ 9223372036854775807 := fun q hq => by
    have := Nat.le_mul_of_pos_right q hby
    omega
  -- nothing is appended
  have none_src : ∀ {e'}, P.underlying xT = some (.slice e') → SrcOk P i z xT (.slice none 0 0) 0 [] w := fun hx => .inl ⟨_, hx, fun k => by simp, fun w' => rfl, rfl, rfl⟩
  split at hq0
  · -- nil, nil
    obtain ⟨h1, h2⟩ := cond_false hq0
    obtain ⟨e', hx⟩ := isSl_sound h1
    simp only [V] at hu hv; subst hu hv
    refine ⟨_, _, _, θ, .slice none 0 0, w, h2, hs, Th.ext_refl _, by simp only [V], ?_, Nat.le_refl _⟩
    exact run_app_room hT hi hz hzs (none_src hx) none 0 0 (Nat.le_refl _) w (fun a ha => by cases ha) (fun _ => rfl)
  · -- a, nil
    rename_i n
    split at hq0 <;> try exact hq0.elim
    rename_i d hd
    obtain ⟨h1, h2⟩ := cond_false hq0
    obtain ⟨e', hx⟩ := isSl_sound h1
    obtain ⟨L, hL, hat, hw⟩ := arrOf_sound hs hd
    simp only [V] at hu hv
    obtain ⟨L', hL', rfl⟩ := hu
    obtain rfl := Option.some.inj (hL.symm.trans hL')
    subst hv
    refine ⟨_, _, _, θ, L.val, w, h2, hs, Th.ext_refl _, by simp only [V]; exact ⟨L, hL, rfl⟩, ?_, Nat.le_refl _⟩
    exact run_app_room hT hi hz hzs (none_src hx) L.a L.len L.cap (D.at_len hat).2 w (fun a _ => rfl) (fun _ => rfl)
  · -- nil, something
    rename_i hne
    split at hq0 <;> try exact hq0.elim
    rename_i c d hsrc
    obtain ⟨h1, h2⟩ := cond_false hq0
    obtain ⟨h3, h4, h5⟩ := h2
    have hes := nbeq h1
    obtain ⟨news, hsr, hcells⟩ := srcD_sound hs hi hz hv hsrc h3 hes
    have hcl := D.cellsAre_length hcells
    simp only [V] at hu; subst hu
    by_cases hm : d.len = 0
    · rw [hm] at hcl hsr
      simp at hcl; subst hcl
      refine ⟨_, _, _, θ.add nx { a := none, len := 0, cap := 0 }, .slice none 0 0, w, h5, ?_, Th.add_ext (hs.fresh nx (Nat.le_refl _)) _, by simp only [V]; exact ⟨_, Th.add_self _ _ _, rfl⟩, ?_, by omega⟩
      · refine hs.add_new (Below.refl _ _) (fun _ ho => absurd rfl ho.1) (fun θ' X' _ hX1 _ => ⟨?_, .inl rfl, fun hne => absurd rfl hne⟩)
        exact D.at_of_cells hm.symm (Nat.le_refl _) (fun j v hv => by simp at hv) (D.cellsAre_mono (fun b hb hf => ⟨hX1 b hb hf, rfl⟩) hcells)
      · exact run_app_room hT hi hz hzs hsr none 0 0 (Nat.le_refl _) w (fun a ha => by cases ha) (fun _ => rfl)
    · have h63 := small _ h4
      have hrun := run_app_grow (P := P) (ty := ty) hT hi hz hzs hsr none 0 0 [] (by omega) rfl (by omega) (by simpa using h4)
      refine ⟨_, _, _, _, _, _, h5, grow_sat (need := d.len) (cap := 0) (e := e) (zs := z.cells) (cells := news) hs rfl (by rw [hzs, hes]) (fun X' hX' w' hw' => D.cellsAre_mono (fun b hb hf => ⟨hX' b hb hf, hw' b hb⟩) hcells),
        Th.add_ext (hs.fresh nx (Nat.le_refl _)) _, by simp only [V]; exact ⟨_, Th.add_self _ _ _, rfl⟩, ?_, by omega⟩
      rw [hrun]
      simp [Loc.val]
  · -- an array, something
    rename_i n hne
    split at hq0 <;> try exact hq0.elim
    rename_i T d hf
    split at hq0 <;> try exact hq0.elim
    rename_i c d' hsrc
    split at hq0 <;> try exact hq0.elim
    rename_i r happ
    obtain ⟨h1, h2⟩ := cond_false hq0
    obtain ⟨h3, h4, h5⟩ := h2
    simp only [Bool.and_eq_true] at h1
    obtain ⟨⟨b1, b2⟩, b3⟩ := h1
    obtain rfl := nbeq b1
    have hes := nbeq b2
    obtain ⟨L, hL, hat, hw, hown⟩ := hs.res n _ hf
    simp only [V] at hu
    obtain ⟨L', hL', rfl⟩ := hu
    obtain rfl := Option.some.inj (hL.symm.trans hL')
    obtain ⟨len1, len2⟩ := D.at_len hat
    obtain ⟨olds, a1, a2, a3⟩ := D.at_cells hat
    have hes' : d'.es = i.size := by
      have := (D.app_es happ); omega
    obtain ⟨news, hsr, hcells⟩ := srcD_sound hs hi hz hv hsrc h3 hes'
    obtain ⟨r1, r2, r3, r4⟩ := D.app_cells happ a3 hcells
    have hcl := D.cellsAre_length hcells
    have hone := D.cellsAre_one hcells
    have hnx := hs.fresh nx (Nat.le_refl _)
    by_cases hroom : L.len + d'.len ≤ L.cap
    · by_cases hcap : L.cap = 0
      · -- nothing at all
        have e1 : d'.len = 0 := by omega
        have e2 : d.len = 0 := by omega
        rw [e1] at hcl hsr
        simp at hcl; subst hcl
        rw [e2] at a1
        simp at a1; subst a1
        refine ⟨_, _, _, (θ.add nx L), L.val, w, h5, ?_, Th.add_ext hnx _, by simp only [V]; exact ⟨L, Th.add_self _ _ _, rfl⟩, ?_, by omega⟩
        · refine (hs.kill ⟨L, hL⟩).add_new (Below.refl _ _) (fun _ ho => absurd hcap ho.1) (fun θ' X' _ hX1 _ => ⟨?_, hw, fun hne => absurd hcap hne⟩)
          have hX1' : ∀ b, b < w.heap.size → Free K θ h b → X' b := fun b hb hfb => hX1 b hb ⟨fun m hm => by
            obtain ⟨r1, L1, q1, q2, q3⟩ := hm
            rw [hfind_cons] at q1
            split at q1
            · cases q1; exact q3
            · exact hfb.1 m ⟨r1, L1, q1, q2, q3⟩, hfb.2⟩
          exact D.at_of_cells (by omega) (by omega) (fun j v hv => by simp at hv) (D.cellsAre_mono (fun b hb hfb => ⟨hX1' b hb hfb, rfl⟩) r1)
        · have := run_app_room (P := P) (ty := ty) hT hi hz hzs hsr L.a L.len L.cap (by omega) w (fun a _ => rfl) (fun _ => rfl)
          exact this
      · obtain ⟨cur, hb, hcur⟩ := hown hcap
        have ha : L.a = some ⟨L.b, L.o, none⟩ := hw.resolve_left hcap
        have hfit : L.o + L.len * i.size + news.length ≤ cur.size := by
          rw [hcl, hes']
          have : (L.len + d'.len) * d.es ≤ L.cap * d.es := Nat.mul_le_mul_right _ hroom
          rw [hes, Nat.add_mul] at this
          rw [hes] at hcur
          omega
        have hst := run_storeCells_at P L.b (L.o + L.len * i.size) T news 0 cur w hb (by simpa using hfit) hone
        simp only [Nat.add_zero] at hst
        have hrun := run_app_room (P := P) (ty := ty) hT hi hz hzs hsr L.a L.len L.cap hroom _ (fun a ha' => by
          rw [ha] at ha'; cases ha'
          rw [add_mk]; exact hst) (fun h0 => by rw [ha] at h0; cases h0)
        have hLb : ({ a := L.a, len := L.len + d'.len, cap := L.cap } : Loc).b = L.b := rfl
        refine ⟨_, _, _, (θ.add nx { a := L.a, len := L.len + d'.len, cap := L.cap }), _, _, h5, ?_, Th.add_ext hnx _, by simp only [V]; exact ⟨_, Th.add_self _ _ _, rfl⟩, hrun, by omega⟩
        refine hs.move hf hL hcap hLb hcap rfl rfl rfl (by simp) (fun b hne' => setRow_other w L.b b _ hne') (fun X' hX' => ⟨?_, ?_, fun _ => ⟨_, setRow_heap w L.b cur _ T _ hb, ?_⟩⟩)
        · refine D.at_of_cells (cs := olds ++ news) (by simp only; omega) hroom (fun j v hv => ?_) ?_
          · show World.cell? _ ⟨L.b, L.o + j, none⟩ = _
            rw [cell_setRow_same w L.b _ cur _ T _ hb]
            simp only [List.getElem?_toArray]
            have t2 : (cur.toList.take (L.o + L.len * i.size)).length = L.o + L.len * i.size := by simp; omega
            have ol : olds.length = L.len * i.size := by rw [a1, len1, hes]
            by_cases c1 : j < olds.length
            · rw [List.getElem?_append_left c1] at hv
              rw [List.append_assoc, List.getElem?_append_left (by omega), List.getElem?_take, if_pos (by omega)]
              have := a2 j v hv
              simpa [World.cell?, hb] using this
            · rw [List.getElem?_append_right (by omega)] at hv
              rw [List.append_assoc, List.getElem?_append_right (by omega), t2, show L.o + j - (L.o + L.len * i.size) = j - olds.length by omega]
              rw [List.getElem?_append_left (List.getElem?_eq_some_iff.1 hv).1]; exact hv
          · refine D.cellsAre_mono (fun b hb' hfb => ⟨hX' b hb' hfb, setRow_other w L.b b _ (fun e => hfb.1 n (e ▸ ⟨_, L, hf, hL, hcap, rfl⟩))⟩) r1
        · exact .inr ha
        · simp only [List.size_toArray, List.length_append, List.length_take, List.length_drop, Array.length_toList]
          rw [r3]
          show L.o + L.cap * d.es ≤ _
          omega
    · have h63 := small _ h4
      have ol : olds.length = L.len * i.size := by rw [a1, len1, hes]
      have hrun := run_app_grow (P := P) (ty := ty) hT hi hz hzs hsr L.a L.len L.cap olds (by omega) (run_firstCells hw len2 ol a2 rfl) (by omega) (by rw [len1]; exact h4)
      have hk := hs.kill (n := n) ⟨L, hL⟩
      have hkF : ∀ b, Free K θ h b → Free K θ ((n, .dead) :: h) b := fun b hfb => ⟨fun m hm => by
            obtain ⟨r1, L1, q1, q2, q3⟩ := hm
            rw [hfind_cons] at q1
            split at q1
            · cases q1; exact q3
            · exact hfb.1 m ⟨r1, L1, q1, q2, q3⟩, hfb.2⟩
      refine ⟨_, _, _, _, _, _, h5, grow_sat (need := L.len + d'.len) (cap := L.cap) (e := T) (zs := z.cells) (cells := olds ++ news) hk (by omega) (by rw [hzs, r3, hes])
          (fun X' hX' w' hw' => D.cellsAre_mono (fun b hb hfb => ⟨hX' b hb (hkF b hfb), hw' b hb⟩) r1),
        Th.add_ext hnx _, by simp only [V]; exact ⟨_, Th.add_self _ _ _, rfl⟩, ?_, by omega⟩
      rw [show L.val = .slice L.a L.len L.cap from rfl, hrun]
      simp [Loc.val]
  · exact hq0.elim
theorem appendX_sound (hs : SatH K θ h nx w) {sT xT ty : Nat} {s x : SV} {u v : Value} (hu : V θ s u) (hv : V θ x v) {k : HK} (hq : appendX P sT xT s x h nx k) :
    LOK K θ nx k ((Builtin.append_ #[sT, xT] ty #[u, v]).run P w) := by
  unfold appendX at hq
  split at hq
  · split at hq <;> try exact hq.elim
    obtain ⟨hc, hq⟩ := cond_false hq
    obtain rfl := nbeq hc
    exact appendP_sound hs hu hv hq
  · exact appendL_sound hs hu hv hq
end
end Go.Z

namespace Go.Z
open Go.RowKit

section
variable {P : Program} {K : Ctx} {θ : Th} {h : List (Nat × R)} {nx : Nat} {w : World}

theorem new_sat (hs : SatH K θ h nx w) {e n cap : Nat} {r : D} {cells : List Value} {arr : Array Value} (hlen : r.len = n) (hle : n ≤ cap) (hsz : cap * r.es ≤ arr.size)
    (hpre : ∀ (j : Nat) (v : Value), cells[j]? = some v → arr[j]? = some v)
    (hcells : ∀ X' : Nat → Prop, (∀ b, b < w.heap.size → Free K θ h b → X' b) → ∀ w' : World, (∀ b, b < w.heap.size → w'.heap[b]? = w.heap[b]?) → r.cellsAre X' w' cells) :
    SatH K (θ.add nx { a := some ⟨w.heap.size, 0, none⟩, len := n, cap := cap }) ((nx, .own e r) :: h) (nx + 1) (w.alloc (.cells arr e)) := by
  have hb := below_alloc w (.cells arr e)
  refine hs.add_new hb (fun _ hb => Nat.le_of_eq hb.2) (fun θ' X' hθ hX1 hX2 => ?_)
  have hc := hcells X' hX1 _ (fun b hb' => hb.block b hb')
  have hheap : (w.alloc (.cells arr e)).heap[w.heap.size]? = some (.cells arr e (0, 0)) := by
    show (w.heap.push _)[w.heap.size]? = _
    simp
  refine ⟨D.at_of_cells hlen.symm hle (fun j v hv => ?_) hc, .inr rfl, fun _ => ⟨_, hheap, ?_⟩⟩
  · show World.cell? _ ⟨w.heap.size, 0 + j, none⟩ = _
    simp only [World.cell?, hheap, Nat.zero_add]
    simpa using hpre j v hv
  · show 0 + cap * r.es ≤ _
    omega

theorem makeSliceL_sound (hs : SatH K θ h nx w) {T : Nat} {l c : SV} {u v : Value} (hu : V θ l u) (hv : V θ c v) {k : HK} (hq : makeSliceL P T l c h nx k) :
    LOK K θ nx k ((Instr.makeSlice T u v).run P w) := by
  unfold makeSliceL at hq
  split at hq <;> try exact hq.elim
  rename_i e k1 n k2 m hT
  split at hq <;> try exact hq.elim
  rename_i kk i hke hi
  split at hq <;> try exact hq.elim
  rename_i k' hz
  obtain ⟨b1, c1, h5⟩ := cond_false hq
  obtain ⟨c1, c2, c3, c4, c5⟩ := c1
  have b1 := nbeq b1
  subst c5
  simp only [V] at hu hv; subst hu hv
  have hn : n = (n.toNat : Int) := by omega
  have hm : m = (m.toNat : Int) := by omega
  have w1 : IntKind.i64.wrap n = n := IntWalk.i64_in _ (by omega)
  have w2 : IntKind.i64.wrap m = m := IntWalk.i64_in _ (by omega)
  have e3 : ((m.toNat * i.bytes : Nat) : Int) = (m.toNat : Int) * (i.bytes : Int) := Int.natCast_mul _ _
  have e4 : ¬ (281474976710656 < (i.bytes : Int) * m) := by rw [Int.mul_comm, hm]; omega
  refine ⟨_, _, _, _, _, _, h5, new_sat (n := n.toNat) (cap := m.toNat) (e := e) (cells := (List.replicate n.toNat 0).map (Value.int kk))
    (arr := ((Array.range (m.toNat * i.size)).map fun j => (Value.int kk 0).cells[j % (Value.int kk 0).cells.size]!)) hs (by simp [D.len]) (by omega) (by simp [D.es, b1]) (fun j v hv => ?_) (fun X' _ w' _ => rfl),
    Th.add_ext (hs.fresh nx (Nat.le_refl _)) _, by simp only [V]; exact ⟨_, Th.add_self _ _ _, rfl⟩, ?_, by omega⟩
  · rw [List.getElem?_map, List.getElem?_replicate] at hv
    split at hv <;> simp at hv
    subst hv
    have : j < m.toNat := by omega
    simp [b1, this, Value.cells, Nat.mod_one]
  · have h0 : ¬ (n < 0) := by omega
    have h1 : ¬ (m < n) := by omega
    have h2 : ¬ (m < 0) := by omega
    simp [Instr.makeSlice, run_underlying hT, asInt, asIntOf, run_typeInfo hi, run_sizeOf hi, w1, w2, h0, h1, h2, e4, newRow, Loc.val]
    split
    · rename_i hz0
      rw [hz0]
      congr 2
      simp
    · rw [run_zero hi hz]; rfl

theorem DL.get {X : Nat → Prop} {w' : World} : ∀ {l : List D} {vs : List Value} {p : Nat}, DL.holds X w' l vs → (hp : p < l.length) → ∃ c, vs[p]? = some c ∧ l[p].holds X w' c
  | [], _, _, _, hp => by simp at hp
  | _ :: _, [], _, h, _ => h.elim
  | _ :: _, v :: _, 0, h, _ => ⟨v, rfl, h.1⟩
  | _ :: l, _ :: vs, p + 1, h, hp => by simpa using DL.get (l := l) (vs := vs) h.2 (by simpa using hp)

theorem fillS_length {place : Nat → Option (Nat × Nat)} : ∀ {parts : List (Nat × SV)} {cells r : List SV}, fillS place cells parts = some r → r.length = cells.length
  | [], cells, r, h => by simp [fillS] at h; rw [h]
  | (i, s) :: rest, cells, r, h => by
    unfold fillS at h
    split at h <;> try (cases h; done)
    rename_i off size cs _ _
    cases hc : (Nat.beq cs.length size && Nat.ble (off + size) cells.length) with
    | false => rw [hc] at h; cases h
    | true =>
      rw [hc] at h
      simp only [Bool.and_eq_true] at hc
      have e1 := nbeq hc.1
      have e2 := nble hc.2
      rw [fillS_length (parts := rest) h]
      simp; omega

theorem buildSliceL_sound (hs : SatH K θ h nx w) {sl : Bool} {T len : Nat} {parts : List (Nat × Value)} {ixs : List Nat} {vs : List SV} {k : HK}
    (hix : parts.map (·.1) = ixs) (hvs : VL θ vs (parts.map (·.2))) (hq : buildSliceL P sl T len ixs vs h nx k) :
    LOK K θ nx k ((Instr.buildSlice T len parts.toArray).run P w) := by
  unfold buildSliceL at hq
  split at hq <;> try exact hq.elim
  rename_i e hT
  split at hq <;> try exact hq.elim
  rename_i i hi
  split at hq <;> try exact hq.elim
  rename_i z hz
  obtain ⟨hc, hq0⟩ := cond_false hq
  clear hq
  simp only [Bool.and_eq_true] at hc
  have c1 := nble hc.1.1
  have c2 := nblt hc.1.2
  have c3 := nbeq hc.2
  split at hq0 <;> try exact hq0.elim
  rename_i cs hcs
  have hf2 : PV θ (ixs.zip vs) parts := by
    subst hix
    clear hcs hq0
    induction parts generalizing vs with
    | nil => simp [PV]
    | cons p ps ih =>
      cases vs with
      | nil => simp [VL] at hvs
      | cons s ss =>
        simp only [List.map_cons, VL] at hvs
        simp only [List.map_cons, List.zip_cons_cons]
        exact ⟨⟨rfl, hvs.1⟩, ih hvs.2⟩
  have hz0 : VL θ ((List.range (len * i.size)).map fun j => liftK1 (z.cells.toList.getD (j % i.size) undef)) ((Array.range (len * i.size)).map fun j => z.cells[j % z.cells.size]!).toList := by
    have : ((Array.range (len * i.size)).map fun j => z.cells[j % z.cells.size]!).toList = (List.range (len * i.size)).map fun j => z.cells.toList.getD (j % i.size) undef := by
      rw [Array.toList_map]
      simp only [Array.toList_range]
      apply List.map_congr_left
      intro j _
      rw [c3]
      have hlt : j % i.size < z.cells.size := by rw [c3]; exact Nat.mod_lt _ c2
      rw [getElem!_pos z.cells _ hlt]
      simp [List.getD, List.getElem?_eq_getElem (show j % i.size < z.cells.toList.length by simpa using hlt)]
    rw [this]
    have := VL_liftK1 θ ((List.range (len * i.size)).map fun j => z.cells.toList.getD (j % i.size) undef)
    simpa [Function.comp_def] using this
  obtain ⟨out, h1, h2⟩ := fillS_sound (θ := θ) (placeV := fun j => some (j * i.size, i.size)) (fun j r hr => hr) _ _ _ _ _ hf2 hz0 hcs
  have hrun : (Instr.buildSlice T len parts.toArray).run P w = .ok (.slice (some ⟨w.heap.size, 0, none⟩) len len) (w.alloc (.cells out e)) := by
    have hb : ¬ (16777216 < len * i.size) := by omega
    simp only [Instr.buildSlice, Sem.run_bind, run_underlying hT, Result.andThen, run_sizeOf hi]
    rw [if_neg (by simpa using hb), Sem.run_ite]
    split
    · rename_i h0
      have e0 : (Array.map (fun x => (#[] : Array Value)[x % (#[] : Array Value).size]!) (Array.range (len * i.size))) = ((Array.range (len * i.size)).map fun j => z.cells[j % z.cells.size]!) := by
        rw [h0]; simp
      simp only [Sem.run_bind, Sem.run_pure, Result.andThen]
      rw [e0, h1]; rfl
    · simp only [Sem.run_bind, run_zero hi hz, Result.andThen, Sem.run_pure]
      rw [h1]; rfl
  have hcl := VL_length h2
  have hfl := fillS_length hcs
  simp at hfl
  have hos : out.size = len * i.size := by
    have : out.toList.length = out.size := by simp
    omega
  split at hq0
  · rename_i kk hke
    split at hq0 <;> try exact hq0.elim
    rename_i zs hzs
    obtain ⟨b1, h5⟩ := cond_false hq0
    have b1 := nbeq b1
    have hout := intsOf_sound hzs h2
    refine ⟨_, _, _, _, _, _, h5, new_sat (n := len) (cap := len) (e := e) (cells := out.toList) (arr := out) hs ?_ (Nat.le_refl _) ?_ (fun j v hv => by simpa using hv) (fun X' _ w' _ => hout),
      Th.add_ext (hs.fresh nx (Nat.le_refl _)) _, by simp only [V]; exact ⟨_, Th.add_self _ _ _, rfl⟩, hrun, by omega⟩
    · have := congrArg List.length hout
      simp at this
      simp [D.len]; rw [← this, hos, b1, Nat.mul_one]
    · simp [D.es, hos, b1]
  · rename_i ep hke
    obtain ⟨b1, h5⟩ := cond_false hq0
    have h0 := add_blk (T := e) hs h2
    refine ⟨_, _, _, _, _, _, h5, h0, Th.add_ext (hs.fresh nx (Nat.le_refl _)) _, by simp only [V]; exact ⟨_, Th.add_self _ _ _, rfl⟩, ?_, by omega⟩
    rw [hrun]
    rfl
  · rename_i hke
    cases sl with
    | true =>
      have hq0 : k (.sl nx len) ((nx, .rblk e cs) :: h) (nx + 1) := hq0
      refine ⟨_, _, _, _, _, _, hq0, add_rblk (T := e) hs h2, Th.add_ext (hs.fresh nx (Nat.le_refl _)) _, by simp only [V]; exact ⟨_, Th.add_self _ _ _, rfl⟩, ?_, by omega⟩
      rw [hrun]
      rfl
    | false =>
    have hq0 : (match dsOf P e (freezeL h cs) cs with
            | some ds => k (.a nx) ((nx, .own e (.recs i.size len (gridD i.size ds))) :: freezeL h cs) (nx + 1)
            | none => False) := hq0
    split at hq0 <;> try exact hq0.elim
    rename_i ds hds
    have hs1 : SatH K θ (freezeL h cs) nx w := freezeL_sound hs
    have hdl : DL.holds (Free K θ (freezeL h cs)) w ds out.toList := dsOf_sound hs1 h2 hds
    refine ⟨_, _, _, _, _, _, hq0, new_sat (n := len) (cap := len) (e := e) (cells := out.toList) (arr := out) hs1 rfl (Nat.le_refl _) ?_ (fun j v hv => by simpa using hv) (fun X' hX' w' hw' => ?_),
      Th.add_ext (hs.fresh nx (Nat.le_refl _)) _, by simp only [V]; exact ⟨_, Th.add_self _ _ _, rfl⟩, hrun, by omega⟩
    · simp [D.es, hos]
    · refine ⟨by simp [hos], fun i' hi' j' hj' => ?_⟩
      have hdl' : DL.holds X' w' ds out.toList := DL.holds_mono (fun b hb hf => ⟨hX' b hb hf, hw' b hb⟩) hdl
      have hlt : i' * i.size + j' < ds.length := by
        rw [DL.length hdl]
        simp only [Array.length_toList, hos]
        have : (i' + 1) * i.size ≤ len * i.size := Nat.mul_le_mul_right _ hi'
        rw [Nat.add_mul] at this; omega
      obtain ⟨c, g1, g2⟩ := DL.get hdl' hlt
      refine ⟨c, g1, ?_⟩
      simp only [gridD, List.getD, List.getElem?_eq_getElem hlt, Option.getD_some]
      exact g2

theorem copyL_sound (hs : SatH K θ h nx w) {dT ty : Nat} {ts : Array Nat} {s t : SV} {u v : Value} (hts : ts[0]? = some dT) (hu : V θ s u) (hv : V θ t v) {k : HK} (hq : copyL P dT s t h nx k) :
    LOK K θ nx k ((Builtin.copy_ ts ty #[u, v]).run P w) := by
  unfold copyL at hq
  split at hq <;> try exact hq.elim
  rename_i e n l m hT
  split at hq <;> try exact hq.elim
  rename_i T kk xs kk' ys i hf hm hi
  obtain ⟨hc, hq1⟩ := cond_false hq
  obtain ⟨⟨rfl, hle, hpos⟩, hk⟩ := hq1
  have hsz := nbeq hc
  simp only [V] at hu hv
  obtain ⟨L, hL, hl, rfl⟩ := hu
  obtain ⟨M, hM, rfl⟩ := hv
  obtain ⟨L', hL', hat, hw, hown⟩ := hs.res n _ hf
  obtain rfl := Option.some.inj (hL.symm.trans hL')
  obtain ⟨M', hM', hatM, hwM⟩ := arrOf_sound hs hm
  obtain rfl := Option.some.inj (hM.symm.trans hM')
  obtain ⟨len1, len2⟩ := D.at_len hat
  obtain ⟨mlen1, mlen2⟩ := D.at_len hatM
  simp only [D.len] at len1 mlen1
  have hcap : L.cap ≠ 0 := by omega
  obtain ⟨cur, hb, hcur⟩ := hown hcap
  have ha : L.a = some ⟨L.b, L.o, none⟩ := hw.resolve_left hcap
  obtain ⟨cs, a1, a2, a3⟩ := D.at_cells hat
  obtain ⟨ds, b1, b2, b3⟩ := D.at_cells hatM
  simp only [D.cellsAre] at b3 a3
  subst a3 b3
  have hes : (D.ints kk xs).es = 1 := rfl
  have hfit : L.o + l + ((ys.map (Value.int kk)).length) ≤ cur.size := by
    rw [hes] at hcur; simp; omega
  have hone : ∀ u ∈ ys.map (Value.int kk), u.oneCell' = true := by
    intro u hu; simp at hu; obtain ⟨z, _, rfl⟩ := hu; rfl
  have hst := run_storeCells_at P L.b (L.o + l) T (ys.map (Value.int kk)) 0 cur w hb (by simpa using hfit) hone
  simp only [Nat.add_zero] at hst
  have hfc := run_firstCells (P := P) (size := 1) (m := M.len) (w0 := w) hwM mlen2 (by simp; omega) b2 rfl
  have hmin : min M.len (L.len - l) = M.len := Nat.min_eq_left (by omega)
  have hbase : (if L.cap = l then L.a else L.a.map (·.add l)) = some ⟨L.b, L.o + l, none⟩ := by
    rw [if_neg (by omega), ha]; simp [add_mk]
  refine ⟨_, _, _, θ, .int .i64 (ys.length : Int), _, hk, turn_own (d' := .ints kk (xs.take l ++ (ys ++ xs.drop (l + ys.length)))) (p := l) (vs := ys.map (Value.int kk)) hs hf hL hcap (by simp [D.len]; omega) rfl a1 a2 hb (by simp; omega) hcur ?_, Th.ext_refl _, by simp only [V], ?_, Nat.le_refl _⟩
  · intro X' hX' w' hw'
    simp [D.cellsAre]
  · have hz : (sizeOf e).run P w = .ok 1 w := by rw [run_sizeOf hi, hsz]
    have hlo : (Builtin.lenOf M.val).run P w = .ok M.len w := rfl
    have hmin : Nat.min M.len (L.len - l) = M.len := Nat.min_eq_left (by omega)
    simp only [Builtin.copy_, hts, List.getElem?_toArray, List.getElem?_cons_zero, List.getElem?_cons_succ, Sem.run_bind, run_underlying hT, Result.andThen, hlo, hz, hmin, hfc, hbase]
    rw [hst, mlen1]
    simp [goInt]
end
end Go.Z

namespace Go.Z
open Go.RowKit

def allT (ts : List Bool) : Prop := ∀ t, t ∈ ts → t = true

def swc (want t : Bool) (A B : Prop) : Prop := cond want (sw t A B) (sw t B A)
theorem swc_spec {want t : Bool} {A B : Prop} (h : swc want t A B) : (t = want → A) ∧ (t = (!want) → B) := by
  cases want <;> cases t <;> simpa [swc, sw] using h
def allB : List Bool → Bool
  | [] => true
  | [t] => t
  | t :: l => t && allB l
theorem allB_iff : ∀ {l : List Bool}, allB l = true ↔ allT l
  | [] => by simp [allB, allT]
  | [t] => by simp [allB, allT]
  | t :: u :: l => by
    have := @allB_iff (u :: l)
    simp only [allB, Bool.and_eq_true, this]
    simp [allT]
theorem swT_spec {ctx : List Bool} {A B : Prop} (h : sw (allB ctx) A B) : (allT ctx → A) ∧ (¬ allT ctx → B) := by
  rw [sw_iff] at h
  refine ⟨fun hc => h.1 (allB_iff.2 hc), fun hc => h.2 ?_⟩
  cases hb : allB ctx with
  | false => rfl
  | true => exact absurd (allB_iff.1 hb) hc

mutual
def below (nx : Nat) : SV → Bool
  | .b _ | .c _ | .nil | .arr _ _ => true
  | .p n _ | .e n _ _ _ | .a n | .q n | .m n | .sl n _ | .vw n _ | .hv n _ => Nat.blt n nx
  | .g _ | .px _ _ _ _ => true
  | .i _ s => below nx s
  | .agg l => belowL nx l
  | .tup l => belowL nx l
  | .f _ _ l => belowL nx l
  | _ => false
def belowL (nx : Nat) : List SV → Bool
  | [] => true
  | s :: l => below nx s && belowL nx l
end

def resolve1 (ctx : List Bool) (s : SV) (k : SV → Prop) : Prop :=
  match s with
  | .w ts s' => ts = ctx.drop (ctx.length - ts.length) ∧ k s'
  | s => k s

def resolveL (env : List (Nat × SV)) (ctx : List Bool) : List Operand → (List SV → Prop) → Prop
  | [], k => k []
  | x :: xs, k => match get env x with
    | some s => resolve1 ctx s fun s' => resolveL env ctx xs fun ss => k (s' :: ss)
    | none => False

def peel (s : SV) : SV :=
  match s with
  | .w _ s' => s'
  | s => s
def peelL (env : List (Nat × SV)) : List Operand → Option (List SV)
  | [] => some []
  | x :: xs => match get env x, peelL env xs with
    | some s, some ss => some (peel s :: ss)
    | _, _ => none

inductive GM where
  | run
  | skip
  | under (ctx : List Bool)
  | split (d : Nat) (t want : Bool)

def guardM (ops : Array Oper) (env : List (Nat × SV)) : Option (Nat × Bool) → Option GM
  | none => some .run
  | some (j, want) =>
    match ops.toList[j]? with
    | some oj => match oj.dst with
      | some d => match efind env d with
        | some (.b t) => some (cond (t == want) .run .skip)
        | some (.c (.bool t)) => some (.split d t want)
        | some (.c (.tuple _)) => some .skip
        | some (.w ts (.b t)) => some (cond (t == want) (.under ts) .skip)
        | some (.w ts (.c (.bool t))) => some (.under (cond want t (!t) :: ts))
        | _ => none
      | none => none
    | none => none

def joinS (t : Bool) (x y : SV) : Option SV :=
  match x, y with
  | .b true, .b u => some (.c (.bool (t || u)))
  | .b true, .c (.bool u) => some (.c (.bool (t || u)))
  | .b u, .b false => some (.c (.bool (t && u)))
  | .c (.bool u), .b false => some (.c (.bool (t && u)))
  | .c (.bool u), .c (.bool v) => some (.c (.bool (cond t u v)))
  | .c (.int k a), .c (.int k' b) => if k = k' then some (.c (.int k (cond t a b))) else none
  | .c (.string a), .c (.string b) => some (.c (.string (cond t a b)))
  | _, _ => none

def pickQ (ctx : List Bool) (c x y : SV) (k : SV → Prop) : Prop :=
  resolve1 ctx c fun c' =>
    match c' with
    | .b true => resolve1 ctx x k
    | .b false => resolve1 ctx y k
    | .c (.bool t) => resolve1 (t :: ctx) x fun x' => resolve1 ((!t) :: ctx) y fun y' => match joinS t x' y' with
      | some r => k r
      | none => False
    | _ => False

def pickR (c x y : SV) : Option SV :=
  match peel c with
  | .b true => some (peel x)
  | .b false => some (peel y)
  | .c (.bool t) => joinS t (peel x) (peel y)
  | _ => none

def foretell (P : Program) (C : CE) (op : Op) (vs : List SV) (h : List (Nat × R)) : Option SV :=
  match op, vs with
  | .move _, [s] => some s
  | .assign _, [s] => some s
  | .fieldAddr S _ f, [s] => match fldT P S f, s with
    | some off, .p n o => some (.p n (o + off))
    | some off, .e n es i o => some (.e n es i (o + off))
    | some off, .px S i b o => some (.px S i b (o + off))
    | _, _ => none
  | .load T _, [.p n o] => match hfind h n with
    | some (.blk _ l) => ldBlk P T l o
    | some (.rblk _ l) => ldBlk P T l o
    | _ => none
  | .load T _, [.e n _ i o] => match arrOf h n, kindT P T with
    | some (.ints kk xs), some (false, _) => some (.c (.int kk (xs.getD i 0)))
    | some (.recs _ _ f), some (false, _) => match f i o with
      | .v x => some (.c x)
      | _ => none
    | _, _ => none
  | .load T _, [.px S i _ o] => match pfind h S h, kindT P T with
    | some (_, _, _, _, _, f), some (false, _) => match f i o with
      | .v x => some (.c x)
      | _ => none
    | _, _ => none
  | .nilCheck _, [s] => some s
  | .binOp op T _ _ _, [x, y] => match scal x, scal y with
    | some u, some v => match binV P op T u v with
      | some (_, r) => some (.c r)
      | none => none
    | _, _ => none
  | .unOp op _ _, [x] => match op, x with
    | .not, .b t => some (.b (!t))
    | .not, .c (.bool t) => some (.c (.bool (!t)))
    | .neg, .c (.int kk n) => some (.c (.int kk (kk.wrap (0 - n))))
    | .xor, .c (.int kk n) => some (.c (.int kk (bits .xor kk (if kk.signed then -1 else kk.max) n)))
    | _, _ => none
  | .convert _ dst _, [x] => match P.underlying dst, x with
    | some (.int kk), .c (.int _ n) => some (.c (.int kk (kk.wrap n)))
    | some .string, .c (.string s) => some (.c (.string s))
    | some .string, .nil => some (.c (.string (bstr [])))
    | some .string, .a n => match arrOf h n with
      | some (.ints _ xs) => some (.c (.string (bstr xs)))
      | _ => none
    | _, _ => none
  | .extract _ i, [.tup l] => l[i]?
  | .field T _ f, [.agg l] => match P.underlying T with
    | some (.struct fs) => match fs[f]? with
      | some fl => ldBlk P fl.type l fl.offset
      | none => none
    | _ => none
  | .indexAddr T _ _, [.a n, .c (.int _ z)] => match P.underlying T with
    | some (.slice e) => match kindT P e with
      | some (_, es) => some (.e n es z.toNat 0)
      | _ => none
    | _ => none
  | .indexAddr T _ _, [.p n o, .c (.int _ z)] => match P.underlying T with
    | some (.array _ e) => match kindT P e with
      | some (_, es) => some (.p n (o + z.toNat * es))
      | _ => none
    | _ => none
  | .lookup _ _ _ ok, [.m n, y] => match mapOf h n, scal y with
    | some (ks, vs), some key => match ks.idx key with
      | some o => some (cond ok (.tup [.c (vs.getAt o), .c (.bool o.isSome)]) (.c (vs.getAt o)))
      | none => none
    | _, _ => none
  | .makeFunc fn first _, vs => match fn with
    | .func f => some (.f f first.toList.length vs)
    | _ => none
  | .makeInterface T _, [s] => some (.i T s)
  | .index _ _ _, [.c (.string s), .c (.int _ z)] => some (.c (.int .u8 ((s.data.toList.getD z.toNat 0).toNat : Int)))
  | .call c, vs => match c.callee, vs with
    | .builtin .len, [x] => match x with
      | .c (.string s) => some (.c (.int .i64 (s.size : Int)))
      | .nil => some (.c (.int .i64 0))
      | .a n => match arrOf h n with
        | some d => some (.c (.int .i64 (d.len : Int)))
        | none => match pownOf h n with
          | some (_, _, _, _, len, _) => some (.c (.int .i64 (len : Int)))
          | none => none
      | .hv _ l => some (.c (.int .i64 (l : Int)))
      | .m n => match mapOf h n with
        | some (ks, _) => some (.c (.int .i64 (ks.len : Int)))
        | none => none
      | _ => none
    | .value _, .f f nf caps :: args => match C f with
      | some ct => match argsOf P false h ct.own (paramsOf P f) (caps.take nf ++ (args ++ caps.drop nf)) with
        | some (as, [], _) => match scalarsOf (ct.res as) with
          | some xs => some (retS (xs.map .c))
          | none => none
        | _ => none
      | none => none
    | _, _ => none
  | _, _ => none

def isQuiet (P : Program) (C : CE) (op : Op) (env : List (Nat × SV)) : Bool :=
  match op with
  | .move _ | .assign _ | .pick .. | .fieldAddr .. | .load .. | .nilCheck _ | .binOp .. | .unOp .. | .extract .. | .field .. | .indexAddr .. | .index .. | .slice .. | .makeFunc .. | .build .. | .lookup .. | .makeInterface .. | .typeAssert .. => true
  | .convert _ dst _ => match P.underlying dst with
    | some (.slice _) => false
    | _ => true
  | .call c => match c.callee with
    | .builtin .len => true
    | .builtin .cap => true
    | .value x => match get env x with
      | some (.f f _ _) => match C f with
        | some ct => ct.quiet
        | none => false
      | _ => false
    | _ => false
  | _ => false

def stepOQ (P : Program) (C : CE) (ctx : List Bool) (op : Op) (env : List (Nat × SV)) (h : List (Nat × R)) (nx : Nat) (k : HK) : Prop :=
  match op with
  | .pick c x y => match get env c, get env x, get env y with
    | some c', some x', some y' => pickQ ctx c' x' y' fun r => k r h nx
    | _, _, _ => False
  | .call cl => match cl.callee with
    | .value _ => resolveL env ctx op.operands.toList fun vs => match vs with
      | .f f nf caps :: args => match C f with
        | some ct => callQ P (paramsOf P f) ct (caps.take nf ++ (args ++ caps.drop nf)) h fun r => k r h nx
        | none => False
      | _ => False
    | _ => resolveL env ctx op.operands.toList fun vs => stepQ P op vs h nx k
  | _ => resolveL env ctx op.operands.toList fun vs => stepQ P op vs h nx k

def foretellO (P : Program) (C : CE) (op : Op) (env : List (Nat × SV)) (h : List (Nat × R)) : Option SV :=
  match op with
  | .pick c x y => match get env c, get env x, get env y with
    | some c', some x', some y' => pickR c' x' y'
    | _, _, _ => none
  | _ => match peelL env op.operands.toList with
    | some vs => foretell P C op vs h
    | none => none

def putS (N : Nat) (dst : Option Nat) (s : SV) (env : List (Nat × SV)) (k : List (Nat × SV) → Prop) : Prop :=
  match dst with
  | some d => cond (Nat.blt d N) (k ((d, s) :: env)) False
  | none => k env

def guardX (P : Program) (C : CE) (sp : Bool) (ops : Array Oper) (env : List (Nat × SV)) (h : List (Nat × R)) (nx : Nat) (o : Oper) : Option GM :=
  match guardM ops env o.guard with
  | some (.split d t want) => match cond (!sp && isQuiet P C o.op env) (foretellO P C o.op env h) none with
    | some r => cond (below nx r) (some (.under [cond want t (!t)])) (some (.split d t want))
    | none => some (.split d t want)
  | m => m

def execOps (P : Program) (C : CE) (N : Nat) (sp quiet : Bool) (ops : Array Oper) : List Oper → List (Nat × SV) → List (Nat × R) → Nat →
    (List (Nat × SV) → List (Nat × R) → Nat → Prop) → Prop
  | [], env, h, nx, k => k env h nx
  | o :: rest, env, h, nx, k =>
    match guardX P C sp ops env h nx o with
    | none => False
    | some .skip => putS N o.dst (.c undef) env fun env' => execOps P C N sp quiet ops rest env' h nx k
    | some .run =>
      cond (isQuiet P C o.op env)
        (stepOQ P C [] o.op env h nx fun r h' nx' => putS N o.dst r env fun env' => execOps P C N sp quiet ops rest env' h' nx' k)
        (cond quiet False
          (resolveL env [] o.op.operands.toList fun vs => stepL P C o.op vs h nx fun r h' nx' => putS N o.dst r env fun env' => execOps P C N sp quiet ops rest env' h' nx' k))
    | some (.split d t want) =>
      swc want t (cond (isQuiet P C o.op ((d, .b want) :: env))
        (stepOQ P C [] o.op ((d, .b want) :: env) h nx fun r h' nx' => putS N o.dst r ((d, .b want) :: env) fun env' => execOps P C N sp quiet ops rest env' h' nx' k)
        (cond quiet False
          (resolveL ((d, .b want) :: env) [] o.op.operands.toList fun vs => stepL P C o.op vs h nx fun r h' nx' => putS N o.dst r ((d, .b want) :: env) fun env' => execOps P C N sp quiet ops rest env' h' nx' k)))
      (putS N o.dst (.c undef) ((d, .b (!want)) :: env) fun env' => execOps P C N sp quiet ops rest env' h nx k)
    | some (.under ctx) =>
      match cond (isQuiet P C o.op env) (foretellO P C o.op env h) none with
      | some r => cond (below nx r) (sw (allB ctx) (stepOQ P C ctx o.op env h nx fun r' _ _ => r' = r) True ∧ putS N o.dst (.w ctx r) env fun env' => execOps P C N sp quiet ops rest env' h nx k) False
      | none =>
        sw (allB ctx) (cond (isQuiet P C o.op env)
          (stepOQ P C ctx o.op env h nx fun r h' nx' => putS N o.dst (.w ctx r) env fun env' => execOps P C N sp quiet ops rest env' h' nx' k)
          (cond quiet False
            (resolveL env ctx o.op.operands.toList fun vs => stepL P C o.op vs h nx fun r h' nx' => putS N o.dst (.w ctx r) env fun env' => execOps P C N sp quiet ops rest env' h' nx' k)))
        (putS N o.dst (.c undef) env fun env' => execOps P C N sp quiet ops rest env' h nx k)
end Go.Z
