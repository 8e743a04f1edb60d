/- The loud operations are sound: append. -/
import Derived.Test.YtonfaeenoifomaaZ15
namespace Go.Z
open Go.RowKit

section
variable {P : Program} {K : Ctx} {θ : Th} {h : List (Nat × R)} {nx : Nat} {w : World}

/-- An owned array lies on under a new name. -/
theorem SatH.move (hs : SatH K θ h nx w) {n T : Nat} {d r : D} {L L' : Loc} {w' : World} (hn : hfind h n = some (.own T d)) (hL : θ n = some L) (hcap : L.cap ≠ 0)
    (hb : L'.b = L.b) (hc' : L'.cap ≠ 0)
    (hos : w'.os = w.os) (htape : w'.tape = w.tape) (hout : w'.output = w.output) (hsize : w'.heap.size = w.heap.size) (hblock : ∀ b, b ≠ L.b → w'.heap[b]? = w.heap[b]?)
    (hh : ∀ X', (∀ b, b < w.heap.size → Free K θ h b → X' b) → (R.own T r).holds (θ.add nx L') X' w' L') :
    SatH K (θ.add nx L') ((nx, .own T r) :: (n, .dead) :: h) (nx + 1) w' := by
  have hnx := hs.fresh nx (Nat.le_refl _)
  have hne : n ≠ nx := fun e => by subst e; rw [hnx] at hL; cases hL
  have hme : OwnsAt θ h n L.b := ⟨_, L, hn, hL, hcap, rfl⟩
  have ho : ∀ m b, OwnsAt (θ.add nx L') ((nx, .own T r) :: (n, .dead) :: h) m b ↔ (m = nx ∧ b = L.b) ∨ (m ≠ nx ∧ m ≠ n ∧ OwnsAt θ h m b) := by
    intro m b
    rw [ownsAt_add' hnx]
    constructor
    · rintro (⟨rfl, _, h3⟩ | ⟨e, r1, L1, h1, h2, h3, h4⟩)
      · exact .inl ⟨rfl, by rw [← h3, hb]⟩
      · rw [hfind_cons] at h1
        split at h1
        · cases h1; exact h3.elim
        · rename_i e2; exact .inr ⟨e, Ne.symm e2, r1, L1, h1, h2, h3, h4⟩
    · rintro (⟨rfl, rfl⟩ | ⟨e, e2, r1, L1, h1, h2, h3, h4⟩)
      · exact .inl ⟨rfl, hc', hb⟩
      · exact .inr ⟨e, r1, L1, by rw [hfind_cons, if_neg (Ne.symm e2)]; exact h1, h2, h3, h4⟩
  have hF : ∀ b, Free K θ h b → Free K (θ.add nx L') ((nx, .own T r) :: (n, .dead) :: h) b := fun b hf => ⟨fun m hm => by
    rcases (ho m b).1 hm with ⟨_, e⟩ | ⟨_, _, h1⟩
    · subst e; exact hf.1 n hme
    · exact hf.1 m h1, hf.2⟩
  refine hs.gen (Th.add_ext hnx L') (fun m hm => by rw [Th.add_other _ _ (by omega)]; exact hs.fresh m (by omega)) (fun b _ hf => ⟨hF b hf, hblock b (fun e => hf.1 n (e ▸ hme))⟩) ?_ ?_ ?_ ?_
  · intro m r1 hr
    rw [hfind_cons] at hr
    split at hr
    · rename_i e; subst e; cases hr
      exact .inr ⟨L', Th.add_self _ _ _, hh _ (fun b _ hf => hF b hf)⟩
    · rename_i e
      rw [hfind_cons] at hr
      split at hr
      · rename_i e2; subst e2; cases hr
        exact .inr ⟨L, by rw [Th.add_other _ _ hne]; exact hL, trivial⟩
      · rename_i e2
        refine .inl ⟨hr, fun L1 hL1 ho1 => hblock _ (fun e1 => e2 ?_)⟩
        exact hs.dis n m L.b hme ⟨r1, L1, hr, hL1, ho1, e1⟩
  · intro a b c h1 h2
    rcases (ho a c).1 h1 with ⟨e1, e1'⟩ | ⟨e1, e1', h3⟩ <;> rcases (ho b c).1 h2 with ⟨e2, e2'⟩ | ⟨e2, e2', h4⟩
    · omega
    · subst e1'; exact absurd (hs.dis n b _ hme h4).symm e2'
    · subst e2'; exact absurd (hs.dis n a _ hme h3).symm e1'
    · exact hs.dis a b c h3 h4
  · intro a b h1
    rcases (ho a b).1 h1 with ⟨_, e⟩ | ⟨_, _, h3⟩
    · subst e; exact hs.new n _ hme
    · exact hs.new a b h3
  · refine ⟨hos.trans hs.frame.os, htape.trans hs.frame.tape, hout.trans hs.frame.output, by rw [hsize]; exact hs.frame.size, fun b hb1 hb2 => ?_⟩
    rw [hblock b ?_]
    · exact hs.frame.block b hb1 hb2
    · intro e; subst e
      rcases hs.new n _ hme with h1 | h1
      · omega
      · exact hb2 h1

theorem run_firstCells {size m : Nat} {w0 : World} {L : Loc} {cs : List Value} (hw : L.wf) (hcap : L.len ≤ L.cap) (hl : cs.length = L.len * size)
    (hload : ∀ j v, cs[j]? = some v → w0.cell? ⟨L.b, L.o + j, none⟩ = some v) (hm : m = L.len) : (Builtin.firstCells size m L.val).run P w0 = .ok cs.toArray w0 := by
  subst hm
  unfold Loc.val
  cases ha : L.a with
  | none =>
    rcases hw with h0 | h0
    · have : L.len = 0 := by omega
      rw [this] at hl; simp at hl; subst hl
      rfl
    · rw [ha] at h0; cases h0
  | some a =>
    rcases hw with h0 | h0
    · have h1 : L.len = 0 := by omega
      rw [h1] at hl ⊢; simp at hl; subst hl
      exact run_firstCells_some w0 size 0 a 0 L.cap [] (by simp) (fun j v hv => by simp at hv)
    · rw [ha] at h0; cases h0
      exact run_firstCells_some w0 size L.len _ _ _ cs hl (fun j v hv => by rw [add_mk]; exact hload j v hv)

/-- What is appended: its cells. -/
theorem srcD_sound (hs : SatH K θ h nx w) {e xT : Nat} {i : TypeInfo} {z : Value} (hi : P.info? e = some i) (hz : i.zero = some z) {x : SV} {u : Value} (hu : V θ x u) {c : Prop} {d : D}
    (hq : srcD P e xT x h = some (c, d)) (hc : c) (hes : d.es = i.size) :
    ∃ news, SrcOk P i z xT u d.len news w ∧ d.cellsAre (Free K θ h) w news := by
  unfold srcD at hq
  split at hq
  · rename_i e' m hT
    split at hq <;> cases hq
    rename_i hd
    obtain ⟨L, hL, hat, hw⟩ := arrOf_sound hs hd
    simp only [V] at hu
    obtain ⟨L', hL', rfl⟩ := hu
    obtain rfl := Option.some.inj (hL.symm.trans hL')
    obtain ⟨l1, l2⟩ := D.at_len hat
    obtain ⟨cs, a1, a2, a3⟩ := D.at_cells hat
    refine ⟨cs, .inl ⟨_, hT, fun k => by simp, fun w' => ?_, ?_, ?_⟩, a3⟩
    · rw [← l1]; rfl
    · exact run_firstCells hw l2 (by rw [a1, l1, hes]) a2 l1.symm
    · exact run_firstCells hw l2 (by rw [a1, l1, hes]) a2 l1.symm
  · rename_i s hT
    split at hq <;> cases hq
    simp only [V] at hu; subst hu
    have hsz : s.extract 0 s.size = s := by
      apply ByteArray.ext; simp
    have hlen : (D.ints IntKind.u8 (s.data.toList.map fun b => (b.toNat : Int))).len = s.size := by
      show (s.data.toList.map _).length = s.data.size
      rw [List.length_map, Array.length_toList]
    refine ⟨s.data.toList.map fun b => .int .u8 (b.toNat : Int), .inl ⟨_, hT, fun k => by simp, fun w' => ?_, ?_, ?_⟩, by simp [D.cellsAre, Function.comp_def]⟩
    · rw [hlen]; rfl
    · rw [hlen]; simp only [Builtin.firstCells, hsz]; simp
      apply Array.ext'; simp
    · rw [hlen]; simp only [Builtin.firstCells, hsz]; simp
      apply Array.ext'; simp
  · rename_i k kk zz hT
    split at hq <;> try (cases hq; done)
    rename_i ke hke
    split at hq <;> try (cases hq; done)
    rename_i i' hi'
    split at hq <;> cases hq
    rename_i k' hz'
    obtain rfl := Option.some.inj (hi.symm.trans hi')
    obtain rfl := Option.some.inj (hz.symm.trans hz')
    obtain ⟨c1, c2, c3, c4⟩ := hc
    subst c4
    simp only [V] at hu; subst hu
    have hlen : (D.ints k' (List.replicate zz.toNat 0)).len = zz.toNat := by simp [D.len]
    refine ⟨(Builtin.zeroCells (Value.int k' 0).cells zz.toNat).toList, .inr ⟨k, kk, hT, by rw [hlen, Int.toNat_of_nonneg c1], by rw [hlen]; omega, by rw [hlen]; exact c3, by rw [hlen]⟩, ?_⟩
    simp only [D.cellsAre, Builtin.zeroCells, Value.cells, Array.toList_map]
    apply List.ext_getElem?
    intro j
    simp only [List.getElem?_map, List.getElem?_replicate]
    by_cases hj : j < zz.toNat
    · simp [hj, Nat.mod_one]
    · simp [hj]
  · cases hq

theorem grown_cells (w : World) (need old e : Nat) : need ≤ grownCap w need old e := grownCap_ge w need old e

theorem size_zero (zs : Array Value) (n : Nat) : (Builtin.zeroCells zs n).size = n * zs.size := by simp [Builtin.zeroCells]

/-- A new array, behind a growth. -/
theorem grow_sat (hs : SatH K θ h nx w) {e : Nat} {r : D} {cells : List Value} {zs : Array Value} {need cap : Nat} (hlen : r.len = need) (hes : zs.size = r.es)
    (hcells : ∀ X' : Nat → Prop, (∀ b, b < w.heap.size → Free K θ h b → X' b) → ∀ w' : World, (∀ b, b < w.heap.size → w'.heap[b]? = w.heap[b]?) → r.cellsAre X' w' cells) :
    SatH K (θ.add nx { a := some ⟨w.heap.size, 0, none⟩, len := need, cap := grownCap w need cap e })
      ((nx, .own e r) :: h) (nx + 1) (w.drew.alloc (.cells (cells.toArray ++ Builtin.zeroCells zs (grownCap w need cap e - need)) e)) := by
  have hb : Below w.heap.size w (w.drew.alloc (.cells (cells.toArray ++ Builtin.zeroCells zs (grownCap w need cap e - need)) e)) :=
    ((Below.refl _ _).drew).alloc (Nat.le_refl _) _
  have hge := grownCap_ge w need cap e
  refine hs.add_new hb (fun _ => Nat.le_refl _) (fun θ' X' hθ hX1 hX2 => ?_)
  have hc := hcells X' hX1 _ (fun b hb' => hb.block b hb')
  have hcl := D.cellsAre_length hc
  have hheap : (w.drew.alloc (.cells (cells.toArray ++ Builtin.zeroCells zs (grownCap w need cap e - need)) e)).heap[w.heap.size]? = some (.cells (cells.toArray ++ Builtin.zeroCells zs (grownCap w need cap e - need)) e (0, 0)) := by
    show (w.heap.push _)[w.heap.size]? = _
    simp
  refine ⟨D.at_of_cells hlen.symm hge (fun j v hv => ?_) hc, .inr rfl, fun _ => ⟨_, hheap, ?_⟩⟩
  · have hj := (List.getElem?_eq_some_iff.1 hv).1
    show World.cell? _ ⟨w.heap.size, 0 + j, none⟩ = _
    simp only [World.cell?, hheap, Nat.zero_add]
    simp only [Option.isSome_none, Bool.false_eq_true, if_false]
    rw [Array.getElem?_append_left (by simpa using hj)]
    simpa using hv
  · show 0 + grownCap w need cap e * r.es ≤ _
    simp only [Array.size_append, List.size_toArray, size_zero, hes, hcl, hlen]
    rw [← Nat.add_mul]
    rw [show need + (grownCap w need cap e - need) = grownCap w need cap e by omega]
    omega

theorem isSl_sound {T : Nat} (hq : appendL.isSl P T = true) : ∃ e, P.underlying T = some (.slice e) := by
  unfold appendL.isSl at hq
  split at hq
  · exact ⟨_, by assumption⟩
  · cases hq

theorem D.app_es {d e r : D} (h : D.app d e = some r) : e.es = d.es := by
  cases d <;> cases e <;> simp only [D.app] at h <;> (try (cases h; done))
  · rfl
  · rename_i es n f es' m g
    cases hb : Nat.beq es es' with
    | false => rw [hb] at h; cases h
    | true => exact (nbeq hb).symm

theorem appendL_sound (hs : SatH K θ h nx w) {sT xT ty : Nat} {s x : SV} {u v : Value} (hu : V θ s u) (hv : V θ x v) {k : HK} (hq : appendL P sT xT s x h nx k) :
    LOK K θ nx k ((Builtin.append_ #[sT, xT] ty #[u, v]).run P w) := by
  unfold appendL at hq
  split at hq <;> try exact hq.elim
  rename_i e hT
  split at hq <;> try exact hq.elim
  rename_i i hi
  split at hq <;> try exact hq.elim
  rename_i z hz
  obtain ⟨hc, hq0⟩ := cond_false hq
  clear hq
  simp only [Bool.and_eq_true] at hc
  have hzs := nbeq hc.1.1
  have hby := nblt hc.2
  have small : ∀ q : Nat, q * i.bytes ≤ 140737488355328 → q ≤ 9223372036854775807 := fun q hq => by
    have := Nat.le_mul_of_pos_right q hby
    omega
  -- nothing is appended
  have none_src : ∀ {e'}, P.underlying xT = some (.slice e') → SrcOk P i z xT (.slice none 0 0) 0 [] w := fun hx => .inl ⟨_, hx, fun k => by simp, fun w' => rfl, rfl, rfl⟩
  split at hq0
  · -- nil, nil
    obtain ⟨h1, h2⟩ := cond_false hq0
    obtain ⟨e', hx⟩ := isSl_sound h1
    simp only [V] at hu hv; subst hu hv
    refine ⟨_, _, _, θ, .slice none 0 0, w, h2, hs, Th.ext_refl _, by simp only [V], ?_, Nat.le_refl _⟩
    exact run_app_room hT hi hz hzs (none_src hx) none 0 0 (Nat.le_refl _) w (fun a ha => by cases ha) (fun _ => rfl)
  · -- a, nil
    rename_i n
    split at hq0 <;> try exact hq0.elim
    rename_i d hd
    obtain ⟨h1, h2⟩ := cond_false hq0
    obtain ⟨e', hx⟩ := isSl_sound h1
    obtain ⟨L, hL, hat, hw⟩ := arrOf_sound hs hd
    simp only [V] at hu hv
    obtain ⟨L', hL', rfl⟩ := hu
    obtain rfl := Option.some.inj (hL.symm.trans hL')
    subst hv
    refine ⟨_, _, _, θ, L.val, w, h2, hs, Th.ext_refl _, by simp only [V]; exact ⟨L, hL, rfl⟩, ?_, Nat.le_refl _⟩
    exact run_app_room hT hi hz hzs (none_src hx) L.a L.len L.cap (D.at_len hat).2 w (fun a _ => rfl) (fun _ => rfl)
  · -- nil, something
    rename_i hne
    split at hq0 <;> try exact hq0.elim
    rename_i c d hsrc
    obtain ⟨h1, h2⟩ := cond_false hq0
    obtain ⟨h3, h4, h5⟩ := h2
    have hes := nbeq h1
    obtain ⟨news, hsr, hcells⟩ := srcD_sound hs hi hz hv hsrc h3 hes
    have hcl := D.cellsAre_length hcells
    simp only [V] at hu; subst hu
    by_cases hm : d.len = 0
    · rw [hm] at hcl hsr
      simp at hcl; subst hcl
      refine ⟨_, _, _, θ.add nx { a := none, len := 0, cap := 0 }, .slice none 0 0, w, h5, ?_, Th.add_ext (hs.fresh nx (Nat.le_refl _)) _, by simp only [V]; exact ⟨_, Th.add_self _ _ _, rfl⟩, ?_, by omega⟩
      · refine hs.add_new (Below.refl _ _) (fun ho => absurd rfl ho) (fun θ' X' _ hX1 _ => ⟨?_, .inl rfl, fun hne => absurd rfl hne⟩)
        exact D.at_of_cells hm.symm (Nat.le_refl _) (fun j v hv => by simp at hv) (D.cellsAre_mono (fun b hb hf => ⟨hX1 b hb hf, rfl⟩) hcells)
      · exact run_app_room hT hi hz hzs hsr none 0 0 (Nat.le_refl _) w (fun a ha => by cases ha) (fun _ => rfl)
    · have h63 := small _ h4
      have hrun := run_app_grow (P := P) (ty := ty) hT hi hz hzs hsr none 0 0 [] (by omega) rfl (by omega) (by simpa using h4)
      refine ⟨_, _, _, _, _, _, h5, grow_sat (need := d.len) (cap := 0) (e := e) (zs := z.cells) (cells := news) hs rfl (by rw [hzs, hes]) (fun X' hX' w' hw' => D.cellsAre_mono (fun b hb hf => ⟨hX' b hb hf, hw' b hb⟩) hcells),
        Th.add_ext (hs.fresh nx (Nat.le_refl _)) _, by simp only [V]; exact ⟨_, Th.add_self _ _ _, rfl⟩, ?_, by omega⟩
      rw [hrun]
      simp [Loc.val]
  · -- an array, something
    rename_i n hne
    split at hq0 <;> try exact hq0.elim
    rename_i T d hf
    split at hq0 <;> try exact hq0.elim
    rename_i c d' hsrc
    split at hq0 <;> try exact hq0.elim
    rename_i r happ
    obtain ⟨h1, h2⟩ := cond_false hq0
    obtain ⟨h3, h4, h5⟩ := h2
    simp only [Bool.and_eq_true] at h1
    obtain ⟨⟨b1, b2⟩, b3⟩ := h1
    obtain rfl := nbeq b1
    have hes := nbeq b2
    obtain ⟨L, hL, hat, hw, hown⟩ := hs.res n _ hf
    simp only [V] at hu
    obtain ⟨L', hL', rfl⟩ := hu
    obtain rfl := Option.some.inj (hL.symm.trans hL')
    obtain ⟨len1, len2⟩ := D.at_len hat
    obtain ⟨olds, a1, a2, a3⟩ := D.at_cells hat
    have hes' : d'.es = i.size := by
      have := (D.app_es happ); omega
    obtain ⟨news, hsr, hcells⟩ := srcD_sound hs hi hz hv hsrc h3 hes'
    obtain ⟨r1, r2, r3, r4⟩ := D.app_cells happ a3 hcells
    have hcl := D.cellsAre_length hcells
    have hone := D.cellsAre_one hcells
    have hnx := hs.fresh nx (Nat.le_refl _)
    by_cases hroom : L.len + d'.len ≤ L.cap
    · by_cases hcap : L.cap = 0
      · -- nothing at all
        have e1 : d'.len = 0 := by omega
        have e2 : d.len = 0 := by omega
        rw [e1] at hcl hsr
        simp at hcl; subst hcl
        rw [e2] at a1
        simp at a1; subst a1
        refine ⟨_, _, _, (θ.add nx L), L.val, w, h5, ?_, Th.add_ext hnx _, by simp only [V]; exact ⟨L, Th.add_self _ _ _, rfl⟩, ?_, by omega⟩
        · refine (hs.kill ⟨L, hL⟩).add_new (Below.refl _ _) (fun ho => absurd hcap ho) (fun θ' X' _ hX1 _ => ⟨?_, hw, fun hne => absurd hcap hne⟩)
          have hX1' : ∀ b, b < w.heap.size → Free K θ h b → X' b := fun b hb hfb => hX1 b hb ⟨fun m hm => by
            obtain ⟨r1, L1, q1, q2, q3, q4⟩ := hm
            rw [hfind_cons] at q1
            split at q1
            · cases q1; exact q3
            · exact hfb.1 m ⟨r1, L1, q1, q2, q3, q4⟩, hfb.2⟩
          exact D.at_of_cells (by omega) (by omega) (fun j v hv => by simp at hv) (D.cellsAre_mono (fun b hb hfb => ⟨hX1' b hb hfb, rfl⟩) r1)
        · have := run_app_room (P := P) (ty := ty) hT hi hz hzs hsr L.a L.len L.cap (by omega) w (fun a _ => rfl) (fun _ => rfl)
          exact this
      · obtain ⟨cur, hb, hcur⟩ := hown hcap
        have ha : L.a = some ⟨L.b, L.o, none⟩ := hw.resolve_left hcap
        have hfit : L.o + L.len * i.size + news.length ≤ cur.size := by
          rw [hcl, hes']
          have : (L.len + d'.len) * d.es ≤ L.cap * d.es := Nat.mul_le_mul_right _ hroom
          rw [hes, Nat.add_mul] at this
          rw [hes] at hcur
          omega
        have hst := run_storeCells_at P L.b (L.o + L.len * i.size) T news 0 cur w hb (by simpa using hfit) hone
        simp only [Nat.add_zero] at hst
        have hrun := run_app_room (P := P) (ty := ty) hT hi hz hzs hsr L.a L.len L.cap hroom _ (fun a ha' => by
          rw [ha] at ha'; cases ha'
          rw [add_mk]; exact hst) (fun h0 => by rw [ha] at h0; cases h0)
        have hLb : ({ a := L.a, len := L.len + d'.len, cap := L.cap } : Loc).b = L.b := rfl
        refine ⟨_, _, _, (θ.add nx { a := L.a, len := L.len + d'.len, cap := L.cap }), _, _, h5, ?_, Th.add_ext hnx _, by simp only [V]; exact ⟨_, Th.add_self _ _ _, rfl⟩, hrun, by omega⟩
        refine hs.move hf hL hcap hLb hcap rfl rfl rfl (by simp) (fun b hne' => setRow_other w L.b b _ hne') (fun X' hX' => ⟨?_, ?_, fun _ => ⟨_, setRow_heap w L.b cur _ T _ hb, ?_⟩⟩)
        · refine D.at_of_cells (cs := olds ++ news) (by simp only; omega) hroom (fun j v hv => ?_) ?_
          · show World.cell? _ ⟨L.b, L.o + j, none⟩ = _
            rw [cell_setRow_same w L.b _ cur _ T _ hb]
            simp only [List.getElem?_toArray]
            have t2 : (cur.toList.take (L.o + L.len * i.size)).length = L.o + L.len * i.size := by simp; omega
            have ol : olds.length = L.len * i.size := by rw [a1, len1, hes]
            by_cases c1 : j < olds.length
            · rw [List.getElem?_append_left c1] at hv
              rw [List.append_assoc, List.getElem?_append_left (by omega), List.getElem?_take, if_pos (by omega)]
              have := a2 j v hv
              simpa [World.cell?, hb] using this
            · rw [List.getElem?_append_right (by omega)] at hv
              rw [List.append_assoc, List.getElem?_append_right (by omega), t2, show L.o + j - (L.o + L.len * i.size) = j - olds.length by omega]
              rw [List.getElem?_append_left (List.getElem?_eq_some_iff.1 hv).1]; exact hv
          · refine D.cellsAre_mono (fun b hb' hfb => ⟨hX' b hb' hfb, setRow_other w L.b b _ (fun e => hfb.1 n (e ▸ ⟨_, L, hf, hL, hcap, rfl⟩))⟩) r1
        · exact .inr ha
        · simp only [List.size_toArray, List.length_append, List.length_take, List.length_drop, Array.length_toList]
          rw [r3]
          show L.o + L.cap * d.es ≤ _
          omega
    · have h63 := small _ h4
      have ol : olds.length = L.len * i.size := by rw [a1, len1, hes]
      have hrun := run_app_grow (P := P) (ty := ty) hT hi hz hzs hsr L.a L.len L.cap olds (by omega) (run_firstCells hw len2 ol a2 rfl) (by omega) (by rw [len1]; exact h4)
      have hk := hs.kill (n := n) ⟨L, hL⟩
      have hkF : ∀ b, Free K θ h b → Free K θ ((n, .dead) :: h) b := fun b hfb => ⟨fun m hm => by
            obtain ⟨r1, L1, q1, q2, q3, q4⟩ := hm
            rw [hfind_cons] at q1
            split at q1
            · cases q1; exact q3
            · exact hfb.1 m ⟨r1, L1, q1, q2, q3, q4⟩, hfb.2⟩
      refine ⟨_, _, _, _, _, _, h5, grow_sat (need := L.len + d'.len) (cap := L.cap) (e := T) (zs := z.cells) (cells := olds ++ news) hk (by omega) (by rw [hzs, r3, hes])
          (fun X' hX' w' hw' => D.cellsAre_mono (fun b hb hfb => ⟨hX' b hb (hkF b hfb), hw' b hb⟩) r1),
        Th.add_ext hnx _, by simp only [V]; exact ⟨_, Th.add_self _ _ _, rfl⟩, ?_, by omega⟩
      rw [show L.val = .slice L.a L.len L.cap from rfl, hrun]
      simp [Loc.val]
  · exact hq0.elim
end
end Go.Z
