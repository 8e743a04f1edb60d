/- The loud operations are sound: variables. -/
import Derived.Test.YtgnfpcjndhnglaaX14
namespace Go.X
open Go.RowKit

section
variable {P : Program} {K : Ctx} {θ : Th} {h : List (Nat × R)} {nx : Nat} {w : World}

/-- What a loud step gives. -/
def LOut (K : Ctx) (θ : Th) (k : HK) (run : World → Result Value → Prop) (w : World) : Prop :=
  ∃ r h' nx' θ' v' w', k r h' nx' ∧ SatH K θ' h' nx' w' ∧ θ.ext θ' ∧ V θ' r v' ∧ run w (.ok v' w')

def LOK (K : Ctx) (θ : Th) (nx : Nat) (k : HK) (res : Result Value) : Prop :=
  ∃ r h' nx' θ' v' w', k r h' nx' ∧ SatH K θ' h' nx' w' ∧ θ.ext θ' ∧ V θ' r v' ∧ res = .ok v' w' ∧ nx ≤ nx'

theorem below_alloc (w : World) (o : Obj) : Below w.heap.size w (w.alloc o) := (Below.refl _ _).alloc (Nat.le_refl _) o

def newLoc (w : World) : Loc := { a := some ⟨w.heap.size, 0, none⟩, len := 0, cap := 0 }

theorem add_blk (hs : SatH K θ h nx w) {T : Nat} {l : List SV} {cs : List Value} (hl : VL θ l cs) :
    SatH K (θ.add nx (newLoc w)) ((nx, .blk T l) :: h) (nx + 1) (w.alloc (.cells cs.toArray T)) := by
  refine hs.add_new (below_alloc _ _) (fun _ => Nat.le_refl _) (fun θ' X' hθ _ _ => ?_)
  refine ⟨cs, rfl, ?_, VL_mono hθ _ _ hl⟩
  show (w.heap.push _)[w.heap.size]? = _
  simp

theorem V_new (θ : Th) (nx : Nat) (w : World) : V (θ.add nx (newLoc w)) (.p nx 0) (.pointer (some ⟨w.heap.size, 0, none⟩)) := by
  simp only [V]
  exact ⟨_, Th.add_self _ _ _, rfl⟩

theorem allocL_sound (hs : SatH K θ h nx w) {T : Nat} {k : HK} (hq : allocL P T h nx k) : LOK K θ nx k ((Instr.alloc T true (.tuple #[])).run P w) := by
  unfold allocL at hq
  split at hq <;> try exact hq.elim
  rename_i l hz
  unfold zeroS at hz
  split at hz <;> try (cases hz; done)
  rename_i i hi
  split at hz <;> cases hz
  rename_i z hzv
  refine ⟨_, _, _, _, _, _, hq, add_blk (T := T) hs (VL_liftK1 θ z.cells.toList), Th.add_ext (hs.fresh nx (Nat.le_refl _)) _, V_new θ nx w, ?_, by omega⟩
  simp [Instr.alloc, run_zero hi hzv, newVar, newRow]

theorem boxL_sound (hs : SatH K θ h nx w) {T : Nat} {s : SV} {v : Value} (hv : V θ s v) {k : HK} (hq : boxL T s h nx k) : LOK K θ nx k ((Instr.box T v).run P w) := by
  unfold boxL at hq
  split at hq <;> try exact hq.elim
  rename_i l hl
  refine ⟨_, _, _, _, _, _, hq, add_blk (T := T) hs (V_cellsS hl hv), Th.add_ext (hs.fresh nx (Nat.le_refl _)) _, V_new θ nx w, ?_, by omega⟩
  simp [Instr.box, newVar, newRow]

theorem cellsS_one {s : SV} {l : List SV} {v : Value} (h : cellsS s = some l) (hv : V θ s v) (hall : l.all oneS = true) : ∀ u ∈ v.cells.toList, u.oneCell' = true := by
  have hvl := V_cellsS h hv
  intro u hu
  obtain ⟨p, hp, hpu⟩ := List.getElem_of_mem hu
  have hlen := VL_length hvl
  have hp' : p < l.length := by omega
  obtain ⟨v', h1, h2⟩ := VL_get hvl (List.getElem?_eq_getElem hp')
  rw [List.getElem?_eq_getElem hp] at h1
  cases h1
  rw [hpu] at h2
  exact oneCell_of (List.all_eq_true.1 hall _ (List.getElem_mem hp')) h2

/-- A row of cells stored into a block that is written. -/
theorem run_storeVar {T sz : Nat} {g : Bool} (hk : kindT P T = some (g, sz)) {b o T' : Nat} {cur : Array Value} {v : Value} (hb : w.heap[b]? = some (.cells cur T' (0, 0)))
    (hsz : v.cells.size = sz) (hfit : o + sz ≤ cur.size) (h1 : ∀ u ∈ v.cells.toList, u.oneCell' = true) :
    (Instr.storeAt T (.pointer (some ⟨b, o, none⟩)) v).run P w = .ok () (w.setRow b (cur.toList.take o ++ v.cells.toList ++ cur.toList.drop (o + sz)).toArray) := by
  have := run_storeCells_at P b o T' v.cells.toList 0 cur w hb (by simp; omega) h1
  simp only [Nat.add_zero, Array.length_toList, hsz] at this
  simp [Instr.storeAt, Instr.sureAddr, storeVar, (run_kind hk w).2, hsz, this]

theorem VL_splice {l cs : List SV} {us vs : List Value} (o : Nat) (hl : VL θ l us) (hc : VL θ cs vs) : VL θ (splice l o cs) (us.take o ++ (vs ++ us.drop (o + vs.length))) := by
  unfold splice
  rw [← VL_length hc]
  exact VL_append (VL_take o hl) (VL_append hc (VL_drop _ hl))

theorem D.set_cells {X : Nat → Prop} {k : IntKind} {xs : List Int} {cs : List Value} {i : Nat} {z : Int} (h : (D.ints k xs).cellsAre X w cs) (hi : i < xs.length) :
    (D.ints k (xs.set i z)).cellsAre X w (cs.take i ++ ([Value.int k z] ++ cs.drop (i + 1))) := by
  simp only [D.cellsAre] at *
  subst h
  rw [List.set_eq_take_append_cons_drop, if_pos hi]
  simp

theorem setRec_cells {X : Nat → Prop} {es m : Nat} {f : Nat → Nat → D} {cs us : List Value} {i o : Nat} {ds : List D} (h : (D.recs es m f).cellsAre X w cs) (hi : i < m) (ho : o + ds.length ≤ es)
    (hd : DL.holds X w ds us) : (D.recs es m (setRec f i o ds)).cellsAre X w (cs.take (i * es + o) ++ (us ++ cs.drop (i * es + o + us.length))) := by
  obtain ⟨h1, h2⟩ := h
  have hl := DL.length hd
  have hle : i * es + o + us.length ≤ cs.length := by
    rw [h1, ← hl]
    have : (i + 1) * es ≤ m * es := Nat.mul_le_mul_right _ hi
    rw [Nat.add_mul] at this; omega
  refine ⟨by simp; omega, fun i' hi' j' hj' => ?_⟩
  obtain ⟨c, h3, h4⟩ := h2 i' hi' j' hj'
  have hlt := (List.getElem?_eq_some_iff.1 h3).1
  have htk : (cs.take (i * es + o)).length = i * es + o := by simp; omega
  by_cases hin : i' = i ∧ o ≤ j' ∧ j' < o + ds.length
  · obtain ⟨rfl, a1, a2⟩ := hin
    have e1 : setRec f i' o ds i' j' = ds.getD (j' - o) (f i' j') := by
      have b1 : Nat.ble o j' = true := Nat.ble_eq ▸ a1
      have b2 : Nat.blt j' (o + ds.length) = true := Nat.ble_eq ▸ a2
      simp [setRec, b1, b2]
    have hlt2 : j' - o < us.length := by omega
    have get : ∀ {l : List D} {vs : List Value} (p : Nat), DL.holds X w l vs → (hp : p < l.length) → ∃ c, vs[p]? = some c ∧ l[p].holds X w c := by
      intro l
      induction l with
      | nil => intro vs p _ hp; simp at hp
      | cons d l ih =>
        intro vs p hh hp
        cases vs with
        | nil => exact hh.elim
        | cons v vs =>
          cases p with
          | zero => exact ⟨v, rfl, hh.1⟩
          | succ p => simpa using ih p hh.2 (by simpa using hp)
    obtain ⟨c', g1, g2⟩ := get (j' - o) hd (by omega)
    refine ⟨c', ?_, ?_⟩
    · rw [List.getElem?_append_right (by omega), htk, show i' * es + j' - (i' * es + o) = j' - o by omega, List.getElem?_append_left (by omega)]
      exact g1
    · rw [e1, List.getD, List.getElem?_eq_getElem (by omega)]
      exact g2
  · have e1 : setRec f i o ds i' j' = f i' j' := by
      unfold setRec
      have : (Nat.beq i' i && Nat.ble o j' && Nat.blt j' (o + ds.length)) = false := by
        cases hb : (Nat.beq i' i && Nat.ble o j' && Nat.blt j' (o + ds.length)) with
        | false => rfl
        | true =>
          simp only [Bool.and_eq_true] at hb
          exact absurd ⟨nbeq hb.1.1, nble hb.1.2, nblt hb.2⟩ hin
      rw [this]; rfl
    rw [e1]
    refine ⟨c, ?_, h4⟩
    by_cases hlow : i' * es + j' < i * es + o
    · rw [List.getElem?_append_left (by omega), List.getElem?_take, if_pos hlow]; exact h3
    · have hhigh : i * es + o + us.length ≤ i' * es + j' := by
        rcases Nat.lt_trichotomy i' i with hc | hc | hc
        · exfalso
          have : (i' + 1) * es ≤ i * es := Nat.mul_le_mul_right _ hc
          rw [Nat.add_mul] at this; omega
        · subst hc; omega
        · have : (i + 1) * es ≤ i' * es := Nat.mul_le_mul_right _ hc
          rw [Nat.add_mul] at this; omega
      rw [List.getElem?_append_right (by omega), htk, List.getElem?_append_right (by omega), List.getElem?_drop]
      rw [show i * es + o + us.length + (i' * es + j' - (i * es + o) - us.length) = i' * es + j' by omega]
      exact h3

/-- A stretch of an owned array written anew. -/
theorem turn_own (hs : SatH K θ h nx w) {n T : Nat} {d d' : D} {L : Loc} {cs vs : List Value} {p : Nat} {cur : Array Value} (hn : hfind h n = some (.own T d)) (hL : θ n = some L)
    (hcap : L.cap ≠ 0) (hlen : d'.len = d.len) (hes : d'.es = d.es) (hcs : cs.length = d.len * d.es) (hload : ∀ j v, cs[j]? = some v → w.cell? ⟨L.b, L.o + j, none⟩ = some v) (hb : w.heap[L.b]? = some (.cells cur T (0, 0)))
    (hp : p + vs.length ≤ cs.length) (hcur : L.o + L.cap * d.es ≤ cur.size)
    (hd' : ∀ X' : Nat → Prop, (∀ b, b < w.heap.size → Free K θ h b → X' b) → ∀ w' : World, (∀ b, b < w.heap.size → Free K θ h b → w'.heap[b]? = w.heap[b]?) → d'.cellsAre X' w' (cs.take p ++ (vs ++ cs.drop (p + vs.length)))) :
    SatH K θ ((n, .own T d') :: h) nx (w.setRow L.b (cur.toList.take (L.o + p) ++ vs ++ cur.toList.drop (L.o + p + vs.length)).toArray) := by
  obtain ⟨L', hL', hat, hw, hown⟩ := hs.res n _ hn
  obtain rfl := Option.some.inj (hL.symm.trans hL')
  obtain ⟨len1, len2⟩ := D.at_len hat
  have hme : OwnsAt θ h n L.b := ⟨_, L, hn, hL, hcap, rfl⟩
  have hcss : cs.length ≤ L.cap * d.es := by rw [hcs]; exact Nat.mul_le_mul_right _ (by omega)
  refine hs.turn hn hL hcap rfl rfl rfl (by simp) (fun b hne => setRow_other w L.b b _ hne) hcap (fun X' hX' => ⟨?_, hw, fun _ => ⟨_, setRow_heap w L.b cur _ T _ hb, ?_⟩⟩)
  · refine D.at_of_cells (by omega) len2 (fun j v hv => ?_) (hd' X' hX' _ (fun b hb' hf => setRow_other w L.b b _ (fun e => hf.1 n (e ▸ hme))))
    rw [cell_setRow_same w L.b _ cur _ T _ hb]
    have hj := (List.getElem?_eq_some_iff.1 hv).1
    simp only [List.length_append, List.length_take, List.length_drop] at hj
    have t1 : (cs.take p).length = p := by simp; omega
    have t2 : (cur.toList.take (L.o + p)).length = L.o + p := by simp; omega
    have hold : ∀ q u, cs[q]? = some u → cur.toList[L.o + q]? = some u := fun q u hq => by
      have := hload q u hq
      simpa [World.cell?, hb] using this
    simp only [List.getElem?_toArray]
    by_cases c1 : j < p
    · rw [List.getElem?_append_left (by omega), List.getElem?_take, if_pos c1] at hv
      rw [List.append_assoc, List.getElem?_append_left (by omega), List.getElem?_take, if_pos (by omega)]
      exact hold j v hv
    · rw [List.getElem?_append_right (by omega), t1] at hv
      rw [List.append_assoc, List.getElem?_append_right (by omega), t2, show L.o + j - (L.o + p) = j - p by omega]
      by_cases c2 : j - p < vs.length
      · rw [List.getElem?_append_left c2] at hv ⊢; exact hv
      · rw [List.getElem?_append_right (by omega), List.getElem?_drop] at hv ⊢
        rw [show L.o + p + vs.length + (j - p - vs.length) = L.o + (p + vs.length + (j - p - vs.length)) by omega]
        exact hold _ _ hv
  · simp only [List.size_toArray, List.length_append, List.length_take, List.length_drop, Array.length_toList]
    rw [hes]
    omega

theorem freezeL_ro : ∀ {l : List SV} {h : List (Nat × R)} {n T : Nat} {d d' : D}, hfind h n = some (.ro d') → hfind (freezeL h l) n ≠ some (.own T d)
  | [], h, n, T, d, d', h2 => by
    simp only [freezeL, h2]
    intro e; cases e
  | s :: l, h, n, T, d, d', h2 => by
    cases s <;> simp only [freezeL] <;> first
      | exact freezeL_ro h2
      | skip
    rename_i m
    have : ∃ d'', hfind (freezeH h m) n = some (.ro d'') := by
      unfold freezeH
      split
      · rename_i T2 d2 hf
        rw [hfind_cons]
        by_cases e : m = n
        · exact ⟨_, if_pos e⟩
        · rw [if_neg e]; exact ⟨_, h2⟩
      · exact ⟨_, h2⟩
    obtain ⟨d'', h3⟩ := this
    exact freezeL_ro h3

theorem freezeL_own : ∀ {l : List SV} {h : List (Nat × R)} {n T T' : Nat} {d d' : D}, hfind (freezeL h l) n = some (.own T d) → hfind h n = some (.own T' d') → d = d'
  | [], h, n, T, T', d, d', h1, h2 => by
    simp only [freezeL] at h1
    rw [h1] at h2; cases h2; rfl
  | s :: l, h, n, T, T', d, d', h1, h2 => by
    cases s <;> simp only [freezeL] at h1 <;> first
      | exact freezeL_own h1 h2
      | skip
    rename_i m
    by_cases e : n = m
    · subst e
      have : hfind (freezeH h n) n = some (.ro d') := by
        simp only [freezeH, h2, hfind_cons, if_pos]
      exact absurd h1 (freezeL_ro this)
    · refine freezeL_own h1 (T' := T') (d' := d') ?_
      unfold freezeH
      split
      · rw [hfind_cons, if_neg (Ne.symm e)]; exact h2
      · exact h2

theorem storeL_sound (hs : SatH K θ h nx w) {T : Nat} {t s : SV} {u v : Value} (hu : V θ t u) (hv : V θ s v) {k : List (Nat × R) → Nat → Prop} (hq : storeL P T t s h nx k) :
    ∃ h' w', k h' nx ∧ SatH K θ h' nx w' ∧ (Instr.storeAt T u v).run P w = .ok () w' := by
  unfold storeL at hq
  split at hq
  · rename_i n o
    split at hq <;> try exact hq.elim
    rename_i T' l g sz cs hf hk hcs
    obtain ⟨hc, hk1⟩ := cond_false hq
    simp only [Bool.and_eq_true] at hc
    obtain ⟨⟨c1, c2⟩, c3⟩ := hc
    have c1 := nbeq c1
    have c2 := nble c2
    obtain ⟨L, hL, us, e1, e2, e3⟩ := hs.res n _ hf
    simp only [V] at hu
    obtain ⟨L', hL', rfl⟩ := hu
    obtain rfl := Option.some.inj (hL.symm.trans hL')
    have ho : L.o = 0 := by unfold Loc.o; rw [e1]
    have hvl := V_cellsS hcs hv
    have l1 := VL_length hvl
    have l2 := VL_length e3
    have hsz : v.cells.size = sz := by have : v.cells.toList.length = v.cells.size := by simp
                                       omega
    have hrun := run_storeVar (P := P) (w := w) hk (b := L.b) (o := o) (cur := us.toArray) (v := v) e2 hsz (by simp; omega) (cellsS_one hcs hv c3)
    refine ⟨_, _, hk1, ?_, by rw [ho, Nat.zero_add]; exact hrun⟩
    refine hs.turn hf hL trivial rfl rfl rfl (by simp) (fun b hne => setRow_other w L.b b _ hne) trivial (fun X' _ => ⟨us.take o ++ (v.cells.toList ++ us.drop (o + v.cells.toList.length)), e1, ?_, VL_splice o e3 hvl⟩)
    rw [setRow_heap w L.b us.toArray _ T' _ e2]
    simp [hsz]
  · rename_i n es i o
    split at hq
    · rename_i T' kk xs g sz hf hk
      split at hq <;> try exact hq.elim
      rename_i c hcs
      split at hq <;> try exact hq.elim
      rename_i k' z hz
      obtain ⟨hc, hk1⟩ := cond_false hq
      obtain ⟨rfl, hk2⟩ := hk1
      simp only [Bool.and_eq_true] at hc
      obtain ⟨⟨c1, c2⟩, c3⟩ := hc
      obtain rfl := nbeq c1
      obtain rfl := nbeq c2
      obtain rfl := nbeq c3
      simp only [V] at hu
      obtain ⟨L, hL, hi, rfl⟩ := hu
      obtain ⟨L', hL', hat, hw, hown⟩ := hs.res n _ hf
      obtain rfl := Option.some.inj (hL.symm.trans hL')
      obtain ⟨len1, len2⟩ := D.at_len hat
      have hcap : L.cap ≠ 0 := by omega
      obtain ⟨cur, hb, hcur⟩ := hown hcap
      obtain ⟨cs, a1, a2, a3⟩ := D.at_cells hat
      have hcv : v.cells.toList = [.int kk z] := by
        have hvl := V_cellsS hcs hv
        unfold intOf1 at hz
        split at hz <;> cases hz
        obtain ⟨y, ys, e1, e2, e3⟩ := VL_cons_left hvl
        have := VL_nil_left e3
        subst this
        rw [e1]
        simp only [V] at e2
        rw [e2]
      have hlen : xs.length = L.len := by have := len1; simp [D.len] at this; omega
      have hes : (D.ints kk xs).es = 1 := rfl
      have hsz : v.cells.size = 1 := by rw [← Array.length_toList, hcv]; rfl
      have hrun := run_storeVar (P := P) (w := w) hk (b := L.b) (o := L.o + i) (cur := cur) (v := v) hb hsz (by rw [hes] at hcur; omega) (by intro u hu; rw [hcv] at hu; simp at hu; subst hu; rfl)
      refine ⟨_, _, hk2, turn_own (d' := .ints kk (xs.set i z)) (p := i) (vs := [.int kk z]) hs hf hL hcap (by simp [D.len]) rfl a1 a2 hb (by simp [a1, D.len, D.es]; omega) hcur ?_, ?_⟩
      · intro X' hX' w' hw'
        exact D.set_cells (D.cellsAre_mono (fun b hb' hfb => ⟨hX' b hb' hfb, hw' b hb' hfb⟩) a3) (by omega)
      · rw [show L.o + (i * 1 + 0) = L.o + i by omega, hrun, hcv]
        rfl
    · rename_i T' es' m f g sz hf hk
      split at hq <;> try exact hq.elim
      rename_i cs hcs
      split at hq <;> try exact hq.elim
      rename_i ds hds
      obtain ⟨hc, hk1⟩ := cond_false hq
      simp only [Bool.and_eq_true] at hc
      obtain ⟨⟨⟨c1, c2⟩, c3⟩, c4⟩ := hc
      have c1 := nbeq c1
      obtain rfl := nbeq c2
      have c3 := nble c3
      simp only [V] at hu
      obtain ⟨L, hL, hi, rfl⟩ := hu
      -- what is stored is read only from now on
      have hs1 : SatH K θ (freezeL h cs) nx w := freezeL_sound hs
      have hf1 : hfind (freezeL h cs) n = some (.own T' (.recs es m f)) := by
        unfold storeL.nodead at c4
        split at c4
        · rename_i T2 d2 hf2
          obtain rfl := nbeq c4
          rw [freezeL_own hf2 hf] at hf2
          exact hf2
        · cases c4
      obtain ⟨L', hL', hat, hw, hown⟩ := hs1.res n _ hf1
      obtain rfl := Option.some.inj (hL.symm.trans hL')
      obtain ⟨len1, len2⟩ := D.at_len hat
      have hcap : L.cap ≠ 0 := by omega
      obtain ⟨cur, hb, hcur⟩ := hown hcap
      obtain ⟨vs, a1, a2, a3⟩ := D.at_cells hat
      have hvl := V_cellsS hcs hv
      have hdl : DL.holds (Free K θ (freezeL h cs)) w ds v.cells.toList := dsOf_sound hs1 (fun b hb => hb) (fun e => by cases e) hvl hds
      have l0 := VL_length hvl
      have l1 := DL.length hdl
      have hsz : v.cells.size = sz := by have : v.cells.toList.length = v.cells.size := by simp
                                         omega
      have hes : (D.recs es m f).es = es := rfl
      have hlen : m = L.len := by have := len1; simp [D.len] at this; omega
      have hfit : i * es + o + v.cells.toList.length ≤ vs.length := by
        rw [a1, hes]
        have : (i + 1) * es ≤ (D.recs es m f).len * es := Nat.mul_le_mul_right _ (by simp [D.len]; omega)
        rw [Nat.add_mul] at this; omega
      have hvs : vs.length ≤ L.cap * es := by rw [a1, hes]; exact Nat.mul_le_mul_right _ (by omega)
      have hrun := run_storeVar (P := P) (w := w) hk (b := L.b) (o := L.o + (i * es + o)) (cur := cur) (v := v) hb hsz (by rw [hes] at hcur; omega) (fun u hu => by
        obtain ⟨p, hp, hpu⟩ := List.getElem_of_mem hu
        have get : ∀ {l : List D} {vs : List Value} (p : Nat) (hp : p < vs.length), DL.holds (Free K θ (freezeL h cs)) w l vs → vs[p].oneCell' = true := by
          intro l
          induction l with
          | nil => intro vs p hp hh; cases vs with
            | nil => simp at hp
            | cons _ _ => exact hh.elim
          | cons d l ih =>
            intro vs p hp hh
            cases vs with
            | nil => simp at hp
            | cons v vs =>
              cases p with
              | zero => exact D.holds_one hh.1
              | succ p => simpa using ih p (by simpa using hp) hh.2
        rw [← hpu]; exact get p hp hdl)
      refine ⟨_, _, hk1, turn_own (d' := .recs es m (setRec f i o ds)) (p := i * es + o) (vs := v.cells.toList) hs1 hf1 hL hcap rfl rfl a1 a2 hb hfit hcur ?_, ?_⟩
      · intro X' hX' w' hw'
        have hkp : Keeps (Free K θ (freezeL h cs)) X' w w' := fun b hb' hfb => ⟨hX' b hb' hfb, hw' b hb' hfb⟩
        exact setRec_cells (D.cellsAre_mono hkp a3) (by omega) (by omega) (DL.holds_mono hkp hdl)
      · rw [hrun]
        simp [hsz]
    · exact hq.elim
  · exact hq.elim
end
end Go.X
