/- Part 10 of what the closing text rests on. -/
import Derived.Test.YtdamnoleoakehaaGreatDoorH9
namespace Go.Z
open Go.RowKit

section
variable {P : Program} {K : Ctx} {θ : Th} {h : List (Nat × R)} {nx : Nat} {w : World}

def LOK (K : Ctx) (θ : Th) (nx : Nat) (k : HK) (res : Result Value) : Prop :=
  ∃ r h' nx' θ' v' w', k r h' nx' ∧ SatH K θ' h' nx' w' ∧ θ.ext θ' ∧ V θ' r v' ∧ res = .ok v' w' ∧ nx ≤ nx'

theorem below_alloc (w : World) (o : Obj) : Below w.heap.size w (w.alloc o) := (Below.refl _ _).alloc (Nat.le_refl _) o

def newLoc (w : World) : Loc := { a := some ⟨w.heap.size, 0, none⟩, len := 0, cap := 0 }

theorem add_blk (hs : SatH K θ h nx w) {T : Nat} {l : List SV} {cs : List Value} (hl : VL θ l cs) :
    SatH K (θ.add nx (newLoc w)) ((nx, .blk T l) :: h) (nx + 1) (w.alloc (.cells cs.toArray T)) := by
  refine hs.add_new (below_alloc _ _) (fun _ hb => Nat.le_of_eq hb) (fun θ' X' hθ _ _ => ?_)
  refine ⟨cs, rfl, ?_, VL_mono hθ _ _ hl⟩
  show (w.heap.push _)[w.heap.size]? = _
  simp

theorem add_rblk (hs : SatH K θ h nx w) {T : Nat} {l : List SV} {cs : List Value} (hl : VL θ l cs) :
    SatH K (θ.add nx (newLoc w)) ((nx, .rblk T l) :: h) (nx + 1) (w.alloc (.cells cs.toArray T)) := by
  refine hs.add_new (below_alloc _ _) (fun _ hb => hb.elim) (fun θ' X' hθ _ hX => ?_)
  refine ⟨cs, rfl, hX _ (Nat.le_refl _) (fun h => h.elim), ?_, VL_mono hθ _ _ hl⟩
  show (w.heap.push _)[w.heap.size]? = _
  simp

theorem V_new (θ : Th) (nx : Nat) (w : World) : V (θ.add nx (newLoc w)) (.p nx 0) (.pointer (some ⟨w.heap.size, 0, none⟩)) := by
  simp only [V]
  exact ⟨_, Th.add_self _ _ _, rfl⟩

theorem add_arr (hs : SatH K θ h nx w) {T : Nat} {kk : IntKind} {xs : List Int} :
    SatH K (θ.add nx (arrLoc w.heap.size xs.length)) ((nx, .own T (.ints kk xs)) :: h) (nx + 1) (w.alloc (.cells (xs.map (Value.int kk)).toArray T)) ∧
    V (θ.add nx (arrLoc w.heap.size xs.length)) (.q nx) (.pointer (some ⟨w.heap.size, 0, none⟩)) := by
  refine ⟨hs.add_new (below_alloc _ _) (fun _ hb => Nat.le_of_eq hb.2) (fun θ' X' hθ _ _ => arr_own ?_), ?_⟩
  · show (w.heap.push _)[w.heap.size]? = _
    simp
  · simp only [V]
    exact ⟨_, Th.add_self _ _ _, rfl, rfl⟩

theorem zeroInts_sound {T n : Nat} {kk : IntKind} (hz : zeroInts P T = some (kk, n)) : ∃ i z, P.info? T = some i ∧ i.zero = some z ∧ z.cells = ((List.replicate n 0).map (Value.int kk)).toArray := by
  unfold zeroInts at hz
  split at hz <;> try (cases hz; done)
  rename_i m e hT
  split at hz <;> try (cases hz; done)
  rename_i k' l hke hzl
  cases hc : (Nat.beq l.length m && l.all (zeroInts.isZ k')) with
  | false => rw [hc] at hz; cases hz
  | true =>
    rw [hc] at hz; cases hz
    simp only [Bool.and_eq_true] at hc
    have hlen := nbeq hc.1
    unfold zeroS at hzl
    split at hzl <;> try (cases hzl; done)
    rename_i i hi
    split at hzl <;> cases hzl
    rename_i z hzv
    refine ⟨i, z, hi, hzv, ?_⟩
    apply Array.ext'
    have h2 := hc.2
    have key : ∀ cs : List Value, (cs.map liftK1).all (zeroInts.isZ kk) = true → cs = (List.replicate cs.length 0).map (Value.int kk) := by
      intro cs
      induction cs with
      | nil => intro _; rfl
      | cons c cs ih =>
        intro ha
        simp only [List.map_cons, List.all_cons, Bool.and_eq_true] at ha
        have h1 : c = .int kk 0 := by
          have h3 := ha.1
          unfold zeroInts.isZ at h3
          split at h3 <;> try (cases h3; done)
          rename_i k2 heq
          have hk := of_decide_eq_true h3
          subst hk
          unfold liftK1 at heq
          split at heq <;> simp at heq
          exact heq
        rw [h1, List.length_cons, List.replicate_succ, List.map_cons, ← ih ha.2]
    have := key z.cells.toList h2
    rw [List.length_map] at hlen
    rw [hlen] at this
    exact this

theorem allocL_sound (hs : SatH K θ h nx w) {T : Nat} {k : HK} (hq : allocL P T h nx k) : LOK K θ nx k ((Instr.alloc T true (.tuple #[])).run P w) := by
  unfold allocL at hq
  split at hq
  · rename_i kk n hzi
    obtain ⟨i, z, hi, hzv, hcs⟩ := zeroInts_sound hzi
    obtain ⟨a1, a2⟩ := add_arr (T := T) (kk := kk) (xs := List.replicate n 0) hs
    refine ⟨_, _, _, _, _, _, hq, a1, Th.add_ext (hs.fresh nx (Nat.le_refl _)) _, a2, ?_, by omega⟩
    simp [Instr.alloc, run_zero hi hzv, newVar, newRow, hcs]
  split at hq <;> try exact hq.elim
  rename_i l hz
  unfold zeroS at hz
  split at hz <;> try (cases hz; done)
  rename_i i hi
  split at hz <;> cases hz
  rename_i z hzv
  refine ⟨_, _, _, _, _, _, hq, add_blk (T := T) hs (VL_liftK1 θ z.cells.toList), Th.add_ext (hs.fresh nx (Nat.le_refl _)) _, V_new θ nx w, ?_, by omega⟩
  simp [Instr.alloc, run_zero hi hzv, newVar, newRow]

theorem boxL_sound (hs : SatH K θ h nx w) {T : Nat} {s : SV} {v : Value} (hv : V θ s v) {k : HK} (hq : boxL T s h nx k) : LOK K θ nx k ((Instr.box T v).run P w) := by
  unfold boxL at hq
  split at hq
  · rename_i kk xs
    simp only [V] at hv; subst hv
    obtain ⟨a1, a2⟩ := add_arr (T := T) (kk := kk) (xs := xs) hs
    refine ⟨_, _, _, _, _, _, hq, a1, Th.add_ext (hs.fresh nx (Nat.le_refl _)) _, a2, ?_, by omega⟩
    simp [Instr.box, newVar, newRow, Value.cells]
  split at hq <;> try exact hq.elim
  rename_i l hl
  refine ⟨_, _, _, _, _, _, hq, add_blk (T := T) hs (V_cellsS hl hv), Th.add_ext (hs.fresh nx (Nat.le_refl _)) _, V_new θ nx w, ?_, by omega⟩
  simp [Instr.box, newVar, newRow]

theorem cellsS_one {s : SV} {l : List SV} {v : Value} (h : cellsS s = some l) (hv : V θ s v) (hall : l.all oneS = true) : ∀ u ∈ v.cells.toList, u.oneCell' = true := by
  have hvl := V_cellsS h hv
  intro u hu
  obtain ⟨p, hp, hpu⟩ := List.getElem_of_mem hu
  have hlen := VL_length hvl
  have hp' : p < l.length := by omega
  obtain ⟨v', h1, h2⟩ := VL_get hvl (List.getElem?_eq_getElem hp')
  rw [List.getElem?_eq_getElem hp] at h1
  cases h1
  rw [hpu] at h2
  exact oneCell_of (List.all_eq_true.1 hall _ (List.getElem_mem hp')) h2

theorem run_storeVar {T sz : Nat} {g : Bool} (hk : kindT P T = some (g, sz)) {b o T' : Nat} {cur : Array Value} {v : Value} (hb : w.heap[b]? = some (.cells cur T' (0, 0)))
    (hsz : v.cells.size = sz) (hfit : o + sz ≤ cur.size) (h1 : ∀ u ∈ v.cells.toList, u.oneCell' = true) :
    (Instr.storeAt T (.pointer (some ⟨b, o, none⟩)) v).run P w = .ok () (w.setRow b (cur.toList.take o ++ v.cells.toList ++ cur.toList.drop (o + sz)).toArray) := by
  have := run_storeCells_at P b o T' v.cells.toList 0 cur w hb (by simp; omega) h1
  simp only [Nat.add_zero, Array.length_toList, hsz] at this
  simp [Instr.storeAt, Instr.sureAddr, storeVar, (run_kind hk w).2, hsz, this]

theorem VL_splice {l cs : List SV} {us vs : List Value} (o : Nat) (hl : VL θ l us) (hc : VL θ cs vs) : VL θ (splice l o cs) (us.take o ++ (vs ++ us.drop (o + vs.length))) := by
  unfold splice
  rw [← VL_length hc]
  exact VL_append (VL_take o hl) (VL_append hc (VL_drop _ hl))

theorem D.set_cells {X : Nat → Prop} {k : IntKind} {xs : List Int} {cs : List Value} {i : Nat} {z : Int} (h : (D.ints k xs).cellsAre X w cs) (hi : i < xs.length) :
    (D.ints k (xs.set i z)).cellsAre X w (cs.take i ++ ([Value.int k z] ++ cs.drop (i + 1))) := by
  simp only [D.cellsAre] at *
  subst h
  rw [List.set_eq_take_append_cons_drop, if_pos hi]
  simp

theorem setRec_cells {X : Nat → Prop} {es m : Nat} {f : Nat → Nat → D} {cs us : List Value} {i o : Nat} {ds : List D} (h : (D.recs es m f).cellsAre X w cs) (hi : i < m) (ho : o + ds.length ≤ es)
    (hd : DL.holds X w ds us) : (D.recs es m (setRec f i o ds)).cellsAre X w (cs.take (i * es + o) ++ (us ++ cs.drop (i * es + o + us.length))) := by
  obtain ⟨h1, h2⟩ := h
  have hl := DL.length hd
  have hle : i * es + o + us.length ≤ cs.length := by
    rw [h1, ← hl]
    have : (i + 1) * es ≤ m * es := Nat.mul_le_mul_right _ hi
    rw [Nat.add_mul] at this; omega
  refine ⟨by simp; omega, fun i' hi' j' hj' => ?_⟩
  obtain ⟨c, h3, h4⟩ := h2 i' hi' j' hj'
  have hlt := (List.getElem?_eq_some_iff.1 h3).1
  have htk : (cs.take (i * es + o)).length = i * es + o := by simp; omega
  by_cases hin : i' = i ∧ o ≤ j' ∧ j' < o + ds.length
  · obtain ⟨rfl, a1, a2⟩ := hin
    have e1 : setRec f i' o ds i' j' = ds.getD (j' - o) (f i' j') := by
      have b1 : Nat.ble o j' = true := Nat.ble_eq ▸ a1
      have b2 : Nat.blt j' (o + ds.length) = true := Nat.ble_eq ▸ a2
      simp [setRec, b1, b2]
    have hlt2 : j' - o < us.length := by omega
    have get : ∀ {l : List D} {vs : List Value} (p : Nat), DL.holds X w l vs → (hp : p < l.length) → ∃ c, vs[p]? = some c ∧ l[p].holds X w c := by
      intro l
      induction l with
      | nil => intro vs p _ hp; simp at hp
      | cons d l ih =>
        intro vs p hh hp
        cases vs with
        | nil => exact hh.elim
        | cons v vs =>
          cases p with
          | zero => exact ⟨v, rfl, hh.1⟩
          | succ p => simpa using ih p hh.2 (by simpa using hp)
    obtain ⟨c', g1, g2⟩ := get (j' - o) hd (by omega)
    refine ⟨c', ?_, ?_⟩
    · rw [List.getElem?_append_right (by omega), htk, show i' * es + j' - (i' * es + o) = j' - o by omega, List.getElem?_append_left (by omega)]
      exact g1
    · rw [e1, List.getD, List.getElem?_eq_getElem (by omega)]
      exact g2
  · have e1 : setRec f i o ds i' j' = f i' j' := by
      unfold setRec
      have : (Nat.beq i' i && Nat.ble o j' && Nat.blt j' (o + ds.length)) = false := by
        cases hb : (Nat.beq i' i && Nat.ble o j' && Nat.blt j' (o + ds.length)) with
        | false => rfl
        | true =>
          simp only [Bool.and_eq_true] at hb
          exact absurd ⟨nbeq hb.1.1, nble hb.1.2, nblt hb.2⟩ hin
      rw [this]; rfl
    rw [e1]
    refine ⟨c, ?_, h4⟩
    by_cases hlow : i' * es + j' < i * es + o
    · rw [List.getElem?_append_left (by omega), List.getElem?_take, if_pos hlow]; exact h3
    · have hhigh : i * es + o + us.length ≤ i' * es + j' := by
        rcases Nat.lt_trichotomy i' i with hc | hc | hc
        · exfalso
          have : (i' + 1) * es ≤ i * es := Nat.mul_le_mul_right _ hc
          rw [Nat.add_mul] at this; omega
        · subst hc; omega
        · have : (i + 1) * es ≤ i' * es := Nat.mul_le_mul_right _ hc
          rw [Nat.add_mul] at this; omega
      rw [List.getElem?_append_right (by omega), htk, List.getElem?_append_right (by omega), List.getElem?_drop]
      rw [show i * es + o + us.length + (i' * es + j' - (i * es + o) - us.length) = i' * es + j' by omega]
      exact h3

theorem turn_own (hs : SatH K θ h nx w) {n T : Nat} {d d' : D} {L : Loc} {cs vs : List Value} {p : Nat} {cur : Array Value} (hn : hfind h n = some (.own T d)) (hL : θ n = some L)
    (hcap : L.cap ≠ 0) (hlen : d'.len = d.len) (hes : d'.es = d.es) (hcs : cs.length = d.len * d.es) (hload : ∀ j v, cs[j]? = some v → w.cell? ⟨L.b, L.o + j, none⟩ = some v) (hb : w.heap[L.b]? = some (.cells cur T (0, 0)))
    (hp : p + vs.length ≤ cs.length) (hcur : L.o + L.cap * d.es ≤ cur.size)
    (hd' : ∀ X' : Nat → Prop, (∀ b, b < w.heap.size → Free K θ h b → X' b) → ∀ w' : World, (∀ b, b < w.heap.size → Free K θ h b → w'.heap[b]? = w.heap[b]?) → d'.cellsAre X' w' (cs.take p ++ (vs ++ cs.drop (p + vs.length)))) :
    SatH K θ ((n, .own T d') :: h) nx (w.setRow L.b (cur.toList.take (L.o + p) ++ vs ++ cur.toList.drop (L.o + p + vs.length)).toArray) := by
  obtain ⟨L', hL', hat, hw, hown⟩ := hs.res n _ hn
  obtain rfl := Option.some.inj (hL.symm.trans hL')
  obtain ⟨len1, len2⟩ := D.at_len hat
  have hme : OwnsAt θ h n L.b := ⟨_, L, hn, hL, hcap, rfl⟩
  have hcss : cs.length ≤ L.cap * d.es := by rw [hcs]; exact Nat.mul_le_mul_right _ (by omega)
  refine hs.turn hn hL (b0 := L.b) ⟨hcap, rfl⟩ rfl rfl rfl (by simp) (fun b hne => setRow_other w L.b b _ hne) (fun _ => Iff.rfl) (fun X' hX' => ⟨?_, hw, fun _ => ⟨_, setRow_heap w L.b cur _ T _ hb, ?_⟩⟩)
  · refine D.at_of_cells (by omega) len2 (fun j v hv => ?_) (hd' X' hX' _ (fun b hb' hf => setRow_other w L.b b _ (fun e => hf.1 n (e ▸ hme))))
    rw [cell_setRow_same w L.b _ cur _ T _ hb]
    have hj := (List.getElem?_eq_some_iff.1 hv).1
    simp only [List.length_append, List.length_take, List.length_drop] at hj
    have t1 : (cs.take p).length = p := by simp; omega
    have t2 : (cur.toList.take (L.o + p)).length = L.o + p := by simp; omega
    have hold : ∀ q u, cs[q]? = some u → cur.toList[L.o + q]? = some u := fun q u hq => by
      have := hload q u hq
      simpa [World.cell?, hb] using this
    simp only [List.getElem?_toArray]
    by_cases c1 : j < p
    · rw [List.getElem?_append_left (by omega), List.getElem?_take, if_pos c1] at hv
      rw [List.append_assoc, List.getElem?_append_left (by omega), List.getElem?_take, if_pos (by omega)]
      exact hold j v hv
    · rw [List.getElem?_append_right (by omega), t1] at hv
      rw [List.append_assoc, List.getElem?_append_right (by omega), t2, show L.o + j - (L.o + p) = j - p by omega]
      by_cases c2 : j - p < vs.length
      · rw [List.getElem?_append_left c2] at hv ⊢; exact hv
      · rw [List.getElem?_append_right (by omega), List.getElem?_drop] at hv ⊢
        rw [show L.o + p + vs.length + (j - p - vs.length) = L.o + (p + vs.length + (j - p - vs.length)) by omega]
        exact hold _ _ hv
  · simp only [List.size_toArray, List.length_append, List.length_take, List.length_drop, Array.length_toList]
    rw [hes]
    omega

theorem freezeL_ro : ∀ {l : List SV} {h : List (Nat × R)} {n T : Nat} {d d' : D}, hfind h n = some (.ro d') → hfind (freezeL h l) n ≠ some (.own T d)
  | [], h, n, T, d, d', h2 => by
    simp only [freezeL, h2]
    intro e; cases e
  | s :: l, h, n, T, d, d', h2 => by
    cases s <;> simp only [freezeL] <;> first
      | exact freezeL_ro h2
      | skip
    rename_i m
    have : ∃ d'', hfind (freezeH h m) n = some (.ro d'') := by
      unfold freezeH
      split
      · rename_i T2 d2 hf
        rw [hfind_cons]
        by_cases e : m = n
        · exact ⟨_, if_pos e⟩
        · rw [if_neg e]; exact ⟨_, h2⟩
      · exact ⟨_, h2⟩
    obtain ⟨d'', h3⟩ := this
    exact freezeL_ro h3

theorem freezeL_own : ∀ {l : List SV} {h : List (Nat × R)} {n T T' : Nat} {d d' : D}, hfind (freezeL h l) n = some (.own T d) → hfind h n = some (.own T' d') → d = d'
  | [], h, n, T, T', d, d', h1, h2 => by
    simp only [freezeL] at h1
    rw [h1] at h2; cases h2; rfl
  | s :: l, h, n, T, T', d, d', h1, h2 => by
    cases s <;> simp only [freezeL] at h1 <;> first
      | exact freezeL_own h1 h2
      | skip
    rename_i m
    by_cases e : n = m
    · subst e
      have : hfind (freezeH h n) n = some (.ro d') := by
        simp only [freezeH, h2, hfind_cons, if_pos]
      exact absurd h1 (freezeL_ro this)
    · refine freezeL_own h1 (T' := T') (d' := d') ?_
      unfold freezeH
      split
      · rw [hfind_cons, if_neg (Ne.symm e)]; exact h2
      · exact h2

theorem turn_elem (hs : SatH K θ h nx w) {q T S m len : Nat} {bs : List Nat} {f : Nat → Nat → D} (hf : hfind h q = some (.pown T S m bs len f)) {L : Loc} (hL : θ q = some L) (hp : POwn (Free K θ h) w L T S m bs len f)
    {i b o : Nat} (hb : bs[i]? = some b) {ds : List D} {vs us : List Value} (hd : DL.holds (Free K θ h) w ds vs) (ho : o + ds.length ≤ m) (hus : w.heap[b]? = some (.cells us.toArray S (0, 0))) (hum : us.length = m) :
    SatH K θ ((q, .pown T S m bs len (setRec f i o ds)) :: h) nx (w.setRow b (us.take o ++ vs ++ us.drop (o + vs.length)).toArray) := by
  obtain ⟨p1, p2, p3, p4, p5, p6, p7⟩ := hp
  have hme : OwnsAt θ h q b := ⟨_, L, hf, hL, .inr (List.mem_of_getElem? hb)⟩
  have hl := DL.length hd
  have hlt := (List.getElem?_eq_some_iff.1 hb).1
  refine hs.turn hf hL (b0 := b) (.inr (List.mem_of_getElem? hb)) rfl rfl rfl (by simp) (fun c hne => setRow_other w b c _ hne) (fun _ => Iff.rfl) (fun X' hX' => ?_)
  have hk : Keeps (Free K θ h) X' w (w.setRow b (us.take o ++ vs ++ us.drop (o + vs.length)).toArray) := fun c hc hfr => ⟨hX' c hc hfr, setRow_other w b c _ (fun e => hfr.1 q (e ▸ hme))⟩
  refine ⟨p1, p2, p3, p4, p5, fun hc => ?_, fun i' b' hi' => ?_⟩
  · obtain ⟨g1, cs, g2, g3⟩ := p6 hc
    exact ⟨g1, cs, by rw [setRow_other w b L.b _ (fun e => g1 (e ▸ List.mem_of_getElem? hb))]; exact g2, g3⟩
  · obtain ⟨g1, g2⟩ := p7 i' b' hi'
    have hlt' := (List.getElem?_eq_some_iff.1 hi').1
    have hcap : L.cap ≠ 0 := by omega
    have hne : L.b ≠ b := fun e => (p6 hcap).1 (e ▸ List.mem_of_getElem? hb)
    refine ⟨by rw [cell_eq (setRow_other w b L.b _ hne)]; exact g1, ?_⟩
    by_cases e : i' = i
    · subst e
      obtain rfl := Option.some.inj (hi'.symm.trans hb)
      obtain ⟨us', u1, u2, u3⟩ := g2
      have : us' = us := by
        rw [hus] at u1
        simpa using u1.symm
      subst this
      refine ⟨us'.take o ++ vs ++ us'.drop (o + vs.length), by rw [setRow_heap w b' us'.toArray _ S _ hus], by simp; omega, fun j hj => ?_⟩
      unfold setRec
      rw [show Nat.beq i' i' = true from Nat.beq_refl i', Bool.true_and]
      have t1 : (us'.take o).length = o := by simp; omega
      by_cases c1 : o ≤ j ∧ j < o + ds.length
      · rw [Nat.ble_eq_true_of_le c1.1, show Nat.blt j (o + ds.length) = true from Nat.ble_eq_true_of_le c1.2]
        simp only [Bool.and_self, _root_.cond_true]
        obtain ⟨c, e1, e2⟩ := DL.getD hd (j - o) (by omega)
        refine ⟨c, ?_, ?_⟩
        · rw [List.append_assoc, List.getElem?_append_right (by omega), t1, List.getElem?_append_left (by omega)]; exact e1
        · have : ds.getD (j - o) (f i' j) = ds.getD (j - o) (.v undef) := by
            simp [List.getD, List.getElem?_eq_getElem (show j - o < ds.length by omega)]
          rw [this]
          exact D.holds_mono hk _ _ e2
      · have : (Nat.ble o j && Nat.blt j (o + ds.length)) = false := by
          cases h1 : Nat.ble o j with
          | false => rfl
          | true =>
            cases h2 : Nat.blt j (o + ds.length) with
            | false => rfl
            | true => exact absurd ⟨nble h1, nblt h2⟩ c1
        rw [this]
        simp only [_root_.cond_false]
        obtain ⟨c, e1, e2⟩ := u3 j hj
        refine ⟨c, ?_, D.holds_mono hk _ _ e2⟩
        by_cases c2 : j < o
        · rw [List.append_assoc, List.getElem?_append_left (by omega), List.getElem?_take, if_pos c2]; exact e1
        · rw [List.append_assoc, List.getElem?_append_right (by omega), t1, List.getElem?_append_right (by omega), List.getElem?_drop, show o + vs.length + (j - o - vs.length) = j by omega]; exact e1
    · have hb' : b' ≠ b := fun e2 => e ((List.getElem_inj p5).1 (by
        have a1 := (List.getElem?_eq_some_iff.1 hi').2
        have a2 := (List.getElem?_eq_some_iff.1 hb).2
        rw [a1, a2, e2]))
      have : setRec f i o ds i' = f i' := by
        funext j
        unfold setRec
        have : Nat.beq i' i = false := by
          cases h1 : Nat.beq i' i with
          | false => rfl
          | true => exact absurd (Nat.eq_of_beq_eq_true h1) e
        rw [this]
        rfl
      rw [this]
      exact g2.mono hk (setRow_other w b b' _ hb')

theorem storeL_sound (hs : SatH K θ h nx w) {T : Nat} {t s : SV} {u v : Value} (hu : V θ t u) (hv : V θ s v) {k : List (Nat × R) → Nat → Prop} (hq : storeL P T t s h nx k) :
    ∃ h' w', k h' nx ∧ SatH K θ h' nx w' ∧ (Instr.storeAt T u v).run P w = .ok () w' := by
  unfold storeL at hq
  split at hq
  · rename_i n o
    split at hq <;> try exact hq.elim
    rename_i T' l g sz cs hf hk hcs
    obtain ⟨hc, hk1⟩ := cond_false hq
    simp only [Bool.and_eq_true] at hc
    obtain ⟨⟨c1, c2⟩, c3⟩ := hc
    have c1 := nbeq c1
    have c2 := nble c2
    obtain ⟨L, hL, us, e1, e2, e3⟩ := hs.res n _ hf
    simp only [V] at hu
    obtain ⟨L', hL', rfl⟩ := hu
    obtain rfl := Option.some.inj (hL.symm.trans hL')
    have ho : L.o = 0 := by unfold Loc.o; rw [e1]
    have hvl := V_cellsS hcs hv
    have l1 := VL_length hvl
    have l2 := VL_length e3
    have hsz : v.cells.size = sz := by have : v.cells.toList.length = v.cells.size := by simp
                                       omega
    have hrun := run_storeVar (P := P) (w := w) hk (b := L.b) (o := o) (cur := us.toArray) (v := v) e2 hsz (by simp; omega) (cellsS_one hcs hv c3)
    refine ⟨_, _, hk1, ?_, by rw [ho, Nat.zero_add]; exact hrun⟩
    refine hs.turn hf hL (b0 := L.b) rfl rfl rfl rfl (by simp) (fun b hne => setRow_other w L.b b _ hne) (fun _ => Iff.rfl) (fun X' _ => ⟨us.take o ++ (v.cells.toList ++ us.drop (o + v.cells.toList.length)), e1, ?_, VL_splice o e3 hvl⟩)
    rw [setRow_heap w L.b us.toArray _ T' _ e2]
    simp [hsz]
  · rename_i n es i o
    split at hq
    · rename_i T' kk xs g sz hf hk
      split at hq <;> try exact hq.elim
      rename_i c hcs
      split at hq <;> try exact hq.elim
      rename_i k' z hz
      obtain ⟨hc, hk1⟩ := cond_false hq
      obtain ⟨rfl, hk2⟩ := hk1
      simp only [Bool.and_eq_true] at hc
      obtain ⟨⟨c1, c2⟩, c3⟩ := hc
      obtain rfl := nbeq c1
      obtain rfl := nbeq c2
      obtain rfl := nbeq c3
      simp only [V] at hu
      obtain ⟨L, hL, hi, rfl⟩ := hu
      obtain ⟨L', hL', hat, hw, hown⟩ := hs.res n _ hf
      obtain rfl := Option.some.inj (hL.symm.trans hL')
      obtain ⟨len1, len2⟩ := D.at_len hat
      have hcap : L.cap ≠ 0 := by omega
      obtain ⟨cur, hb, hcur⟩ := hown hcap
      obtain ⟨cs, a1, a2, a3⟩ := D.at_cells hat
      have hcv : v.cells.toList = [.int kk z] := by
        have hvl := V_cellsS hcs hv
        unfold intOf1 at hz
        split at hz <;> cases hz
        obtain ⟨y, ys, e1, e2, e3⟩ := VL_cons_left hvl
        have := VL_nil_left e3
        subst this
        rw [e1]
        simp only [V] at e2
        rw [e2]
      have hlen : xs.length = L.len := by have := len1; simp [D.len] at this; omega
      have hes : (D.ints kk xs).es = 1 := rfl
      have hsz : v.cells.size = 1 := by rw [← Array.length_toList, hcv]; rfl
      have hrun := run_storeVar (P := P) (w := w) hk (b := L.b) (o := L.o + i) (cur := cur) (v := v) hb hsz (by rw [hes] at hcur; omega) (by intro u hu; rw [hcv] at hu; simp at hu; subst hu; rfl)
      refine ⟨_, _, hk2, turn_own (d' := .ints kk (xs.set i z)) (p := i) (vs := [.int kk z]) hs hf hL hcap (by simp [D.len]) rfl a1 a2 hb (by simp [a1, D.len, D.es]; omega) hcur ?_, ?_⟩
      · intro X' hX' w' hw'
        exact D.set_cells (D.cellsAre_mono (fun b hb' hfb => ⟨hX' b hb' hfb, hw' b hb' hfb⟩) a3) (by omega)
      · rw [show L.o + (i * 1 + 0) = L.o + i by omega, hrun, hcv]
        rfl
    · rename_i T' es' m f g sz hf hk
      split at hq <;> try exact hq.elim
      rename_i cs hcs
      split at hq <;> try exact hq.elim
      rename_i ds hds
      obtain ⟨hc, hk1⟩ := cond_false hq
      simp only [Bool.and_eq_true] at hc
      obtain ⟨⟨⟨c1, c2⟩, c3⟩, c4⟩ := hc
      have c1 := nbeq c1
      obtain rfl := nbeq c2
      have c3 := nble c3
      simp only [V] at hu
      obtain ⟨L, hL, hi, rfl⟩ := hu
      -- what is stored is read only from now on
      have hs1 : SatH K θ (freezeL h cs) nx w := freezeL_sound hs
      have hf1 : hfind (freezeL h cs) n = some (.own T' (.recs es m f)) := by
        unfold storeL.nodead at c4
        split at c4
        · rename_i T2 d2 hf2
          obtain rfl := nbeq c4
          rw [freezeL_own hf2 hf] at hf2
          exact hf2
        · cases c4
      obtain ⟨L', hL', hat, hw, hown⟩ := hs1.res n _ hf1
      obtain rfl := Option.some.inj (hL.symm.trans hL')
      obtain ⟨len1, len2⟩ := D.at_len hat
      have hcap : L.cap ≠ 0 := by omega
      obtain ⟨cur, hb, hcur⟩ := hown hcap
      obtain ⟨vs, a1, a2, a3⟩ := D.at_cells hat
      have hvl := V_cellsS hcs hv
      have hdl : DL.holds (Free K θ (freezeL h cs)) w ds v.cells.toList := dsOf_sound hs1 hvl hds
      have l0 := VL_length hvl
      have l1 := DL.length hdl
      have hsz : v.cells.size = sz := by have : v.cells.toList.length = v.cells.size := by simp
                                         omega
      have hes : (D.recs es m f).es = es := rfl
      have hlen : m = L.len := by have := len1; simp [D.len] at this; omega
      have hfit : i * es + o + v.cells.toList.length ≤ vs.length := by
        rw [a1, hes]
        have : (i + 1) * es ≤ (D.recs es m f).len * es := Nat.mul_le_mul_right _ (by simp [D.len]; omega)
        rw [Nat.add_mul] at this; omega
      have hvs : vs.length ≤ L.cap * es := by rw [a1, hes]; exact Nat.mul_le_mul_right _ (by omega)
      have hrun := run_storeVar (P := P) (w := w) hk (b := L.b) (o := L.o + (i * es + o)) (cur := cur) (v := v) hb hsz (by rw [hes] at hcur; omega) (fun u hu => by
        obtain ⟨p, hp, hpu⟩ := List.getElem_of_mem hu
        have get : ∀ {l : List D} {vs : List Value} (p : Nat) (hp : p < vs.length), DL.holds (Free K θ (freezeL h cs)) w l vs → vs[p].oneCell' = true := by
          intro l
          induction l with
          | nil => intro vs p hp hh; cases vs with
            | nil => simp at hp
            | cons _ _ => exact hh.elim
          | cons d l ih =>
            intro vs p hp hh
            cases vs with
            | nil => simp at hp
            | cons v vs =>
              cases p with
              | zero => exact D.holds_one hh.1
              | succ p => simpa using ih p (by simpa using hp) hh.2
        rw [← hpu]; exact get p hp hdl)
      rw [setRecM_eq] at hk1
      refine ⟨_, _, hk1, turn_own (d' := .recs es m (setRec f i o ds)) (p := i * es + o) (vs := v.cells.toList) hs1 hf1 hL hcap rfl rfl a1 a2 hb hfit hcur ?_, ?_⟩
      · intro X' hX' w' hw'
        have hkp : Keeps (Free K θ (freezeL h cs)) X' w w' := fun b hb' hfb => ⟨hX' b hb' hfb, hw' b hb' hfb⟩
        exact setRec_cells (D.cellsAre_mono hkp a3) (by omega) (by omega) (DL.holds_mono hkp hdl)
      · rw [hrun]
        simp [hsz]
    · exact hq.elim
  · rename_i S i b o
    split at hq <;> try exact hq.elim
    rename_i g sz cs hk hcs
    split at hq <;> try exact hq.elim
    rename_i ds q T' m bs len f hds hp
    obtain ⟨hc, hb, hk1⟩ := cond_false hq
    simp only [Bool.and_eq_true] at hc
    have c1 := nbeq hc.1
    have c2 := nble hc.2
    have hs1 : SatH K θ (freezeL h cs) nx w := freezeL_sound hs
    obtain ⟨hf, L, hL, hpo⟩ := pfind_sound hs1 hp
    obtain ⟨_, us, u1, u2, u3⟩ := hpo.2.2.2.2.2.2 i b hb
    simp only [V] at hu
    subst hu
    have hvl := V_cellsS hcs hv
    have hdl : DL.holds (Free K θ (freezeL h cs)) w ds v.cells.toList := dsOf_sound hs1 hvl hds
    have l0 := VL_length hvl
    have l1 := DL.length hdl
    have hsz : v.cells.size = sz := by have : v.cells.toList.length = v.cells.size := by simp
                                       omega
    have hrun := run_storeVar (P := P) (w := w) hk (b := b) (o := o) (cur := us.toArray) (v := v) u1 hsz (by simp; omega) (fun u hu => by
      obtain ⟨p, hp, hpu⟩ := List.getElem_of_mem hu
      obtain ⟨c, e1, e2⟩ := DL.getD hdl p (by omega)
      rw [List.getElem?_eq_getElem hp, hpu] at e1
      cases e1
      exact D.holds_one e2)
    rw [setRecM_eq] at hk1
    refine ⟨_, _, hk1, turn_elem hs1 hf hL hpo hb hdl (by omega) u1 u2, ?_⟩
    rw [hrun]
    simp [hsz]
  · rename_i n
    split at hq <;> try exact hq.elim
    rename_i T' kk xs g sz kk' ys hf hk
    obtain ⟨⟨rfl, hsz, hlen⟩, hk1⟩ := hq
    simp only [V] at hu hv
    obtain ⟨L, hL, hLL, rfl⟩ := hu
    subst hv
    have ho : L.o = 0 := by rw [hLL]; rfl
    obtain ⟨L', hL', hat, hw, hown⟩ := hs.res n _ hf
    obtain rfl := Option.some.inj (hL.symm.trans hL')
    obtain ⟨len1, len2⟩ := D.at_len hat
    simp only [D.len] at len1
    by_cases hcap : L.cap = 0
    · have hy : ys = [] := List.eq_nil_of_length_eq_zero (by omega)
      have hx : xs = [] := List.eq_nil_of_length_eq_zero (by omega)
      subst hy hx
      refine ⟨_, w, hk1, ?_, ?_⟩
      · refine hs.gen (Th.ext_refl _) hs.fresh (fun b _ hf' => ⟨⟨fun m hm => ?_, hf'.2⟩, rfl⟩) (fun m r hr => ?_) (fun a b c h1 h2 => ?_) (fun a b h1 => ?_) hs.frame
        all_goals
          have own : ∀ m b, OwnsAt θ ((n, .own T' (.ints kk [])) :: h) m b → OwnsAt θ h m b := by
            rintro m b ⟨r1, L1, q1, q2, q3⟩
            rw [hfind_cons] at q1
            split at q1
            · rename_i e; subst e; cases q1; exact ⟨_, L1, hf, q2, q3⟩
            · exact ⟨r1, L1, q1, q2, q3⟩
        · exact hf'.1 m (own m b hm)
        · rw [hfind_cons] at hr
          split at hr
          · rename_i e; subst e; cases hr; exact .inl ⟨hf, fun _ _ _ _ => rfl⟩
          · exact .inl ⟨hr, fun _ _ _ _ => rfl⟩
        · exact hs.dis a b c (own _ _ h1) (own _ _ h2)
        · exact hs.new a b (own _ _ h1)
      · have h0 : sz = 0 := hsz
        subst h0
        simp [Instr.storeAt, Instr.sureAddr, storeVar, (run_kind hk w).2, Value.cells, storeCells]
    · obtain ⟨cur, hb, hcur⟩ := hown hcap
      obtain ⟨cs, a1, a2, a3⟩ := D.at_cells hat
      have hcv : (Value.agg (ys.map (Value.int kk)).toArray).cells.toList = ys.map (Value.int kk) := rfl
      have hrun := run_storeVar (P := P) (w := w) hk (b := L.b) (o := 0) (cur := cur) (v := .agg (ys.map (Value.int kk)).toArray) hb (by simp [Value.cells, hsz]) (by rw [ho] at hcur; simp only [D.es] at hcur; omega)
        (by intro u hu; rw [hcv] at hu; obtain ⟨z, _, rfl⟩ := List.mem_map.1 hu; rfl)
      have hcl : cs.length = ys.length := by rw [a1]; simp [D.len, D.es, hlen]
      have := turn_own (d' := .ints kk ys) (p := 0) (vs := ys.map (Value.int kk)) hs hf hL hcap (by simp [D.len, hlen]) rfl a1 a2 hb (by simp [hcl]) hcur (fun X' _ w' _ => by
        simp only [D.cellsAre, List.take_zero, List.nil_append, Nat.zero_add, List.length_map]
        rw [← hcl, List.drop_length, List.append_nil])
      refine ⟨_, _, hk1, this, ?_⟩
      rw [hrun, hcv, ho]
      simp [hsz]
  · exact hq.elim

theorem bytesL_sound (hs : SatH K θ h nx w) {src dst : Nat} {s : SV} {u : Value} {k : HK} (hu : V θ s u) (hq : bytesL P src dst s h nx k) : LOK K θ nx k ((convert src dst u).run P w) := by
  unfold bytesL at hq
  split at hq <;> try exact hq.elim
  rename_i e str h1 h2
  split at hq <;> try exact hq.elim
  rename_i h3
  simp only [V] at hu; subst hu
  have hge := grownCap_ge w str.size 0 e
  have hsz : str.data.size = str.size := rfl
  generalize hcap : grownCap w str.size 0 e = cap at hge
  let arr : Array Value := (str.data.map fun b => Value.int .u8 (b.toNat : Int)) ++ Array.replicate (cap - str.size) (.int .u8 0)
  let w1 : World := { w.drew with heap := w.heap.push (.cells arr e (arr.size, arr.size + 1)) }
  have hheap : w1.heap[w.heap.size]? = some (.cells arr e (arr.size, arr.size + 1)) := by
    show (w.heap.push _)[w.heap.size]? = _
    simp
  have hb : Below w.heap.size w w1 := ⟨rfl, rfl, rfl, by show _ ≤ (w.heap.push _).size; simp, fun b hb => by
    show (w.heap.push _)[b]? = _
    rw [Array.getElem?_push, if_neg (by omega)]⟩
  refine ⟨_, _, _, θ.add nx { a := some ⟨w.heap.size, 0, none⟩, len := str.size, cap := cap }, .slice (some ⟨w.heap.size, 0, none⟩) str.size cap, w1, hq, hs.add_new hb (fun _ ho => ho.elim) (fun θ' X' hθ hX1 hX2 => ?_),
    Th.add_ext (hs.fresh nx (Nat.le_refl _)) _, by simp only [V]; exact ⟨_, Th.add_self _ _ _, rfl⟩, ?_, by omega⟩
  · refine ⟨⟨by simp [hsz], hge, fun i z hz => ?_⟩, .inr rfl, fun _ => ⟨hX2 _ (Nat.le_refl _) (fun h => h), by show _ < (w.heap.push _).size; simp [Loc.b]⟩⟩
    show World.cell? _ ⟨w.heap.size, 0 + i, none⟩ = _
    simp only [World.cell?, hheap, Nat.zero_add]
    simp only [Option.isSome_none, Bool.false_eq_true, if_false]
    rw [List.getElem?_map] at hz
    have hi : i < str.data.size := by
      have := (List.getElem?_eq_some_iff.1 (by rw [List.getElem?_map]; exact hz : (str.data.toList.map fun b => (b.toNat : Int))[i]? = some z)).1
      simpa using this
    rw [Array.getElem?_append_left (by simpa using hi)]
    simp only [Array.getElem?_map, Array.getElem?_toList] at hz ⊢
    simp at hz ⊢
    obtain ⟨a, ha, rfl⟩ := hz
    exact ⟨a, ha, rfl⟩
  · have e1 : w.heap.push (.cells arr e (0, 0)) = w.heap.push (.cells arr e) := rfl
    have hfz : (w.drew.alloc (.cells arr e)).freeze ⟨w.heap.size, arr.size, none⟩ 1 = w1 := by
      refine Eq.trans (b := ({ w.drew with heap := (w.heap.push (.cells arr e)).modify w.heap.size _ } : World)) rfl (congrArg (fun hp => ({ w.drew with heap := hp } : World)) ?_)
      apply Array.ext
      · simp
      · intro i h1 h2
        rw [Array.getElem_modify]
        simp only [Array.getElem_push]
        by_cases hi : i < w.heap.size
        · simp [hi, Nat.ne_of_gt hi]
        · have : i = w.heap.size := by simp at h2; omega
          subst this
          simp
    have hsh : (w.drew.alloc (.cells arr e)).shape? w.heap.size = some (e, arr.size) := by
      simp only [World.shape?]
      show (match (w.heap.push (.cells arr e))[w.heap.size]? with | some (.cells c elem _) => some (elem, c.size) | _ => none) = _
      simp
    have hcap' : (Question.appendCap str.size 0 e).cut (w.tape w.drawn (Question.appendCap str.size 0 e)) = cap := hcap
    simp [convert, run_underlying h1, run_underlying h2, run_underlying h3, Conv.stringToBytes, newRow, Question.forced, markStringish, hcap']
    show ((Sem.run P (match (w.drew.alloc (.cells arr e)).shape? w.heap.size with | some (_, n) => freeze ⟨w.heap.size, n, none⟩ 1 | x => pure ()) (w.drew.alloc (.cells arr e))).andThen fun _ w' => Result.ok (Value.slice (some ⟨w.heap.size, 0, none⟩) str.size cap) w') = _
    rw [hsh]
    simp only [freeze, Sem.run, Result.andThen, hfz]

theorem makeMapL_sound (hs : SatH K θ h nx w) {T : Nat} {r : Option Value} {rs : List SV} {k : HK} (hr : VL θ rs r.toList) (hq : makeMapL P T rs h nx k) : LOK K θ nx k ((Instr.makeMap T r).run P w) := by
  unfold makeMapL at hq
  split at hq <;> try exact hq.elim
  rename_i kt vt hT
  have hr' : r = none := by
    cases r with
    | none => rfl
    | some v => simp [VL] at hr
  subst hr'
  have e0 : ∀ {t : Nat} {c : Col}, emptyCol P t = some c → c.len = 0 := fun h => by
    unfold emptyCol at h
    split at h <;> cases h <;> rfl
  split at hq <;> try exact hq.elim
  · rename_i ks vs hks hvs
    have e1 := e0 hks
    have e2 := e0 hvs
    refine ⟨_, _, _, θ.add nx (ptrLoc w.heap.size), .map (some w.heap.size), w.alloc (.map #[] 0), hq, hs.add_new (below_alloc _ _) (fun _ hb => Nat.le_of_eq hb) (fun θ' X' _ _ _ => ⟨rfl, #[], 0, ?_, ?_⟩), Th.add_ext (hs.fresh nx (Nat.le_refl _)) _, ?_, ?_, by omega⟩
    · show (w.heap.push _)[w.heap.size]? = _
      simp
    · exact ⟨by simp [e1], by rw [e1, e2], fun i e he => by simp at he, fun i e he => by simp at he, fun i j e e' _ he => by simp at he⟩
    · simp only [V]; exact ⟨_, Th.add_self _ _ _, rfl⟩
    · rfl
  · rename_i ks hks hvs
    have e1 := e0 hks
    split at hq <;> try exact hq.elim
    · refine ⟨_, _, _, θ.add nx (ptrLoc w.heap.size), .map (some w.heap.size), w.alloc (.map #[] 0), hq, hs.add_new (below_alloc _ _) (fun _ hb => Nat.le_of_eq hb) (fun θ' X' _ _ _ => ⟨rfl, #[], ?_, ?_, by simp only [List.map_nil, VL], rfl⟩), Th.add_ext (hs.fresh nx (Nat.le_refl _)) _, ?_, ?_, by omega⟩
      · show (w.heap.push _)[w.heap.size]? = _
        simp
      · exact ⟨by simp [e1], fun i e he => by simp at he, fun i e he => by simp at he, fun i j e e' _ he => by simp at he⟩
      · simp only [V]; exact ⟨_, Th.add_self _ _ _, rfl⟩
      · rfl
    · refine ⟨_, _, _, θ.add nx (ptrLoc w.heap.size), .map (some w.heap.size), w.alloc (.map #[] 0), hq, hs.add_new (below_alloc _ _) (fun _ hb => Nat.le_of_eq hb) (fun θ' X' _ _ _ => ⟨rfl, #[], 0, ?_, ?_, fun i e he => by simp at he⟩), Th.add_ext (hs.fresh nx (Nat.le_refl _)) _, ?_, ?_, by omega⟩
      · show (w.heap.push _)[w.heap.size]? = _
        simp
      · exact ⟨by simp [e1], fun i e he => by simp at he, fun i e he => by simp at he, fun i j e e' _ he => by simp at he⟩
      · simp only [V]; exact ⟨_, Th.add_self _ _ _, rfl⟩
      · rfl
theorem rangeL_sound (hs : SatH K θ h nx w) {T : Nat} {x : SV} {u : Value} (hu : V θ x u) {k : HK} (hq : rangeL P T x h nx k) : LOK K θ nx k ((Instr.range T u).run P w) := by
  unfold rangeL at hq
  split at hq <;> try exact hq.elim
  rename_i kt vt n ks l bn c hT hmo
  obtain ⟨b, es, rfl, _, hb, hm, _, _, rfl, L, hL, rfl⟩ := mapSOf_sound hs hmo hu
  refine ⟨_, _, _, _, .pointer (some ⟨w.heap.size, 0, none⟩), w.alloc (.mapIter (some L.b) c #[] c), hq, hs.add_new (L := newLoc w) (below_alloc _ _) (fun _ hb => Nat.le_of_eq hb) (fun θ' X' hθ _ _ => ⟨rfl, L, hθ _ _ hL, ?_⟩), Th.add_ext (hs.fresh nx (Nat.le_refl _)) _, V_new θ nx w, ?_, by omega⟩
  · show (w.heap.push _)[w.heap.size]? = _
    simp
  · simp only [Instr.range, Sem.run_bind, run_underlying hT, Result.andThen, run_getObj_map hb]
    rfl
theorem run_mark {a : Addr} {cs : Array Value} {T : Nat} (hb : w.heap[a.block]? = some (.cells cs T (0, 0))) :
    (markStringish a).run P w = .ok () { w with heap := w.heap.setIfInBounds a.block (.cells cs T (cs.size, cs.size + 1)) } := by
  have hlt := (Array.getElem?_eq_some_iff.1 hb).1
  have hge := (Array.getElem?_eq_some_iff.1 hb).2
  have hsh : w.shape? a.block = some (T, cs.size) := by simp [World.shape?, hb]
  have e : w.freeze ⟨a.block, cs.size, none⟩ 1 = { w with heap := w.heap.setIfInBounds a.block (.cells cs T (cs.size, cs.size + 1)) } := by
    unfold World.freeze
    rw [if_neg (by decide)]
    congr 1
    apply Array.ext
    · simp
    · intro j h1 h2
      by_cases hj : a.block = j
      · subst hj
        simp [Array.getElem_modify, hge]
      · have e1 : (w.heap.setIfInBounds a.block (.cells cs T (cs.size, cs.size + 1)))[j]? = w.heap[j]? := by simp [hj]
        rw [Array.getElem?_eq_getElem h2, Array.getElem?_eq_getElem (by simpa using h2)] at e1
        rw [Option.some.inj e1]
        simp [Array.getElem_modify, hj]
  show (Sem.run P (Sem.shape a.block Sem.pure >>= fun x => match x with | some (_, n) => freeze { block := a.block, off := n } 1 | _ => pure ()) w) = _
  simp only [Sem.run_bind, Sem.run, hsh, Result.andThen]
  show (Sem.freeze { block := a.block, off := cs.size } 1 (Sem.pure ())).run P w = _
  simp only [Sem.run, e]
theorem convX_sound (hs : SatH K θ h nx w) {src dst : Nat} {s : SV} {u : Value} {k : HK} (hu : V θ s u) (hq : convX P src dst s h nx k) : LOK K θ nx k ((convert src dst u).run P w) := by
  unfold convX at hq
  split at hq
  · rename_i n
    split at hq <;> try exact hq.elim
    rename_i T kk xs e hn hsrc
    split at hq <;> try exact hq.elim
    rename_i he
    obtain ⟨hd, hpos, hk⟩ := cond_false hq
    obtain rfl := nbeq hd
    simp only [V] at hu
    obtain ⟨L, hL, rfl⟩ := hu
    obtain ⟨L', hL', h1, h2, h3⟩ := hs.res n _ hn
    obtain rfl := Option.some.inj (hL.symm.trans hL')
    obtain ⟨hlen, hcl, hcell⟩ := h1
    have hcap : L.cap ≠ 0 := by omega
    obtain ⟨cs, hb, hsz⟩ := h3 hcap
    have ha : L.a = some ⟨L.b, L.o, none⟩ := h2.resolve_left hcap
    have hlt := (Array.getElem?_eq_some_iff.1 hb).1
    have hme : OwnsAt θ h n L.b := ⟨_, L, hn, hL, hcap, rfl⟩
    have ho : ∀ m b, OwnsAt θ ((n, .ro (.ints kk xs)) :: h) m b → OwnsAt θ h m b ∧ m ≠ n := by
      rintro m b ⟨r1, L1, g1, g2, g3⟩
      rw [hfind_cons] at g1
      split at g1
      · cases g1; exact g3.elim
      · rename_i e; exact ⟨⟨r1, L1, g1, g2, g3⟩, Ne.symm e⟩
    have hF : ∀ b, Free K θ h b → Free K θ ((n, .ro (.ints kk xs)) :: h) b := fun b hf => ⟨fun m hm => hf.1 m (ho m b hm).1, hf.2⟩
    have hother : ∀ b, b ≠ L.b → (w.heap.setIfInBounds L.b (.cells cs T (cs.size, cs.size + 1)))[b]? = w.heap[b]? := fun b hne => by simp [Ne.symm hne]
    have hc2 : ∀ i, World.cell? { w with heap := w.heap.setIfInBounds L.b (.cells cs T (cs.size, cs.size + 1)) } ⟨L.b, i, none⟩ = w.cell? ⟨L.b, i, none⟩ := fun i => by
      have e1 : ({ w with heap := w.heap.setIfInBounds L.b (.cells cs T (cs.size, cs.size + 1)) } : World).heap[L.b]? = some (.cells cs T (cs.size, cs.size + 1)) := by simp [hlt]
      simp only [World.cell?, e1, hb]
    refine ⟨_, _, _, θ, L.val, { w with heap := w.heap.setIfInBounds L.b (.cells cs T (cs.size, cs.size + 1)) }, hk, ?_, Th.ext_refl _, by simp only [V]; exact ⟨L, hL, rfl⟩, ?_, Nat.le_refl _⟩
    · refine hs.gen (Th.ext_refl _) hs.fresh (fun b _ hf => ⟨hF b hf, hother b fun e => hf.1 n (e ▸ hme)⟩) ?_ (fun a b c g1 g2 => hs.dis a b c (ho _ _ g1).1 (ho _ _ g2).1) (fun a b g1 => hs.new a b (ho _ _ g1).1) ?_
      · intro m r1 hr
        rw [hfind_cons] at hr
        split at hr
        · rename_i e; subst e; cases hr
          refine .inr ⟨L, hL, ⟨hlen, hcl, fun i z hz => by rw [hc2]; exact hcell i z hz⟩, h2, fun _ => ⟨⟨fun m hm => ?_, ?_⟩, by simpa using hlt⟩⟩
          · obtain ⟨hm1, hm2⟩ := ho m _ hm
            exact hm2 (hs.dis m n L.b hm1 hme)
          · exact (hs.new n L.b hme).imp id (K.ma _)
        · rename_i e
          exact .inl ⟨hr, fun L1 hL1 b hb1 => hother b fun eb => e (hs.dis n m L.b hme ⟨r1, L1, hr, hL1, eb ▸ hb1⟩)⟩
      · refine ⟨hs.frame.os, hs.frame.tape, hs.frame.output, by simpa using hs.frame.size, fun b hb1 hb2 => ?_⟩
        rw [show ({ w with heap := w.heap.setIfInBounds L.b (.cells cs T (cs.size, cs.size + 1)) } : World).heap[b]? = w.heap[b]? from hother b ?_]
        · exact hs.frame.block b hb1 hb2
        · intro e
          subst e
          rcases hs.new n _ hme with g | g
          · omega
          · exact hb2 g
    · unfold Loc.val
      rw [ha]
      simp only [convert, Sem.run_bind, run_underlying hsrc, run_underlying he, Result.andThen, beq_self_eq_true, run_mark (a := ⟨L.b, L.o, none⟩) hb]
      rfl
  · exact bytesL_sound hs hu hq
end
end Go.Z
