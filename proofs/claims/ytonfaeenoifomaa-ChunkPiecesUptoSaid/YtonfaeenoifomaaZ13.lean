/- Arrays as rows of cells; append. -/
import Derived.Test.YtonfaeenoifomaaZ12b
namespace Go.Z
open Go.RowKit

/-- A row of cells reads as this data. -/
def D.cellsAre (X : Nat → Prop) (w : World) (cs : List Value) : D → Prop
  | .ints k xs => cs = xs.map (Value.int k)
  | .recs es n f => cs.length = n * es ∧ ∀ i, i < n → ∀ j, j < es → ∃ c, cs[i * es + j]? = some c ∧ (f i j).holds X w c
  | _ => False

theorem D.cellsAre_length {X : Nat → Prop} {w : World} {cs : List Value} {d : D} (h : d.cellsAre X w cs) : cs.length = d.len * d.es := by
  cases d with
  | v x => exact h.elim
  | ptr _ _ _ => exact h.elim
  | fn _ _ _ _ => exact h.elim
  | map _ _ => exact h.elim
  | ints k xs => simp only [D.cellsAre] at h; subst h; simp [D.len, D.es]
  | recs es n f => exact h.1

theorem D.holds_one {X : Nat → Prop} {w : World} {d : D} {c : Value} (h : d.holds X w c) : c.oneCell' = true := by
  cases d with
  | v x => obtain ⟨rfl, h2⟩ := h; exact h2
  | ints k xs => obtain ⟨L, rfl, _⟩ := h; rfl
  | recs es n f => obtain ⟨L, rfl, _⟩ := h; rfl
  | ptr T n f => obtain ⟨b, us, rfl, _⟩ := h; rfl
  | fn g m n f => obtain ⟨us, rfl, _⟩ := h; rfl
  | map ks vs => obtain ⟨b, es, clock, rfl, _⟩ := h; rfl

theorem D.cellsAre_one {X : Nat → Prop} {w : World} {cs : List Value} {d : D} (h : d.cellsAre X w cs) : ∀ u ∈ cs, u.oneCell' = true := by
  intro u hu
  cases d with
  | v x => exact h.elim
  | ptr _ _ _ => exact h.elim
  | fn _ _ _ _ => exact h.elim
  | map _ _ => exact h.elim
  | ints k xs =>
    simp only [D.cellsAre] at h; subst h
    obtain ⟨z, _, rfl⟩ := List.mem_map.1 hu; rfl
  | recs es n f =>
    obtain ⟨h1, h2⟩ := h
    obtain ⟨p, hp, hpu⟩ := List.getElem_of_mem hu
    have hes : 0 < es := by
      rcases Nat.eq_zero_or_pos es with e | e
      · subst e; simp at h1; subst h1; simp at hp
      · exact e
    have hdiv : p / es < n := by rw [Nat.div_lt_iff_lt_mul hes]; omega
    obtain ⟨c, h3, h4⟩ := h2 (p / es) hdiv (p % es) (Nat.mod_lt _ hes)
    rw [Nat.mul_comm, Nat.div_add_mod, List.getElem?_eq_getElem hp, hpu] at h3
    cases h3
    exact D.holds_one h4

theorem D.cellsAre_mono {X X' : Nat → Prop} {w w' : World} (hk : Keeps X X' w w') {cs : List Value} {d : D} (h : d.cellsAre X w cs) : d.cellsAre X' w' cs := by
  cases d with
  | v x => exact h.elim
  | ptr _ _ _ => exact h.elim
  | fn _ _ _ _ => exact h.elim
  | map _ _ => exact h.elim
  | ints k xs => exact h
  | recs es n f => exact ⟨h.1, fun i hi j hj => let ⟨c, h3, h4⟩ := h.2 i hi j hj; ⟨c, h3, D.holds_mono hk _ _ h4⟩⟩

/-- All cells of an array, as a list. -/
theorem list_of_fn (p : Nat → Value → Prop) : ∀ (n : Nat), (∀ i, i < n → ∃ v, p i v) → ∃ l : List Value, l.length = n ∧ ∀ i v, l[i]? = some v → p i v
  | 0, _ => ⟨[], rfl, fun i v h => by simp at h⟩
  | n + 1, h => by
    obtain ⟨l, h1, h2⟩ := list_of_fn p n (fun i hi => h i (by omega))
    obtain ⟨v, hv⟩ := h n (by omega)
    refine ⟨l ++ [v], by simp [h1], fun i u hu => ?_⟩
    rw [List.getElem?_append] at hu
    split at hu
    · exact h2 i u hu
    · rename_i hge
      have : i = n := by
        have := (List.getElem?_eq_some_iff.1 hu).1
        simp at this; omega
      subst this
      rw [h1] at hu
      simp at hu; subst hu; exact hv

theorem D.at_cells {X : Nat → Prop} {w : World} {L : Loc} {d : D} (h : d.at X w L) :
    ∃ cs : List Value, cs.length = d.len * d.es ∧ (∀ j v, cs[j]? = some v → w.cell? ⟨L.b, L.o + j, none⟩ = some v) ∧ d.cellsAre X w cs := by
  cases d with
  | v x => exact h.elim
  | ptr _ _ _ => exact h.elim
  | fn _ _ _ _ => exact h.elim
  | map _ _ => exact h.elim
  | ints k xs =>
    obtain ⟨h1, h2, h3⟩ := h
    refine ⟨xs.map (Value.int k), by simp [D.len, D.es], fun j v hv => ?_, rfl⟩
    rw [List.getElem?_map] at hv
    cases hx : xs[j]? with
    | none => rw [hx] at hv; simp at hv
    | some z => rw [hx] at hv; simp at hv; subst hv; exact h3 j z hx
  | recs es n f =>
    obtain ⟨h1, h2, h3⟩ := h
    by_cases hes : es = 0
    · subst hes
      exact ⟨[], by simp [D.len, D.es], fun j v hv => by simp at hv, by simp, fun i hi j hj => by omega⟩
    · have hpos : 0 < es := by omega
      obtain ⟨l, l1, l2⟩ := list_of_fn (fun p v => w.cell? ⟨L.b, L.o + p, none⟩ = some v) (n * es) (fun p hp => by
        have hdiv : p / es < n := by rw [Nat.div_lt_iff_lt_mul hpos]; omega
        obtain ⟨c, h4, _⟩ := h3 (p / es) hdiv (p % es) (Nat.mod_lt _ hpos)
        refine ⟨c, ?_⟩
        rw [Nat.mul_comm, Nat.div_add_mod] at h4
        exact h4)
      refine ⟨l, l1, l2, l1, fun i hi j hj => ?_⟩
      obtain ⟨c, h4, h5⟩ := h3 i hi j hj
      have hlt : i * es + j < l.length := by
        rw [l1]
        have : (i + 1) * es ≤ n * es := Nat.mul_le_mul_right _ hi
        rw [Nat.add_mul] at this; omega
      have h6 := l2 _ _ (List.getElem?_eq_getElem hlt)
      rw [h4] at h6
      cases h6
      exact ⟨_, List.getElem?_eq_getElem hlt, h5⟩

theorem D.at_of_cells {X : Nat → Prop} {w : World} {L : Loc} {d : D} {cs : List Value} (hlen : L.len = d.len) (hcap : L.len ≤ L.cap)
    (hc : ∀ j v, cs[j]? = some v → w.cell? ⟨L.b, L.o + j, none⟩ = some v) (h : d.cellsAre X w cs) : d.at X w L := by
  cases d with
  | v x => exact h.elim
  | ptr _ _ _ => exact h.elim
  | fn _ _ _ _ => exact h.elim
  | map _ _ => exact h.elim
  | ints k xs =>
    simp only [D.cellsAre] at h; subst h
    exact ⟨hlen, hcap, fun i z hz => hc i _ (by rw [List.getElem?_map, hz]; rfl)⟩
  | recs es n f => exact ⟨hlen, hcap, fun i hi j hj => let ⟨c, h3, h4⟩ := h.2 i hi j hj; ⟨c, hc _ _ h3, h4⟩⟩

/-- One array behind the other. -/
def D.app : D → D → Option D
  | .ints k xs, .ints k' ys => if k = k' then some (.ints k (xs ++ ys)) else none
  | .recs es n f, .recs es' m g => cond (Nat.beq es es') (some (.recs es (n + m) (fun i j => cond (Nat.blt i n) (f i j) (g (i - n) j)))) none
  | _, _ => none

theorem D.app_cells {X : Nat → Prop} {w : World} {d e r : D} {cs ds : List Value} (h : D.app d e = some r) (hd : d.cellsAre X w cs) (he : e.cellsAre X w ds) :
    r.cellsAre X w (cs ++ ds) ∧ r.len = d.len + e.len ∧ r.es = d.es ∧ e.es = d.es := by
  cases d with
  | v x => exact hd.elim
  | ptr _ _ _ => exact hd.elim
  | fn _ _ _ _ => exact hd.elim
  | map _ _ => exact hd.elim
  | ints k xs =>
    cases e with
    | v x => exact he.elim
    | ptr _ _ _ => exact he.elim
    | fn _ _ _ _ => exact he.elim
    | map _ _ => exact he.elim
    | recs es n f => cases h
    | ints k' ys =>
      simp only [D.app] at h
      split at h <;> cases h
      rename_i hk; subst hk
      simp only [D.cellsAre] at hd he
      subst hd he
      exact ⟨by simp [D.cellsAre], by simp [D.len], rfl, rfl⟩
  | recs es n f =>
    cases e with
    | v x => exact he.elim
    | ptr _ _ _ => exact he.elim
    | fn _ _ _ _ => exact he.elim
    | map _ _ => exact he.elim
    | ints k' ys => cases h
    | recs es' m g =>
      simp only [D.app] at h
      cases hb : Nat.beq es es' with
      | false => rw [hb] at h; cases h
      | true =>
        rw [hb] at h; cases h
        have e1 := nbeq hb; subst e1
        obtain ⟨l1, h1⟩ := hd
        obtain ⟨l2, h2⟩ := he
        refine ⟨⟨by simp [l1, l2, Nat.add_mul], fun i hi j hj => ?_⟩, rfl, rfl, rfl⟩
        by_cases hin : i < n
        · obtain ⟨c, h3, h4⟩ := h1 i hin j hj
          refine ⟨c, ?_, ?_⟩
          · rw [List.getElem?_append_left (List.getElem?_eq_some_iff.1 h3).1]; exact h3
          · have : Nat.blt i n = true := Nat.ble_eq ▸ hin
            simp only [this, cond_true]; exact h4
        · obtain ⟨c, h3, h4⟩ := h2 (i - n) (by omega) j hj
          refine ⟨c, ?_, ?_⟩
          · have : (i - n) * es = i * es - n * es := Nat.sub_mul _ _ _
            have hle : n * es ≤ i * es := Nat.mul_le_mul_right _ (by omega)
            rw [List.getElem?_append_right (by omega), l1, show i * es + j - n * es = (i - n) * es + j by omega]
            exact h3
          · have : Nat.blt i n = false := by
              cases hb' : Nat.blt i n with
              | false => rfl
              | true => exact absurd (nblt hb') hin
            simp only [this]; exact h4

/-- What is appended. -/
def SrcOk (P : Program) (i : TypeInfo) (z : Value) (xT : Nat) (x : Value) (m : Nat) (news : List Value) (w : World) : Prop :=
  (∃ dx, P.underlying xT = some dx ∧ (∀ k, dx ≠ .int k) ∧ (∀ w', (Builtin.lenOf x).run P w' = .ok m w') ∧ (Builtin.firstCells i.size m x).run P w = .ok news.toArray w ∧
    (Builtin.firstCells i.size m x).run P w.drew = .ok news.toArray w.drew) ∨
  (∃ k k', P.underlying xT = some (.int k) ∧ x = .int k' m ∧ m ≤ 9223372036854775807 ∧ m * i.bytes ≤ 281474976710656 ∧ news = (Builtin.zeroCells z.cells m).toList)

section
variable {P : Program} {w : World} {sT e xT ty : Nat} {i : TypeInfo} {z : Value} {x : Value} {m : Nat} {news : List Value}

theorem zeroCells_none (zs : Array Value) (n : Nat) (h : n * zs.size = 0) : Builtin.zeroCells zs n = #[] := by
  unfold Builtin.zeroCells; rw [h]; simp

theorem wrap_i64_nat (m : Nat) (h : m ≤ 9223372036854775807) : IntKind.i64.wrap (m : Int) = m := IntWalk.i64_in _ (by omega)

theorem run_app_room (hT : P.underlying sT = some (.slice e)) (hi : P.info? e = some i) (hz : i.zero = some z) (hzs : z.cells.size = i.size) (hsrc : SrcOk P i z xT x m news w)
    (base : Option Addr) (n cap : Nat) (hroom : n + m ≤ cap) (w' : World)
    (hst : ∀ a, base = some a → (storeCells (a.add (n * i.size)) news).run P w = .ok () w') (hno : base = none → w' = w) :
    (Builtin.append_ #[sT, xT] ty #[.slice base n cap, x]).run P w = .ok (.slice base (n + m) cap) w' := by
  rcases hsrc with ⟨dx, h1, h2, h3, h4, _⟩ | ⟨k, k', h1, rfl, h2, h3, rfl⟩
  · cases base with
    | none =>
      have := hno rfl; subst this
      simp [Builtin.append_, run_underlying hT, run_sizeOf hi, run_underlying h1, h3, h4, hroom]
    | some a =>
      have := hst a rfl
      simp [Builtin.append_, run_underlying hT, run_sizeOf hi, run_underlying h1, h3, h4, hroom, this]
  · have hw := wrap_i64_nat m h2
    have e1 : ¬ ((m : Int) < 0) := by omega
    have e2 : ¬ ((281474976710656 : Int) < (m : Int) * (i.bytes : Int)) := by
      have e3 : ((m * i.bytes : Nat) : Int) = (m : Int) * (i.bytes : Int) := Int.natCast_mul _ _
      omega
    cases base with
    | none =>
      have := hno rfl; subst this
      simp [Builtin.append_, run_underlying hT, run_sizeOf hi, run_typeInfo hi, run_underlying h1, hroom, asInt, asIntOf, hw, e1, e2, run_zero hi hz]
    | some a =>
      have := hst a rfl
      simp [Builtin.append_, run_underlying hT, run_sizeOf hi, run_typeInfo hi, run_underlying h1, hroom, asInt, asIntOf, hw, e1, e2, run_zero hi hz]
      split
      · rename_i h0
        rw [zeroCells_none _ _ (by rw [hzs]; exact h0)] at this
        rw [this]; rfl
      · rw [this]; rfl

theorem run_app_grow (hT : P.underlying sT = some (.slice e)) (hi : P.info? e = some i) (hz : i.zero = some z) (hzs : z.cells.size = i.size) (hsrc : SrcOk P i z xT x m news w)
    (base : Option Addr) (n cap : Nat) (olds : List Value) (hgrow : cap < n + m) (hold : (Builtin.firstCells i.size n (.slice base n cap)).run P w.drew = .ok olds.toArray w.drew)
    (h63 : n + m ≤ 9223372036854775807) (hbytes : (n + m) * i.bytes ≤ 140737488355328) :
    (Builtin.append_ #[sT, xT] ty #[.slice base n cap, x]).run P w = .ok (.slice (some ⟨w.heap.size, 0, none⟩) (n + m) (grownCap w (n + m) cap e))
      (w.drew.alloc (.cells (olds.toArray ++ news.toArray ++ Builtin.zeroCells z.cells (grownCap w (n + m) cap e - (n + m))) e)) := by
  have hn : ¬ (n + m ≤ cap) := by omega
  have h48 := growslice_fits (old := cap) hgrow hbytes
  have h48' : ¬ (281474976710656 < Builtin.nextslicecap (n + m) cap * i.bytes) := by omega
  have h63' : ¬ (9223372036854775807 < ((n : Int) + (m : Int))) := by omega
  rcases hsrc with ⟨dx, h1, h2, h3, _, h5⟩ | ⟨k, k', h1, rfl, h2, h3, rfl⟩
  · simp [Builtin.append_, run_underlying hT, run_sizeOf hi, run_typeInfo hi, run_underlying h1, h3, h5, hn, h63', h48', Question.forced, hold, run_zero hi hz, newRow, grownCap]
    congr 2
    apply Array.ext'
    simp
  · have hw := wrap_i64_nat m h2
    have e1 : ¬ ((m : Int) < 0) := by omega
    have e2 : ¬ ((281474976710656 : Int) < (m : Int) * (i.bytes : Int)) := by
      have e3 : ((m * i.bytes : Nat) : Int) = (m : Int) * (i.bytes : Int) := Int.natCast_mul _ _
      omega
    simp [Builtin.append_, run_underlying hT, run_sizeOf hi, run_typeInfo hi, run_underlying h1, hn, h63', h48', Question.forced, hold, run_zero hi hz, newRow, grownCap, asInt, asIntOf, hw, e1, e2]
    intro h0
    rw [zeroCells_none z.cells m (by rw [hzs]; exact h0)]
    simp
end
end Go.Z
