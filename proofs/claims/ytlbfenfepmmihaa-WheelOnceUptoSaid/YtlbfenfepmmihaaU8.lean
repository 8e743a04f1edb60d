/- Part 8 of what the closing text rests on. -/
import Derived.Test.YtlbfenfepmmihaaU7
namespace Go.Z
open Go.RowKit

def D.cellsAre (X : Nat → Prop) (w : World) (cs : List Value) : D → Prop
  | .ints k xs => cs = xs.map (Value.int k)
  | .recs es n f => cs.length = n * es ∧ ∀ i, i < n → ∀ j, j < es → ∃ c, cs[i * es + j]? = some c ∧ (f i j).holds X w c
  | _ => False

theorem D.cellsAre_length {X : Nat → Prop} {w : World} {cs : List Value} {d : D} (h : d.cellsAre X w cs) : cs.length = d.len * d.es := by
  cases d with
  | v x => exact h.elim
  | ptr _ _ _ => exact h.elim
  | fn _ _ _ _ => exact h.elim
  | map _ _ => exact h.elim
  | ints k xs => simp only [D.cellsAre] at h; subst h; simp [D.len, D.es]
  | recs es n f => exact h.1

theorem D.holds_one {X : Nat → Prop} {w : World} {d : D} {c : Value} (h : d.holds X w c) : c.oneCell' = true := by
  cases d with
  | v x => obtain ⟨rfl, h2⟩ := h; exact h2
  | ints k xs => obtain ⟨L, rfl, _⟩ := h; rfl
  | recs es n f => obtain ⟨L, rfl, _⟩ := h; rfl
  | ptr T n f => obtain ⟨b, us, rfl, _⟩ := h; rfl
  | fn g m n f => obtain ⟨us, rfl, _⟩ := h; rfl
  | map ks vs => obtain ⟨b, es, clock, rfl, _⟩ := h; rfl

theorem D.cellsAre_one {X : Nat → Prop} {w : World} {cs : List Value} {d : D} (h : d.cellsAre X w cs) : ∀ u ∈ cs, u.oneCell' = true := by
  intro u hu
  cases d with
  | v x => exact h.elim
  | ptr _ _ _ => exact h.elim
  | fn _ _ _ _ => exact h.elim
  | map _ _ => exact h.elim
  | ints k xs =>
    simp only [D.cellsAre] at h; subst h
    obtain ⟨z, _, rfl⟩ := List.mem_map.1 hu; rfl
  | recs es n f =>
    obtain ⟨h1, h2⟩ := h
    obtain ⟨p, hp, hpu⟩ := List.getElem_of_mem hu
    have hes : 0 < es := by
      rcases Nat.eq_zero_or_pos es with e | e
      · subst e; simp at h1; subst h1; simp at hp
      · exact e
    have hdiv : p / es < n := by rw [Nat.div_lt_iff_lt_mul hes]; omega
    obtain ⟨c, h3, h4⟩ := h2 (p / es) hdiv (p % es) (Nat.mod_lt _ hes)
    rw [Nat.mul_comm, Nat.div_add_mod, List.getElem?_eq_getElem hp, hpu] at h3
    cases h3
    exact D.holds_one h4

theorem D.cellsAre_mono {X X' : Nat → Prop} {w w' : World} (hk : Keeps X X' w w') {cs : List Value} {d : D} (h : d.cellsAre X w cs) : d.cellsAre X' w' cs := by
  cases d with
  | v x => exact h.elim
  | ptr _ _ _ => exact h.elim
  | fn _ _ _ _ => exact h.elim
  | map _ _ => exact h.elim
  | ints k xs => exact h
  | recs es n f => exact ⟨h.1, fun i hi j hj => let ⟨c, h3, h4⟩ := h.2 i hi j hj; ⟨c, h3, D.holds_mono hk _ _ h4⟩⟩

theorem list_of_fn (p : Nat → Value → Prop) : ∀ (n : Nat), (∀ i, i < n → ∃ v, p i v) → ∃ l : List Value, l.length = n ∧ ∀ i v, l[i]? = some v → p i v
  | 0, _ => ⟨[], rfl, fun i v h => by simp at h⟩
  | n + 1, h => by
    obtain ⟨l, h1, h2⟩ := list_of_fn p n (fun i hi => h i (by omega))
    obtain ⟨v, hv⟩ := h n (by omega)
    refine ⟨l ++ [v], by simp [h1], fun i u hu => ?_⟩
    rw [List.getElem?_append] at hu
    split at hu
    · exact h2 i u hu
    · rename_i hge
      have : i = n := by
        have := (List.getElem?_eq_some_iff.1 hu).1
        simp at this; omega
      subst this
      rw [h1] at hu
      simp at hu; subst hu; exact hv

theorem D.at_cells {X : Nat → Prop} {w : World} {L : Loc} {d : D} (h : d.at X w L) :
    ∃ cs : List Value, cs.length = d.len * d.es ∧ (∀ j v, cs[j]? = some v → w.cell? ⟨L.b, L.o + j, none⟩ = some v) ∧ d.cellsAre X w cs := by
  cases d with
  | v x => exact h.elim
  | ptr _ _ _ => exact h.elim
  | fn _ _ _ _ => exact h.elim
  | map _ _ => exact h.elim
  | ints k xs =>
    obtain ⟨h1, h2, h3⟩ := h
    refine ⟨xs.map (Value.int k), by simp [D.len, D.es], fun j v hv => ?_, rfl⟩
    rw [List.getElem?_map] at hv
    cases hx : xs[j]? with
    | none => rw [hx] at hv; simp at hv
    | some z => rw [hx] at hv; simp at hv; subst hv; exact h3 j z hx
  | recs es n f =>
    obtain ⟨h1, h2, h3⟩ := h
    by_cases hes : es = 0
    · subst hes
      exact ⟨[], by simp [D.len, D.es], fun j v hv => by simp at hv, by simp, fun i hi j hj => by omega⟩
    · have hpos : 0 < es := by omega
      obtain ⟨l, l1, l2⟩ := list_of_fn (fun p v => w.cell? ⟨L.b, L.o + p, none⟩ = some v) (n * es) (fun p hp => by
        have hdiv : p / es < n := by rw [Nat.div_lt_iff_lt_mul hpos]; omega
        obtain ⟨c, h4, _⟩ := h3 (p / es) hdiv (p % es) (Nat.mod_lt _ hpos)
        refine ⟨c, ?_⟩
        rw [Nat.mul_comm, Nat.div_add_mod] at h4
        exact h4)
      refine ⟨l, l1, l2, l1, fun i hi j hj => ?_⟩
      obtain ⟨c, h4, h5⟩ := h3 i hi j hj
      have hlt : i * es + j < l.length := by
        rw [l1]
        have : (i + 1) * es ≤ n * es := Nat.mul_le_mul_right _ hi
        rw [Nat.add_mul] at this; omega
      have h6 := l2 _ _ (List.getElem?_eq_getElem hlt)
      rw [h4] at h6
      cases h6
      exact ⟨_, List.getElem?_eq_getElem hlt, h5⟩

theorem D.at_of_cells {X : Nat → Prop} {w : World} {L : Loc} {d : D} {cs : List Value} (hlen : L.len = d.len) (hcap : L.len ≤ L.cap)
    (hc : ∀ j v, cs[j]? = some v → w.cell? ⟨L.b, L.o + j, none⟩ = some v) (h : d.cellsAre X w cs) : d.at X w L := by
  cases d with
  | v x => exact h.elim
  | ptr _ _ _ => exact h.elim
  | fn _ _ _ _ => exact h.elim
  | map _ _ => exact h.elim
  | ints k xs =>
    simp only [D.cellsAre] at h; subst h
    exact ⟨hlen, hcap, fun i z hz => hc i _ (by rw [List.getElem?_map, hz]; rfl)⟩
  | recs es n f => exact ⟨hlen, hcap, fun i hi j hj => let ⟨c, h3, h4⟩ := h.2 i hi j hj; ⟨c, hc _ _ h3, h4⟩⟩

def D.app : D → D → Option D
  | .ints k xs, .ints k' ys => if k = k' then some (.ints k (xs ++ ys)) else none
  | .recs es n f, .recs es' m g => cond (Nat.beq es es') (some (.recs es (n + m) (fun i j => cond (Nat.blt i n) (f i j) (g (i - n) j)))) none
  | _, _ => none

theorem D.app_cells {X : Nat → Prop} {w : World} {d e r : D} {cs ds : List Value} (h : D.app d e = some r) (hd : d.cellsAre X w cs) (he : e.cellsAre X w ds) :
    r.cellsAre X w (cs ++ ds) ∧ r.len = d.len + e.len ∧ r.es = d.es ∧ e.es = d.es := by
  cases d with
  | v x => exact hd.elim
  | ptr _ _ _ => exact hd.elim
  | fn _ _ _ _ => exact hd.elim
  | map _ _ => exact hd.elim
  | ints k xs =>
    cases e with
    | v x => exact he.elim
    | ptr _ _ _ => exact he.elim
    | fn _ _ _ _ => exact he.elim
    | map _ _ => exact he.elim
    | recs es n f => cases h
    | ints k' ys =>
      simp only [D.app] at h
      split at h <;> cases h
      rename_i hk; subst hk
      simp only [D.cellsAre] at hd he
      subst hd he
      exact ⟨by simp [D.cellsAre], by simp [D.len], rfl, rfl⟩
  | recs es n f =>
    cases e with
    | v x => exact he.elim
    | ptr _ _ _ => exact he.elim
    | fn _ _ _ _ => exact he.elim
    | map _ _ => exact he.elim
    | ints k' ys => cases h
    | recs es' m g =>
      simp only [D.app] at h
      cases hb : Nat.beq es es' with
      | false => rw [hb] at h; cases h
      | true =>
        rw [hb] at h; cases h
        have e1 := nbeq hb; subst e1
        obtain ⟨l1, h1⟩ := hd
        obtain ⟨l2, h2⟩ := he
        refine ⟨⟨by simp [l1, l2, Nat.add_mul], fun i hi j hj => ?_⟩, rfl, rfl, rfl⟩
        by_cases hin : i < n
        · obtain ⟨c, h3, h4⟩ := h1 i hin j hj
          refine ⟨c, ?_, ?_⟩
          · rw [List.getElem?_append_left (List.getElem?_eq_some_iff.1 h3).1]; exact h3
          · have : Nat.blt i n = true := Nat.ble_eq ▸ hin
            simp only [this, cond_true]; exact h4
        · obtain ⟨c, h3, h4⟩ := h2 (i - n) (by omega) j hj
          refine ⟨c, ?_, ?_⟩
          · have : (i - n) * es = i * es - n * es := Nat.sub_mul _ _ _
            have hle : n * es ≤ i * es := Nat.mul_le_mul_right _ (by omega)
            rw [List.getElem?_append_right (by omega), l1, show i * es + j - n * es = (i - n) * es + j by omega]
            exact h3
          · have : Nat.blt i n = false := by
              cases hb' : Nat.blt i n with
              | false => rfl
              | true => exact absurd (nblt hb') hin
            simp only [this]; exact h4

def SrcOk (P : Program) (i : TypeInfo) (z : Value) (xT : Nat) (x : Value) (m : Nat) (news : List Value) (w : World) : Prop :=
  (∃ dx, P.underlying xT = some dx ∧ (∀ k, dx ≠ .int k) ∧ (∀ w', (Builtin.lenOf x).run P w' = .ok m w') ∧ (Builtin.firstCells i.size m x).run P w = .ok news.toArray w ∧
    (Builtin.firstCells i.size m x).run P w.drew = .ok news.toArray w.drew) ∨
  (∃ k k', P.underlying xT = some (.int k) ∧ x = .int k' m ∧ m ≤ 9223372036854775807 ∧ m * i.bytes ≤ 281474976710656 ∧ news = (Builtin.zeroCells z.cells m).toList)

section
variable {P : Program} {w : World} {sT e xT ty : Nat} {i : TypeInfo} {z : Value} {x : Value} {m : Nat} {news : List Value}

theorem zeroCells_none (zs : Array Value) (n : Nat) (h : n * zs.size = 0) : Builtin.zeroCells zs n = #[] := by
  unfold Builtin.zeroCells; rw [h]; simp

theorem wrap_i64_nat (m : Nat) (h : m ≤ 9223372036854775807) : IntKind.i64.wrap (m : Int) = m := IntWalk.i64_in _ (by omega)

theorem run_app_room (hT : P.underlying sT = some (.slice e)) (hi : P.info? e = some i) (hz : i.zero = some z) (hzs : z.cells.size = i.size) (hsrc : SrcOk P i z xT x m news w)
    (base : Option Addr) (n cap : Nat) (hroom : n + m ≤ cap) (w' : World)
    (hst : ∀ a, base = some a → (storeCells (a.add (n * i.size)) news).run P w = .ok () w') (hno : base = none → w' = w) :
    (Builtin.append_ #[sT, xT] ty #[.slice base n cap, x]).run P w = .ok (.slice base (n + m) cap) w' := by
  rcases hsrc with ⟨dx, h1, h2, h3, h4, _⟩ | ⟨k, k', h1, rfl, h2, h3, rfl⟩
  · cases base with
    | none =>
      have := hno rfl; subst this
      simp [Builtin.append_, run_underlying hT, run_sizeOf hi, run_underlying h1, h3, h4, hroom]
    | some a =>
      have := hst a rfl
      simp [Builtin.append_, run_underlying hT, run_sizeOf hi, run_underlying h1, h3, h4, hroom, this]
  · have hw := wrap_i64_nat m h2
    have e1 : ¬ ((m : Int) < 0) := by omega
    have e2 : ¬ ((281474976710656 : Int) < (m : Int) * (i.bytes : Int)) := by
      have e3 : ((m * i.bytes : Nat) : Int) = (m : Int) * (i.bytes : Int) := Int.natCast_mul _ _
      omega
    cases base with
    | none =>
      have := hno rfl; subst this
      simp [Builtin.append_, run_underlying hT, run_sizeOf hi, run_typeInfo hi, run_underlying h1, hroom, asInt, asIntOf, hw, e1, e2, run_zero hi hz]
    | some a =>
      have := hst a rfl
      simp [Builtin.append_, run_underlying hT, run_sizeOf hi, run_typeInfo hi, run_underlying h1, hroom, asInt, asIntOf, hw, e1, e2, run_zero hi hz]
      split
      · rename_i h0
        rw [zeroCells_none _ _ (by rw [hzs]; exact h0)] at this
        rw [this]; rfl
      · rw [this]; rfl

theorem run_app_grow (hT : P.underlying sT = some (.slice e)) (hi : P.info? e = some i) (hz : i.zero = some z) (hzs : z.cells.size = i.size) (hsrc : SrcOk P i z xT x m news w)
    (base : Option Addr) (n cap : Nat) (olds : List Value) (hgrow : cap < n + m) (hold : (Builtin.firstCells i.size n (.slice base n cap)).run P w.drew = .ok olds.toArray w.drew)
    (h63 : n + m ≤ 9223372036854775807) (hbytes : (n + m) * i.bytes ≤ 140737488355328) :
    (Builtin.append_ #[sT, xT] ty #[.slice base n cap, x]).run P w = .ok (.slice (some ⟨w.heap.size, 0, none⟩) (n + m) (grownCap w (n + m) cap e))
      (w.drew.alloc (.cells (olds.toArray ++ news.toArray ++ Builtin.zeroCells z.cells (grownCap w (n + m) cap e - (n + m))) e)) := by
  have hn : ¬ (n + m ≤ cap) := by omega
  have h48 := growslice_fits (old := cap) hgrow hbytes
  have h48' : ¬ (281474976710656 < Builtin.nextslicecap (n + m) cap * i.bytes) := by omega
  have h63' : ¬ (9223372036854775807 < ((n : Int) + (m : Int))) := by omega
  rcases hsrc with ⟨dx, h1, h2, h3, _, h5⟩ | ⟨k, k', h1, rfl, h2, h3, rfl⟩
  · simp [Builtin.append_, run_underlying hT, run_sizeOf hi, run_typeInfo hi, run_underlying h1, h3, h5, hn, h63', h48', Question.forced, hold, run_zero hi hz, newRow, grownCap]
    congr 2
    apply Array.ext'
    simp
  · have hw := wrap_i64_nat m h2
    have e1 : ¬ ((m : Int) < 0) := by omega
    have e2 : ¬ ((281474976710656 : Int) < (m : Int) * (i.bytes : Int)) := by
      have e3 : ((m * i.bytes : Nat) : Int) = (m : Int) * (i.bytes : Int) := Int.natCast_mul _ _
      omega
    simp [Builtin.append_, run_underlying hT, run_sizeOf hi, run_typeInfo hi, run_underlying h1, hn, h63', h48', Question.forced, hold, run_zero hi hz, newRow, grownCap, asInt, asIntOf, hw, e1, e2]
    intro h0
    rw [zeroCells_none z.cells m (by rw [hzs]; exact h0)]
    simp
end
end Go.Z

namespace Go.Z
open Go.RowKit

def zeroInts (P : Program) (T : Nat) : Option (IntKind × Nat) :=
  match P.underlying T with
  | some (.array n e) => match P.underlying e, zeroS P T with
    | some (.int kk), some l => cond (Nat.beq l.length n && l.all (isZ kk)) (some (kk, n)) none
    | _, _ => none
  | _ => none
where
  isZ (kk : IntKind) : SV → Bool
    | .c (.int k' 0) => decide (k' = kk)
    | _ => false

def allocL (P : Program) (T : Nat) (h : List (Nat × R)) (nx : Nat) (k : HK) : Prop :=
  match zeroInts P T with
  | some (kk, n) => k (.q nx) ((nx, .own T (.ints kk (List.replicate n 0))) :: h) (nx + 1)
  | none => match zeroS P T with
    | some l => k (.p nx 0) ((nx, .blk T l) :: h) (nx + 1)
    | none => False

def boxL (T : Nat) (s : SV) (h : List (Nat × R)) (nx : Nat) (k : HK) : Prop :=
  match s with
  | .arr kk xs => k (.q nx) ((nx, .own T (.ints kk xs)) :: h) (nx + 1)
  | s => match cellsS s with
    | some l => k (.p nx 0) ((nx, .blk T l) :: h) (nx + 1)
    | none => False

def splice (l : List SV) (o : Nat) (cs : List SV) : List SV := l.take o ++ (cs ++ l.drop (o + cs.length))

def intOf1 : SV → Option (IntKind × Int)
  | .c (.int k z) => some (k, z)
  | _ => none

def setRec (f : Nat → Nat → D) (i o : Nat) (ds : List D) : Nat → Nat → D := fun i' j' =>
  cond (Nat.beq i' i && Nat.ble o j' && Nat.blt j' (o + ds.length)) (ds.getD (j' - o) (f i' j')) (f i' j')

def mergeD (b : Bool) (x y : D) : D :=
  match x, y with
  | .v (.int k a), .v (.int k' a') => if k = k' then .v (.int k (cond b a a')) else cond b x y
  | .v (.bool a), .v (.bool a') => .v (.bool (cond b a a'))
  | .v (.string a), .v (.string a') => .v (.string (cond b a a'))
  | .ints k a, .ints k' a' => if k = k' then .ints k (cond b a a') else cond b x y
  | .recs es n f, .recs es' n' g => cond (Nat.beq es es') (.recs es (cond b n n') (fun i j => cond b (f i j) (g i j))) (cond b x y)
  | x, y => cond b x y
theorem mergeD_eq (b : Bool) (x y : D) : mergeD b x y = cond b x y := by
  unfold mergeD
  split
  · split
    · rename_i e; subst e; cases b <;> rfl
    · rfl
  · cases b <;> rfl
  · cases b <;> rfl
  · split
    · rename_i e; subst e; cases b <;> rfl
    · rfl
  · rename_i es n f es' n' g
    cases hb : Nat.beq es es' with
    | false => rfl
    | true => obtain rfl := Nat.eq_of_beq_eq_true hb; cases b <;> rfl
  · rfl
def setRecM (f : Nat → Nat → D) (i o : Nat) (ds : List D) : Nat → Nat → D := fun i' j' =>
  cond (Nat.ble o j' && Nat.blt j' (o + ds.length)) (mergeD (Nat.beq i' i) (ds.getD (j' - o) (f i' j')) (f i' j')) (f i' j')
theorem setRecM_eq (f : Nat → Nat → D) (i o : Nat) (ds : List D) : setRecM f i o ds = setRec f i o ds := by
  funext i' j'
  unfold setRecM setRec
  rw [mergeD_eq]
  cases Nat.beq i' i <;> cases Nat.ble o j' <;> cases Nat.blt j' (o + ds.length) <;> rfl

def storeL (P : Program) (T : Nat) (t s : SV) (h : List (Nat × R)) (nx : Nat) (k : List (Nat × R) → Nat → Prop) : Prop :=
  match t with
  | .p n o => match hfind h n, kindT P T, cellsS s with
    | some (.blk T' l), some (_, sz), some cs => cond (Nat.beq cs.length sz && Nat.ble (o + sz) l.length && cs.all oneS) (k ((n, .blk T' (splice l o cs)) :: h) nx) False
    | _, _, _ => False
  | .e n es i o => match hfind h n, kindT P T with
    | some (.own T' (.ints kk xs)), some (_, sz) => match cellsS s with
      | some [c] => match intOf1 c with
        | some (k', z) => cond (Nat.beq sz 1 && Nat.beq es 1 && Nat.beq o 0) (kk = k' ∧ k ((n, .own T' (.ints kk (xs.set i z))) :: h) nx) False
        | none => False
      | _ => False
    | some (.own T' (.recs es' m f)), some (_, sz) => match cellsS s with
      | some cs => match dsOf P T (freezeL h cs) cs with
        | some ds => cond (Nat.beq cs.length sz && Nat.beq es es' && Nat.ble (o + sz) es && nodead n (freezeL h cs) T') (k ((n, .own T' (.recs es' m (setRecM f i o ds))) :: freezeL h cs) nx) False
        | none => False
      | none => False
    | _, _ => False
  | .px S i b o => match kindT P T, cellsS s with
    | some (_, sz), some cs => match dsOf P T (freezeL h cs) cs, pfind (freezeL h cs) S (freezeL h cs) with
      | some ds, some (q, T', m, bs, len, f) => cond (Nat.beq cs.length sz && Nat.ble (o + sz) m) (bs[i]? = some b ∧ k ((q, .pown T' S m bs len (setRecM f i o ds)) :: freezeL h cs) nx) False
      | _, _ => False
    | _, _ => False
  | .q n => match hfind h n, kindT P T, s with
    | some (.own T' (.ints kk xs)), some (_, sz), .arr kk' ys => (kk = kk' ∧ sz = ys.length ∧ xs.length = ys.length) ∧ k ((n, .own T' (.ints kk' ys)) :: h) nx
    | _, _, _ => False
  | _ => False
where
  nodead (n : Nat) (h : List (Nat × R)) (T' : Nat) : Bool :=
    match hfind h n with
    | some (.own T _) => Nat.beq T T'
    | _ => false

def srcD (P : Program) (e xT : Nat) (x : SV) (h : List (Nat × R)) : Option (Prop × D) :=
  match P.underlying xT, x with
  | some (.slice _), .a m => match arrOf h m with
    | some d => some (True, d)
    | none => none
  | some .string, .c (.string s) => match P.underlying e with
    | some (.int .u8) => some (True, .ints .u8 (s.data.toList.map fun b => (b.toNat : Int)))
    | _ => none
  | some (.int _), .c (.int _ z) => match P.underlying e with
    | some (.int k) => match P.info? e with
      | some i => match i.zero with
        | some (.int k' 0) => some (0 ≤ z ∧ z ≤ 9223372036854775807 ∧ z.toNat * i.bytes ≤ 281474976710656 ∧ k' = k, .ints k (List.replicate z.toNat 0))
        | _ => none
      | none => none
    | _ => none
  | _, _ => none

def appendL (P : Program) (sT xT : Nat) (s x : SV) (h : List (Nat × R)) (nx : Nat) (k : HK) : Prop :=
  match P.underlying sT with
  | some (.slice e) => match P.info? e with
    | some i => match i.zero with
      | some z => cond (Nat.beq z.cells.size i.size && Nat.blt 0 i.size && Nat.blt 0 i.bytes)
        (match s, x with
        | .nil, .nil => cond (isSl P xT) (k .nil h nx) False
        | .a n, .nil => match arrOf h n with
          | some _ => cond (isSl P xT) (k (.a n) h nx) False
          | none => False
        | .nil, _ => match srcD P e xT x h with
          | some (c, d) => cond (Nat.beq d.es i.size) (c ∧ d.len * i.bytes ≤ 140737488355328 ∧ k (.a nx) ((nx, .own e d) :: h) (nx + 1)) False
          | none => False
        | .a n, _ => match hfind h n with
          | some (.own T d) => match srcD P e xT x h with
            | some (c, d') => match D.app d d' with
              | some r => cond (Nat.beq T e && Nat.beq d.es i.size && notSame n x) (c ∧ (d.len + d'.len) * i.bytes ≤ 140737488355328 ∧ k (.a nx) ((nx, .own e r) :: (n, .dead) :: h) (nx + 1)) False
              | none => False
            | none => False
          | _ => False
        | _, _ => False) False
      | none => False
    | none => False
  | _ => False
where
  isSl (P : Program) (T : Nat) : Bool :=
    match P.underlying T with
    | some (.slice _) => true
    | _ => false
  notSame (n : Nat) (x : SV) : Bool :=
    match x with
    | .a m => !Nat.beq n m
    | _ => true

def appendP (P : Program) (sT xT n q1 : Nat) (h : List (Nat × R)) (nx : Nat) (k : HK) : Prop :=
  match pownOf h n, hfind h q1, P.underlying sT, P.underlying xT with
  | some (T, S, m, bs, len, f), some (.blk _ [.p q2 0]), some (.slice e), some (.slice _) => match hfind h q2, P.info? e with
    | some (.blk S' l), some i => match i.zero, dsOf P S (freezeL h l) l with
      | some z, some ds => cond (Nat.beq T e && Nat.beq S S' && Nat.beq m l.length && Nat.beq i.size 1 && Nat.beq z.cells.size 1 && Nat.blt 0 i.bytes && !Nat.beq n q2)
        ((len + 1) * i.bytes ≤ 140737488355328 ∧ ∀ b : Nat, k (.a nx) ((nx, .pown T S m (bs ++ [b]) (len + 1) (setRecM f len 0 ds)) :: deads [n, q1, q2] (freezeL h l)) (nx + 1)) False
      | _, _ => False
    | _, _ => False
  | _, _, _, _ => False
def appendX (P : Program) (sT xT : Nat) (s x : SV) (h : List (Nat × R)) (nx : Nat) (k : HK) : Prop :=
  match s, x with
  | .a n, .sl q1 c => match pownOf h n with
    | some _ => cond (Nat.beq c 1) (appendP P sT xT n q1 h nx k) False
    | none => False
  | s, x => appendL P sT xT s x h nx k

def gridD (es : Nat) (ds : List D) : Nat → Nat → D := fun i j => ds.getD (i * es + j) (.v undef)

def placesSl (es : Nat) (i : Nat) : Option (Nat × Nat) := some (i * es, es)

def buildSliceL (P : Program) (T len : Nat) (ixs : List Nat) (vs : List SV) (h : List (Nat × R)) (nx : Nat) (k : HK) : Prop :=
  match P.underlying T with
  | some (.slice e) => match P.info? e with
    | some i => match i.zero with
      | some z => cond (Nat.ble (len * i.size) 1000 && Nat.blt 0 i.size && Nat.beq z.cells.size i.size)
        (match fillS (placesSl i.size) (((List.range (len * i.size)).map fun j => liftK1 (z.cells.toList.getD (j % i.size) undef))) (ixs.zip vs) with
        | some cs => match P.underlying e with
          | some (.int kk) => match intsOf kk cs with
            | some zs => cond (Nat.beq i.size 1) (k (.a nx) ((nx, .own e (.ints kk zs)) :: h) (nx + 1)) False
            | none => False
          | some (.pointer _) => cond (Nat.beq i.size 1) (k (.sl nx len) ((nx, .blk e cs) :: h) (nx + 1)) False
          | _ => match dsOf P e (freezeL h cs) cs with
            | some ds => k (.a nx) ((nx, .own e (.recs i.size len (gridD i.size ds))) :: freezeL h cs) (nx + 1)
            | none => False
        | none => False) False
      | none => False
    | none => False
  | _ => False

def makeSliceL (P : Program) (T : Nat) (l c : SV) (h : List (Nat × R)) (nx : Nat) (k : HK) : Prop :=
  match P.underlying T, l, c with
  | some (.slice e), .c (.int _ n), .c (.int _ m) => match P.underlying e, P.info? e with
    | some (.int kk), some i => match i.zero with
      | some (.int k' 0) => cond (Nat.beq i.size 1) ((0 ≤ n ∧ n ≤ m ∧ m ≤ 9223372036854775807 ∧ m.toNat * i.bytes ≤ 281474976710656 ∧ kk = k') ∧ k (.a nx) ((nx, .own e (.ints kk (List.replicate n.toNat 0))) :: h) (nx + 1)) False
      | _ => False
    | _, _ => False
  | _, _, _ => False

def bytesL (P : Program) (src dst : Nat) (x : SV) (h : List (Nat × R)) (nx : Nat) (k : HK) : Prop :=
  match P.underlying src, P.underlying dst, x with
  | some .string, some (.slice e), .c (.string s) => match P.underlying e with
    | some (.int .u8) => k (.a nx) ((nx, .ro (.ints .u8 (s.data.toList.map fun b => (b.toNat : Int)))) :: h) (nx + 1)
    | _ => False
  | _, _, _ => False

def emptyCol (P : Program) (t : Nat) : Option Col :=
  match P.underlying t with
  | some (.int kk) => some (.ints kk [])
  | some .bool => some (.bools [])
  | some .string => some (.strs [])
  | _ => none
def makeMapL (P : Program) (T : Nat) (r : List SV) (h : List (Nat × R)) (nx : Nat) (k : HK) : Prop :=
  match P.underlying T, r with
  | some (.map kt vt), [] => match emptyCol P kt, emptyCol P vt with
    | some ks, some vs => k (.m nx) ((nx, .map ks vs) :: h) (nx + 1)
    | _, _ => False
  | _, _ => False

def Col.putV (vs : Col) (o : Option Nat) (v : Value) : Option Col :=
  match vs, v with
  | .ints k m, .int k' z => if k = k' then some (.ints k (mputV m o z)) else none
  | .bools m, .bool z => some (.bools (mputV m o z))
  | .strs m, .string z => some (.strs (mputV m o z))
  | _, _ => none
def Col.putK (ks : Col) (o : Option Nat) (v : Value) : Option Col :=
  match ks, v with
  | .ints k m, .int k' z => if k = k' then some (.ints k (mputK m o z)) else none
  | .bools m, .bool z => some (.bools (mputK m o z))
  | .strs m, .string z => some (.strs (mputK m o z))
  | _, _ => none
def Col.del (c : Col) (o : Option Nat) : Col :=
  match c with
  | .ints k m => .ints k (mdel m o)
  | .bools m => .bools (mdel m o)
  | .strs m => .strs (mdel m o)

def mapUpdateL (P : Program) (T : Nat) (x y z : SV) (h : List (Nat × R)) (nx : Nat) (k : List (Nat × R) → Nat → Prop) : Prop :=
  match P.underlying T, x, scal y, scal z with
  | some (.map kt _), .m n, some key, some val => match hfind h n with
    | some (.map ks vs) => match ks.idx key with
      | some o => match ks.putK o key, vs.putV o val with
        | some ks', some vs' => cond (keyKind P kt ks) (k ((n, .map ks' vs') :: h) nx) False
        | _, _ => False
      | none => False
    | _ => False
  | _, _, _, _ => False

def mapEOf (h : List (Nat × R)) (n : Nat) : Option (Col × Col × List (Nat × Int)) :=
  match hfind h n with
  | some (.map ks vs) => some (ks, vs, [])
  | some (.mapE ks vs st) => some (ks, vs, st)
  | _ => none

def mapEntryL (P : Program) (T : Nat) (x y : SV) (h : List (Nat × R)) (nx : Nat) (k : HK) : Prop :=
  match P.underlying T, x, scal y with
  | some (.map kt _), .m n, some key => match mapEOf h n with
    | some (ks, vs, st) => match ks.idx key with
      | some o => cond (keyKind P kt ks) (o.isSome = true ∧ ∀ (j : Nat) (z : Int), o = some j → k (.tup [.c (vs.getAt (some j)), .c (.int .i64 z)]) ((n, .mapE ks vs ((j, z) :: st)) :: h) nx) False
      | none => False
    | none => False
  | _, _, _ => False

def dropN (z : Int) : List (Nat × Int) → List (Nat × Int) → (Nat → List (Nat × Int) → Prop) → Prop
  | _, [], _ => False
  | u, p :: l, k => (z = p.2 ∧ k p.1 (u ++ l)) ∨ dropN z (u ++ [p]) l k

def mapER (ks vs : Col) : List (Nat × Int) → R
  | [] => .map ks vs
  | st => .mapE ks vs st

def entryStoreL (x y z : SV) (h : List (Nat × R)) (nx : Nat) (k : List (Nat × R) → Nat → Prop) : Prop :=
  match x, intOf1 y, scal z with
  | .m n, some (_, s), some val => match hfind h n with
    | some (.mapE ks vs st) => dropN s [] st fun j st' => match vs.putV (some j) val with
      | some vs' => k ((n, mapER ks vs' st') :: h) nx
      | none => False
    | _ => False
  | _, _, _ => False

def deleteL (P : Program) (T : Nat) (x y : SV) (h : List (Nat × R)) (nx : Nat) (k : HK) : Prop :=
  match P.underlying T, x, scal y with
  | some (.map kt _), .m n, some key => match hfind h n with
    | some (.map ks vs) => match ks.idx key with
      | some o => cond (keyKind P kt ks) (k (.tup []) ((n, .map (ks.del o) (vs.del o)) :: h) nx) False
      | none => False
    | _ => False
  | _, _, _ => False

def copyL (P : Program) (dT : Nat) (s t : SV) (h : List (Nat × R)) (nx : Nat) (k : HK) : Prop :=
  match P.underlying dT, s, t with
  | some (.slice e), .vw n l, .a m => match hfind h n, arrOf h m, P.info? e with
    | some (.own T (.ints kk xs)), some (.ints kk' ys), some i => cond (Nat.beq i.size 1) ((kk = kk' ∧ l + ys.length ≤ xs.length ∧ 0 < ys.length) ∧ k (.c (.int .i64 (ys.length : Int))) ((n, .own T (.ints kk (xs.take l ++ (ys ++ xs.drop (l + ys.length))))) :: h) nx) False
    | _, _, _ => False
  | _, _, _ => False

def q3 (vs : List SV) (k : SV → SV → SV → Prop) : Prop := match vs with | [s, t, u] => k s t u | _ => False

structure CE where
  c : Nat → Option Ctr
  j : Nat → List SV → List (Nat × R) → Nat → HK → Prop
instance : CoeFun CE (fun _ => Nat → Option Ctr) := ⟨CE.c⟩

def methF (P : Program) (T : Nat) (m : String) : Option Nat :=
  match P.info? T with
  | some i => match i.methods.find? (·.name == m), P.underlying T with
    | some r, some (.pointer _) => match r.path.toList, r.func with
      | [], some (f, true) => some f
      | _, _ => none
    | _, _ => none
  | none => none

def stepL (P : Program) (C : CE) (op : Op) (vs : List SV) (h : List (Nat × R)) (nx : Nat) (k : HK) : Prop :=
  match op with
  | .alloc T => allocL P T h nx k
  | .box T _ => q1 vs fun s => boxL T s h nx k
  | .store T _ _ => q2 vs fun t s => storeL P T t s h nx (k .unk)
  | .buildSlice T len parts => buildSliceL P T len (parts.toList.map (·.1)) vs h nx k
  | .makeSlice T _ _ => q2 vs fun l c => makeSliceL P T l c h nx k
  | .convert src dst _ => q1 vs fun s => bytesL P src dst s h nx k
  | .makeMap T _ => makeMapL P T vs h nx k
  | .mapUpdate T _ _ _ => q3 vs fun x y z => mapUpdateL P T x y z h nx (k .unk)
  | .mapEntry T _ _ => q2 vs fun x y => mapEntryL P T x y h nx k
  | .entryStore _ _ _ _ => q3 vs fun x y z => entryStoreL x y z h nx (k .unk)
  | .call c => match c.callee, vs with
    | .builtin .delete, _ => match c.argTypes.toList with
      | T :: _ => q2 vs fun x y => deleteL P T x y h nx k
      | _ => False
    | .builtin .copy, _ => match c.argTypes.toList with
      | dT :: _ => q2 vs fun s t => copyL P dT s t h nx k
      | _ => False
    | .builtin .append, _ => match c.argTypes.toList with
      | [sT, xT] => q2 vs fun s x => appendX P sT xT s x h nx k
      | _ => False
    | .value _, .f f nf caps :: args => match C f with
      | some ct => callX P (paramsOf P f) ct (caps.take nf ++ (args ++ caps.drop nf)) h nx k
      | none => C.j f (caps.take nf ++ (args ++ caps.drop nf)) h nx k
    | .invoke _ m, .i T s :: args => match methF P T m with
      | some f => match C f with
        | some ct => callX P (paramsOf P f) ct (s :: args) h nx k
        | none => C.j f (s :: args) h nx k
      | none => False
    | _, _ => False
  | _ => False
end Go.Z

namespace Go.Z
open Go.RowKit

section
variable {P : Program} {K : Ctx} {θ : Th} {h : List (Nat × R)} {nx : Nat} {w : World}

theorem mputV_spec {ν : Type} (m : List ν) (o : Option Nat) (v : ν) : (∀ i, o ≠ some i → i < m.length → (mputV m o v)[i]? = m[i]?) ∧ (∀ j, o = some j → j < m.length → (mputV m o v)[j]? = some v ∧ (mputV m o v).length = m.length) ∧
    (o = none → (mputV m o v)[m.length]? = some v ∧ (mputV m o v).length = m.length + 1) := by
  cases o with
  | none =>
    refine ⟨fun i _ hi => ?_, fun j hj => (by cases hj), fun _ => ?_⟩
    · simp [mputV, List.getElem?_append_left hi]
    · simp [mputV]
  | some j =>
    refine ⟨fun i hne _ => ?_, fun j' hj hlt => ?_, fun h => by cases h⟩
    · simp only [mputV]
      exact List.getElem?_set_ne (fun e => hne (by rw [e]))
    · cases hj
      simp [mputV, hlt]
theorem mputK_spec {κ : Type} (m : List κ) (o : Option Nat) (x : κ) : (∀ i, i < m.length → (mputK m o x)[i]? = m[i]?) ∧ (∀ j, o = some j → mputK m o x = m) ∧ (o = none → (mputK m o x)[m.length]? = some x ∧ (mputK m o x).length = m.length + 1) := by
  cases o with
  | none =>
    refine ⟨fun i hi => ?_, fun j hj => (by cases hj), fun _ => ?_⟩
    · simp [mputK, List.getElem?_append_left hi]
    · simp [mputK]
  | some j => exact ⟨fun i _ => rfl, fun j' _ => rfl, fun h => by cases h⟩

theorem Col.putV_spec {vs vs' : Col} {o : Option Nat} {v : Value} (hp : vs.putV o v = some vs') : (∀ i, o ≠ some i → i < vs.len → vs'.get? i = vs.get? i) ∧ (∀ j, o = some j → j < vs.len → vs'.get? j = some v ∧ vs'.len = vs.len) ∧
    (o = none → vs'.get? vs.len = some v ∧ vs'.len = vs.len + 1) := by
  have main : ∀ {ν : Type} (enc : ν → Value) (m : List ν) (z : ν), (∀ i, o ≠ some i → i < m.length → ((mputV m o z)[i]?).map enc = (m[i]?).map enc) ∧ (∀ j, o = some j → j < m.length → ((mputV m o z)[j]?).map enc = some (enc z) ∧ (mputV m o z).length = m.length) ∧
      (o = none → ((mputV m o z)[m.length]?).map enc = some (enc z) ∧ (mputV m o z).length = m.length + 1) := by
    intro ν enc m z
    obtain ⟨h1, h2, h3⟩ := mputV_spec m o z
    exact ⟨fun i hi hl => by rw [h1 i hi hl], fun j hj hl => ⟨by rw [(h2 j hj hl).1]; rfl, (h2 j hj hl).2⟩, fun hn => ⟨by rw [(h3 hn).1]; rfl, (h3 hn).2⟩⟩
  unfold Col.putV at hp
  split at hp
  · split at hp <;> cases hp
    rename_i e; subst e
    exact main (Value.int _) _ _
  · cases hp; exact main Value.bool _ _
  · cases hp; exact main Value.string _ _
  · cases hp

theorem Col.putK_spec {vs vs' : Col} {o : Option Nat} {v : Value} (hp : vs.putK o v = some vs') : (∀ i, i < vs.len → vs'.get? i = vs.get? i) ∧ (∀ j, o = some j → vs' = vs) ∧ (o = none → vs'.get? vs.len = some v ∧ vs'.len = vs.len + 1) := by
  have main : ∀ {ν : Type} (enc : ν → Value) (m : List ν) (z : ν), (∀ i, i < m.length → ((mputK m o z)[i]?).map enc = (m[i]?).map enc) ∧ (o = none → ((mputK m o z)[m.length]?).map enc = some (enc z) ∧ (mputK m o z).length = m.length + 1) := by
    intro ν enc m z
    obtain ⟨h1, h2, h3⟩ := mputK_spec m o z
    exact ⟨fun i hl => by rw [h1 i hl], fun hn => ⟨by rw [(h3 hn).1]; rfl, (h3 hn).2⟩⟩
  have same : ∀ {ν : Type} (m : List ν) (z : ν) j, o = some j → mputK m o z = m := fun m z j hj => by rw [hj]; rfl
  unfold Col.putK at hp
  split at hp
  · split at hp <;> cases hp
    rename_i e; subst e
    exact ⟨(main (Value.int _) _ _).1, fun j hj => by rw [same _ _ j hj], (main (Value.int _) _ _).2⟩
  · cases hp; exact ⟨(main Value.bool _ _).1, fun j hj => by rw [same _ _ j hj], (main Value.bool _ _).2⟩
  · cases hp; exact ⟨(main Value.string _ _).1, fun j hj => by rw [same _ _ j hj], (main Value.string _ _).2⟩
  · cases hp

theorem Col.get?_lt {c : Col} {i : Nat} {v : Value} (h : c.get? i = some v) : i < c.len := by
  cases c <;> simp only [Col.get?, Option.map_eq_some_iff] at h <;> obtain ⟨z, hz, _⟩ := h <;> exact (List.getElem?_eq_some_iff.1 hz).1

theorem MapIs.set {es : Array MapEntry} {clock j : Nat} {ks vs vs' : Col} {key val : Value} (hm : MapIs es clock ks vs) (hk : ks.get? j = some key) (hv : vs.putV (some j) val = some vs') :
    MapIs (es.modify j fun e => { e with key, val }) clock ks vs' := by
  have hj := Col.get?_lt hk
  obtain ⟨v1, v2, _⟩ := Col.putV_spec hv
  have hjv : j < vs.len := by rw [hm.vals]; exact hj
  have born : ∀ (i : Nat) (e : MapEntry), (es.modify j fun e => { e with key, val })[i]? = some e → ∃ e0, es[i]? = some e0 ∧ e.born = e0.born ∧ (i = j → e.key = key ∧ e.val = val) ∧ (i ≠ j → e = e0) := by
    intro i e he
    rw [Array.getElem?_modify] at he
    split at he
    · rename_i hji
      subst hji
      cases h0 : es[j]? with
      | none => rw [h0] at he; cases he
      | some e0 => rw [h0] at he; simp at he; subst he; exact ⟨e0, rfl, rfl, fun _ => ⟨rfl, rfl⟩, fun hne => absurd rfl hne⟩
    · rename_i hji
      exact ⟨e, he, rfl, fun e => absurd e.symm hji, fun _ => rfl⟩
  refine ⟨by simp [hm.size], by rw [(v2 j rfl hjv).2, hm.vals], fun i e he => ?_, fun i e he => ?_, fun i i' e e' hlt he he' => ?_⟩
  · obtain ⟨e0, h0, _, h1, h2⟩ := born i e he
    by_cases hij : i = j
    · subst hij
      rw [(h1 rfl).1, (h1 rfl).2]
      exact ⟨hk, (v2 i rfl hjv).1⟩
    · rw [h2 hij]
      obtain ⟨a1, a2⟩ := hm.at_ i e0 h0
      exact ⟨a1, by rw [v1 i (fun h => hij (Option.some.inj h).symm) (Col.get?_lt a2)]; exact a2⟩
  · obtain ⟨e0, h0, h1, _⟩ := born i e he
    rw [h1]; exact hm.born i e0 h0
  · obtain ⟨e0, h0, h1, _⟩ := born i e he
    obtain ⟨e0', h0', h1', _⟩ := born i' e' he'
    rw [h1, h1']; exact hm.order i i' e0 e0' hlt h0 h0'

theorem MapIs.push {es : Array MapEntry} {clock : Nat} {ks ks' vs vs' : Col} {key val : Value} (hm : MapIs es clock ks vs) (hk : ks.putK none key = some ks') (hv : vs.putV none val = some vs') :
    MapIs (es.push { key, val, born := clock }) (clock + 1) ks' vs' := by
  obtain ⟨v1, _, v3⟩ := Col.putV_spec hv
  obtain ⟨k1, _, k3⟩ := Col.putK_spec hk
  have get : ∀ (i : Nat) (e : MapEntry), (es.push { key, val, born := clock })[i]? = some e → (i < es.size ∧ es[i]? = some e) ∨ (i = es.size ∧ e = { key, val, born := clock }) := by
    intro i e he
    rw [Array.getElem?_push] at he
    split at he
    · rename_i hi; subst hi; cases he; exact .inr ⟨rfl, rfl⟩
    · exact .inl ⟨(Array.getElem?_eq_some_iff.1 he).1, he⟩
  refine ⟨by rw [(k3 rfl).2]; simp [hm.size], by rw [(v3 rfl).2, (k3 rfl).2, hm.vals], fun i e he => ?_, fun i e he => ?_, fun i i' e e' hlt he he' => ?_⟩
  · rcases get i e he with ⟨hi, h1⟩ | ⟨hi, rfl⟩
    · obtain ⟨a1, a2⟩ := hm.at_ i e h1
      exact ⟨by rw [k1 i (Col.get?_lt a1)]; exact a1, by rw [v1 i (fun h => by cases h) (Col.get?_lt a2)]; exact a2⟩
    · subst hi
      have e1 : es.size = ks.len := hm.size
      have e2 : es.size = vs.len := by rw [e1, hm.vals]
      exact ⟨by rw [e1]; exact (k3 rfl).1, by rw [e2]; exact (v3 rfl).1⟩
  · rcases get i e he with ⟨hi, h1⟩ | ⟨hi, rfl⟩
    · have := hm.born i e h1; omega
    · simp
  · rcases get i e he with ⟨hi, h1⟩ | ⟨hi, rfl⟩ <;> rcases get i' e' he' with ⟨hi', h1'⟩ | ⟨hi', rfl⟩
    · exact hm.order i i' e e' hlt h1 h1'
    · exact hm.born i e h1
    · omega
    · omega

theorem mdel_len {ν : Type} {m : List ν} {j : Nat} (h : j < m.length) : (mdel m (some j)).length = m.length - 1 := by simp [mdel, List.length_eraseIdx, h]
theorem Col.del_spec {c : Col} {j : Nat} (h : j < c.len) : (c.del (some j)).len = c.len - 1 ∧ ∀ i, (c.del (some j)).get? i = if i < j then c.get? i else c.get? (i + 1) := by
  cases c <;> simp only [Col.len] at h <;> refine ⟨mdel_len h, fun i => ?_⟩ <;> simp only [Col.del, Col.get?, mdel, List.getElem?_eraseIdx] <;> split <;> rfl

theorem MapIs.del {es : Array MapEntry} {clock j : Nat} {ks vs : Col} (hm : MapIs es clock ks vs) (hj : j < es.size) : MapIs (es.eraseIdxIfInBounds j) clock (ks.del (some j)) (vs.del (some j)) := by
  have hk : j < ks.len := by rw [← hm.size]; exact hj
  have hv : j < vs.len := by rw [hm.vals]; exact hk
  obtain ⟨k1, k2⟩ := Col.del_spec hk
  obtain ⟨v1, v2⟩ := Col.del_spec hv
  have get : ∀ i : Nat, (es.eraseIdxIfInBounds j)[i]? = if i < j then es[i]? else es[i + 1]? := by
    intro i
    simp only [Array.eraseIdxIfInBounds, hj, dite_true]
    rw [← Array.getElem?_toList, Array.toList_eraseIdx, List.getElem?_eraseIdx]
    split <;> simp
  refine ⟨?_, by rw [v1, k1, hm.vals], fun i e he => ?_, fun i e he => ?_, fun i i' e e' hlt he he' => ?_⟩
  · rw [k1, ← hm.size]
    simp [Array.eraseIdxIfInBounds, hj]
  · rw [get] at he
    rw [k2, v2]
    split at he
    · rename_i hi; rw [if_pos hi, if_pos hi]; exact hm.at_ i e he
    · rename_i hi; rw [if_neg hi, if_neg hi]; exact hm.at_ (i + 1) e he
  · rw [get] at he
    split at he
    · exact hm.born i e he
    · exact hm.born _ e he
  · rw [get] at he he'
    split at he <;> split at he'
    · exact hm.order _ _ e e' hlt he he'
    · exact hm.order _ _ e e' (by omega) he he'
    · omega
    · exact hm.order _ _ e e' (by omega) he he'

theorem run_setObj {b : Nat} {es : Array MapEntry} {clock : Nat} {o : Obj} {w : World} (h : w.heap[b]? = some (.map es clock)) : (setObj b o).run P w = .ok () { w with heap := w.heap.setIfInBounds b o } := by
  show (Sem.setObj b o (Sem.pure ())).run P w = _
  simp only [Sem.run, h]

theorem run_keyStays {kt : Nat} {ks : Col} {key : Value} {o : Option Nat} (hk : keyKind P kt ks = true) (ho : ks.idx key = some o) (w : World) : (Instr.keyThatStays key key).run P w = .ok key w := by
  have hsame : Instr.sameBits 10000 key key = true := by
    unfold Col.idx at ho
    split at ho <;> try (cases ho; done)
    · simp [Instr.sameBits]
    · simp [Instr.sameBits]
    · simp [Instr.sameBits, beq_bytes]
  simp only [Instr.keyThatStays, hsame, if_true]
  rfl

theorem mapUpdateL_sound (hs : SatH K θ h nx w) {T : Nat} {x y z : SV} {u v t : Value} (hu : V θ x u) (hv : V θ y v) (ht : V θ z t) {k : List (Nat × R) → Nat → Prop} (hq : mapUpdateL P T x y z h nx k) :
    ∃ h' w', k h' nx ∧ SatH K θ h' nx w' ∧ (Instr.mapUpdate T u v t).run P w = .ok () w' := by
  unfold mapUpdateL at hq
  split at hq <;> try exact hq.elim
  rename_i kt vt n key val hT hk1 hk2
  obtain rfl := V_scal hk1 hv
  obtain rfl := V_scal hk2 ht
  split at hq <;> try exact hq.elim
  rename_i ks vs hf
  split at hq <;> try exact hq.elim
  rename_i o ho
  split at hq <;> try exact hq.elim
  rename_i ks' vs' hks hvs
  obtain ⟨hkk, hk⟩ := cond_false hq
  simp only [V] at hu
  obtain ⟨L, hL, rfl⟩ := hu
  obtain ⟨L', hL', ha, es, clock, hb, hm⟩ := hs.res n _ hf
  obtain rfl := Option.some.inj (hL.symm.trans hL')
  have hlt := (Array.getElem?_eq_some_iff.1 hb).1
  have turn : ∀ (es' : Array MapEntry) (clock' : Nat), MapIs es' clock' ks' vs' → SatH K θ ((n, .map ks' vs') :: h) nx { w with heap := w.heap.setIfInBounds L.b (.map es' clock') } := by
    intro es' clock' hm'
    refine hs.turn hf hL (b0 := L.b) rfl rfl rfl rfl (by simp) (fun b hne => by simp [Ne.symm hne]) (fun _ => Iff.rfl) (fun X' _ => ⟨ha, es', clock', ?_, hm'⟩)
    simp [hlt]
  cases o with
  | none =>
    refine ⟨_, _, hk, turn _ _ (hm.push hks hvs), ?_⟩
    simp only [Instr.mapUpdate, Sem.run_bind, run_underlying hT, Result.andThen, run_getObj_map hb, run_checkKey hkk, run_findKey hkk ho hm, eget, run_setObj hb]
  | some j =>
    obtain ⟨e, he, hek, hkj⟩ := find_place hkk ho hm
    have hks' : ks' = ks := (Col.putK_spec hks).2.1 j rfl
    subst hks'
    refine ⟨_, _, hk, turn _ _ (hm.set hkj hvs), ?_⟩
    simp only [Instr.mapUpdate, Sem.run_bind, run_underlying hT, Result.andThen, run_getObj_map hb, run_checkKey hkk, run_findKey hkk ho hm, eget, he, Option.map_some, Option.getD_some, hek, run_keyStays hkk ho, run_setObj hb]

theorem deleteL_sound (hs : SatH K θ h nx w) {T : Nat} {ts : Array Nat} {ty : Nat} {x y : SV} {u v : Value} (hts : ts[0]? = some T) (hu : V θ x u) (hv : V θ y v) {k : HK} (hq : deleteL P T x y h nx k) :
    ∃ r h' w' v', k r h' nx ∧ SatH K θ h' nx w' ∧ V θ r v' ∧ (Builtin.delete_ ts ty #[u, v]).run P w = .ok v' w' := by
  unfold deleteL at hq
  split at hq <;> try exact hq.elim
  rename_i kt vt n key hT hk1
  obtain rfl := V_scal hk1 hv
  split at hq <;> try exact hq.elim
  rename_i ks vs hf
  split at hq <;> try exact hq.elim
  rename_i o ho
  obtain ⟨hkk, hk⟩ := cond_false hq
  simp only [V] at hu
  obtain ⟨L, hL, rfl⟩ := hu
  obtain ⟨L', hL', ha, es, clock, hb, hm⟩ := hs.res n _ hf
  obtain rfl := Option.some.inj (hL.symm.trans hL')
  have hlt := (Array.getElem?_eq_some_iff.1 hb).1
  have turn : ∀ (es' : Array MapEntry), MapIs es' clock (ks.del o) (vs.del o) → SatH K θ ((n, .map (ks.del o) (vs.del o)) :: h) nx { w with heap := w.heap.setIfInBounds L.b (.map es' clock) } := by
    intro es' hm'
    refine hs.turn hf hL (b0 := L.b) rfl rfl rfl rfl (by simp) (fun b hne => by simp [Ne.symm hne]) (fun _ => Iff.rfl) (fun X' _ => ⟨ha, es', clock, ?_, hm'⟩)
    simp [hlt]
  cases o with
  | none =>
    have e1 : ks.del none = ks := by cases ks <;> rfl
    have e2 : vs.del none = vs := by cases vs <;> rfl
    refine ⟨_, _, _, .tuple #[], hk, turn es (by rw [e1, e2]; exact hm), by simp only [V]; exact ⟨[], rfl, by simp [VL]⟩, ?_⟩
    simp [Builtin.delete_, hts, run_underlying hT, run_getObj_map hb, run_checkKey hkk, run_findKey hkk ho hm, eget, run_setObj hb]
  | some j =>
    obtain ⟨e, he, hek, hkj⟩ := find_place hkk ho hm
    refine ⟨_, _, _, .tuple #[], hk, turn _ (hm.del (Array.getElem?_eq_some_iff.1 he).1), by simp only [V]; exact ⟨[], rfl, by simp [VL]⟩, ?_⟩
    simp [Builtin.delete_, hts, run_underlying hT, run_getObj_map hb, run_checkKey hkk, run_findKey hkk ho hm, eget, he, run_setObj hb]

theorem modify_id {α : Type} (es : Array α) (j : Nat) (f : α → α) (h : ∀ e, es[j]? = some e → f e = e) : es.modify j f = es := by
  apply Array.ext'
  rw [Array.toList_modify]
  apply List.ext_getElem?
  intro i
  rw [List.getElem?_modify]
  by_cases hi : j = i
  · subst hi
    cases he : es[j]? with
    | none => simp [he]
    | some e => simp [he, h e he]
  · simp [hi]

theorem mapEntryL_sound (hs : SatH K θ h nx w) {T : Nat} {x y : SV} {u v : Value} (hu : V θ x u) (hv : V θ y v) {k : HK} (hq : mapEntryL P T x y h nx k) :
    ∃ r h' v', k r h' nx ∧ SatH K θ h' nx w ∧ V θ r v' ∧ (Instr.mapEntry T u v).run P w = .ok v' w := by
  unfold mapEntryL at hq
  split at hq <;> try exact hq.elim
  rename_i kt vt n key hT hk1
  obtain rfl := V_scal hk1 hv
  split at hq <;> try exact hq.elim
  rename_i ks vs st hf
  split at hq <;> try exact hq.elim
  rename_i o ho
  obtain ⟨hkk, hsome, hk⟩ := cond_false hq
  simp only [V] at hu
  obtain ⟨L, hL, rfl⟩ := hu
  have hold : ∃ r, hfind h n = some r ∧ (∀ b, r.has L b ↔ L.b = b) ∧ (L.a = some ⟨L.b, 0, none⟩ ∧ ∃ es clock, w.heap[L.b]? = some (.map es clock) ∧ MapIs es clock ks vs ∧ ∀ p, p ∈ st → ∃ e : MapEntry, es[p.1]? = some e ∧ (e.born : Int) = p.2) := by
    unfold mapEOf at hf
    split at hf <;> cases hf
    · rename_i hf
      obtain ⟨L', hL', ha, es, clock, hb, hm⟩ := hs.res n _ hf
      obtain rfl := Option.some.inj (hL.symm.trans hL')
      exact ⟨_, hf, fun _ => Iff.rfl, ha, es, clock, hb, hm, fun p hp => by cases hp⟩
    · rename_i hf
      obtain ⟨L', hL', h1⟩ := hs.res n _ hf
      obtain rfl := Option.some.inj (hL.symm.trans hL')
      exact ⟨_, hf, fun _ => Iff.rfl, h1⟩
  obtain ⟨r, hr, hhas, ha, es, clock, hb, hm, hst⟩ := hold
  have hlt := (Array.getElem?_eq_some_iff.1 hb).1
  cases o with
  | none => cases hsome
  | some j =>
    obtain ⟨e, he, hek, hkj⟩ := find_place hkk ho hm
    have hmod : (es.modify j fun e => { e with key := v }) = es := modify_id es j _ fun e' he' => by
      rw [he] at he'; cases he'
      rw [← hek]
    refine ⟨_, _, .tuple #[e.val, goInt e.born], hk j e.born rfl, ?_, ?_, ?_⟩
    · refine hs.turn hr hL (b0 := L.b) ((hhas _).2 rfl) rfl rfl rfl rfl (fun b _ => rfl) (fun b => (hhas b).symm) (fun X' _ => ⟨ha, es, clock, hb, hm, fun p hp => ?_⟩)
      rcases List.mem_cons.1 hp with rfl | hp
      · exact ⟨e, he, rfl⟩
      · exact hst p hp
    · simp only [V]
      exact ⟨[e.val, goInt e.born], rfl, by simp [VL, V, getAt_some hm he, goInt]⟩
    · have hset : w.heap.setIfInBounds L.b (.map es clock) = w.heap := by
        apply Array.ext (by simp)
        intro i h1 h2
        rw [Array.getElem_setIfInBounds]
        · split
          · rename_i e1; subst e1
            exact (Option.some.inj ((Array.getElem?_eq_getElem h2).symm.trans hb)).symm
          · rfl
      have hko : (Instr.keyThatStays e.key v).run P w = .ok v w := by rw [hek]; exact run_keyStays hkk ho w
      simp only [Instr.mapEntry, Sem.run_bind, run_underlying hT, Result.andThen, run_getObj_map hb, run_checkKey hkk, run_findKey hkk ho hm, eget, he, Option.map_some, Option.getD_some, hko, run_setObj hb, hmod, hset, Sem.run_pure]

theorem dropN_spec {z : Int} {k : Nat → List (Nat × Int) → Prop} : ∀ {u l : List (Nat × Int)}, dropN z u l k → ∃ p u' l', u ++ l = u' ++ p :: l' ∧ z = p.2 ∧ k p.1 (u' ++ l')
  | _, [], hq => hq.elim
  | u, p :: l, hq => by
    unfold dropN at hq
    rcases hq with ⟨h1, h2⟩ | hq
    · exact ⟨p, u, l, rfl, h1, h2⟩
    · obtain ⟨p', u', l', e, h1, h2⟩ := dropN_spec hq
      exact ⟨p', u', l', by rw [← e]; simp, h1, h2⟩

theorem MapIs.setBorn {es : Array MapEntry} {clock : Nat} {ks vs : Col} (hm : MapIs es clock ks vs) {j : Nat} {e : MapEntry} (he : es[j]? = some e) :
    es.findIdx? (fun e' => (e'.born : Int) == (e.born : Int)) = some j := by
  obtain ⟨hj, hje⟩ := Array.getElem?_eq_some_iff.1 he
  rw [Array.findIdx?_eq_some_iff_getElem]
  refine ⟨hj, by simp [hje], fun i hi => ?_⟩
  have hlt : i < es.size := by omega
  have := hm.order i j es[i] e hi (Array.getElem?_eq_getElem hlt) he
  simp; omega

theorem MapIs.setV {es : Array MapEntry} {clock j : Nat} {ks vs vs' : Col} {val : Value} {e0 : MapEntry} (hm : MapIs es clock ks vs) (he : es[j]? = some e0) (hv : vs.putV (some j) val = some vs') :
    MapIs (es.modify j fun e => { e with val }) clock ks vs' := by
  have hk := (hm.at_ j e0 he).1
  have := hm.set hk hv
  have e1 : (es.modify j fun e => { e with key := e0.key, val }) = es.modify j fun e => { e with val } := by
    apply Array.ext (by simp)
    intro i h1 h2
    rw [Array.getElem_modify, Array.getElem_modify]
    split
    · rename_i e1; subst e1
      have hj : j < es.size := by simpa using h2
      have : es[j] = e0 := Option.some.inj ((Array.getElem?_eq_getElem hj).symm.trans he)
      rw [this]
    · rfl
  rw [e1] at this
  exact this

theorem entryStoreL_sound (hs : SatH K θ h nx w) {T : Nat} {x y z : SV} {u v t : Value} (hu : V θ x u) (hv : V θ y v) (ht : V θ z t) {k : List (Nat × R) → Nat → Prop} (hq : entryStoreL x y z h nx k) :
    ∃ h' w', k h' nx ∧ SatH K θ h' nx w' ∧ (Instr.entryStore T u v t).run P w = .ok () w' := by
  unfold entryStoreL at hq
  split at hq <;> try exact hq.elim
  rename_i n kk s val hk1 hk2
  obtain rfl := V_scal hk2 ht
  have hv' : v = .int kk s := by
    unfold intOf1 at hk1
    split at hk1 <;> cases hk1
    simpa only [V] using hv
  subst hv'
  split at hq <;> try exact hq.elim
  rename_i ks vs st hf
  obtain ⟨p, u', l', e1, hz, hq⟩ := dropN_spec hq
  simp only [List.nil_append] at e1
  split at hq <;> try exact hq.elim
  rename_i vs' hvs
  simp only [V] at hu
  obtain ⟨L, hL, rfl⟩ := hu
  obtain ⟨L', hL', ha, es, clock, hb, hm, hst⟩ := hs.res n _ hf
  obtain rfl := Option.some.inj (hL.symm.trans hL')
  have hlt := (Array.getElem?_eq_some_iff.1 hb).1
  obtain ⟨e, he, heb⟩ := hst p (by rw [e1]; simp)
  have hfi : es.findIdx? (fun e' => (e'.born : Int) == s) = some p.1 := by rw [hz, ← heb]; exact hm.setBorn he
  have hm' := hm.setV he hvs
  have hheap : (w.heap.setIfInBounds L.b (.map (es.modify p.1 fun e => { e with val := t }) clock))[L.b]? = some (.map (es.modify p.1 fun e => { e with val := t }) clock) := by simp [hlt]
  refine ⟨_, { w with heap := w.heap.setIfInBounds L.b (.map (es.modify p.1 fun e => { e with val := t }) clock) }, hq, ?_, ?_⟩
  · refine hs.turn hf hL (b0 := L.b) rfl rfl rfl rfl (by simp) (fun b hne => by simp [Ne.symm hne]) (fun b => ?_) (fun X' _ => ?_)
    · unfold mapER; split <;> exact Iff.rfl
    · have hnotes : ∀ q, q ∈ u' ++ l' → ∃ e : MapEntry, (es.modify p.1 fun e => { e with val := t })[q.1]? = some e ∧ (e.born : Int) = q.2 := by
        intro q hq'
        obtain ⟨e2, he2, hb2⟩ := hst q (by
          rw [e1]
          rcases List.mem_append.1 hq' with h1 | h1
          · exact List.mem_append_left _ h1
          · exact List.mem_append_right _ (List.mem_cons_of_mem _ h1))
        rw [Array.getElem?_modify]
        by_cases hpq : p.1 = q.1
        · rw [if_pos hpq, he2]
          exact ⟨_, rfl, hb2⟩
        · rw [if_neg hpq]
          exact ⟨e2, he2, hb2⟩
      unfold mapER
      split
      · exact ⟨ha, _, clock, hheap, hm'⟩
      · rename_i hne
        exact ⟨ha, _, clock, hheap, hm', hnotes⟩
  · have hint : (asInt (.int kk s)).run P w = .ok s w := by simp [asInt, asIntOf]
    simp only [Instr.entryStore, Sem.run_bind, Result.andThen, run_getObj_map hb, hint, hfi, run_setObj hb]
end
end Go.Z
