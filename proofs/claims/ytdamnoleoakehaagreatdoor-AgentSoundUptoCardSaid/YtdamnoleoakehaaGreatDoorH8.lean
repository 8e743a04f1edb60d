/- Part 8 of what the closing text rests on. -/
import Derived.Test.YtdamnoleoakehaaGreatDoorH7
namespace Go.Z
open Go.RowKit

def D.cellsAre (X : Nat → Prop) (w : World) (cs : List Value) : D → Prop
  | .ints k xs => cs = xs.map (Value.int k)
  | .recs es n f => cs.length = n * es ∧ ∀ i, i < n → ∀ j, j < es → ∃ c, cs[i * es + j]? = some c ∧ (f i j).holds X w c
  | _ => False

theorem D.cellsAre_length {X : Nat → Prop} {w : World} {cs : List Value} {d : D} (h : d.cellsAre X w cs) : cs.length = d.len * d.es := by
  cases d with
  | v x => exact h.elim
  | ptr _ _ _ => exact h.elim
  | fn _ _ _ _ => exact h.elim
  | map _ _ => exact h.elim
  | ints k xs => simp only [D.cellsAre] at h; subst h; simp [D.len, D.es]
  | recs es n f => exact h.1

theorem D.holds_one {X : Nat → Prop} {w : World} {d : D} {c : Value} (h : d.holds X w c) : c.oneCell' = true := by
  cases d with
  | v x => obtain ⟨rfl, h2⟩ := h; exact h2
  | ints k xs => obtain ⟨L, rfl, _⟩ := h; rfl
  | recs es n f => obtain ⟨L, rfl, _⟩ := h; rfl
  | ptr T n f => obtain ⟨b, us, rfl, _⟩ := h; rfl
  | fn g m n f => obtain ⟨us, rfl, _⟩ := h; rfl
  | map ks vs => obtain ⟨b, es, clock, rfl, _⟩ := h; rfl

theorem D.cellsAre_one {X : Nat → Prop} {w : World} {cs : List Value} {d : D} (h : d.cellsAre X w cs) : ∀ u ∈ cs, u.oneCell' = true := by
  intro u hu
  cases d with
  | v x => exact h.elim
  | ptr _ _ _ => exact h.elim
  | fn _ _ _ _ => exact h.elim
  | map _ _ => exact h.elim
  | ints k xs =>
    simp only [D.cellsAre] at h; subst h
    obtain ⟨z, _, rfl⟩ := List.mem_map.1 hu; rfl
  | recs es n f =>
    obtain ⟨h1, h2⟩ := h
    obtain ⟨p, hp, hpu⟩ := List.getElem_of_mem hu
    have hes : 0 < es := by
      rcases Nat.eq_zero_or_pos es with e | e
      · subst e; simp at h1; subst h1; simp at hp
      · exact e
    have hdiv : p / es < n := by rw [Nat.div_lt_iff_lt_mul hes]; omega
    obtain ⟨c, h3, h4⟩ := h2 (p / es) hdiv (p % es) (Nat.mod_lt _ hes)
    rw [Nat.mul_comm, Nat.div_add_mod, List.getElem?_eq_getElem hp, hpu] at h3
    cases h3
    exact D.holds_one h4

theorem D.cellsAre_mono {X X' : Nat → Prop} {w w' : World} (hk : Keeps X X' w w') {cs : List Value} {d : D} (h : d.cellsAre X w cs) : d.cellsAre X' w' cs := by
  cases d with
  | v x => exact h.elim
  | ptr _ _ _ => exact h.elim
  | fn _ _ _ _ => exact h.elim
  | map _ _ => exact h.elim
  | ints k xs => exact h
  | recs es n f => exact ⟨h.1, fun i hi j hj => let ⟨c, h3, h4⟩ := h.2 i hi j hj; ⟨c, h3, D.holds_mono hk _ _ h4⟩⟩

theorem list_of_fn (p : Nat → Value → Prop) : ∀ (n : Nat), (∀ i, i < n → ∃ v, p i v) → ∃ l : List Value, l.length = n ∧ ∀ i v, l[i]? = some v → p i v
  | 0, _ => ⟨[], rfl, fun i v h => by simp at h⟩
  | n + 1, h => by
    obtain ⟨l, h1, h2⟩ := list_of_fn p n (fun i hi => h i (by omega))
    obtain ⟨v, hv⟩ := h n (by omega)
    refine ⟨l ++ [v], by simp [h1], fun i u hu => ?_⟩
    rw [List.getElem?_append] at hu
    split at hu
    · exact h2 i u hu
    · rename_i hge
      have : i = n := by
        have := (List.getElem?_eq_some_iff.1 hu).1
        simp at this; omega
      subst this
      rw [h1] at hu
      simp at hu; subst hu; exact hv

theorem D.at_cells {X : Nat → Prop} {w : World} {L : Loc} {d : D} (h : d.at X w L) :
    ∃ cs : List Value, cs.length = d.len * d.es ∧ (∀ j v, cs[j]? = some v → w.cell? ⟨L.b, L.o + j, none⟩ = some v) ∧ d.cellsAre X w cs := by
  cases d with
  | v x => exact h.elim
  | ptr _ _ _ => exact h.elim
  | fn _ _ _ _ => exact h.elim
  | map _ _ => exact h.elim
  | ints k xs =>
    obtain ⟨h1, h2, h3⟩ := h
    refine ⟨xs.map (Value.int k), by simp [D.len, D.es], fun j v hv => ?_, rfl⟩
    rw [List.getElem?_map] at hv
    cases hx : xs[j]? with
    | none => rw [hx] at hv; simp at hv
    | some z => rw [hx] at hv; simp at hv; subst hv; exact h3 j z hx
  | recs es n f =>
    obtain ⟨h1, h2, h3⟩ := h
    by_cases hes : es = 0
    · subst hes
      exact ⟨[], by simp [D.len, D.es], fun j v hv => by simp at hv, by simp, fun i hi j hj => by omega⟩
    · have hpos : 0 < es := by omega
      obtain ⟨l, l1, l2⟩ := list_of_fn (fun p v => w.cell? ⟨L.b, L.o + p, none⟩ = some v) (n * es) (fun p hp => by
        have hdiv : p / es < n := by rw [Nat.div_lt_iff_lt_mul hpos]; omega
        obtain ⟨c, h4, _⟩ := h3 (p / es) hdiv (p % es) (Nat.mod_lt _ hpos)
        refine ⟨c, ?_⟩
        rw [Nat.mul_comm, Nat.div_add_mod] at h4
        exact h4)
      refine ⟨l, l1, l2, l1, fun i hi j hj => ?_⟩
      obtain ⟨c, h4, h5⟩ := h3 i hi j hj
      have hlt : i * es + j < l.length := by
        rw [l1]
        have : (i + 1) * es ≤ n * es := Nat.mul_le_mul_right _ hi
        rw [Nat.add_mul] at this; omega
      have h6 := l2 _ _ (List.getElem?_eq_getElem hlt)
      rw [h4] at h6
      cases h6
      exact ⟨_, List.getElem?_eq_getElem hlt, h5⟩

theorem D.at_of_cells {X : Nat → Prop} {w : World} {L : Loc} {d : D} {cs : List Value} (hlen : L.len = d.len) (hcap : L.len ≤ L.cap)
    (hc : ∀ j v, cs[j]? = some v → w.cell? ⟨L.b, L.o + j, none⟩ = some v) (h : d.cellsAre X w cs) : d.at X w L := by
  cases d with
  | v x => exact h.elim
  | ptr _ _ _ => exact h.elim
  | fn _ _ _ _ => exact h.elim
  | map _ _ => exact h.elim
  | ints k xs =>
    simp only [D.cellsAre] at h; subst h
    exact ⟨hlen, hcap, fun i z hz => hc i _ (by rw [List.getElem?_map, hz]; rfl)⟩
  | recs es n f => exact ⟨hlen, hcap, fun i hi j hj => let ⟨c, h3, h4⟩ := h.2 i hi j hj; ⟨c, hc _ _ h3, h4⟩⟩

def D.app : D → D → Option D
  | .ints k xs, .ints k' ys => if k = k' then some (.ints k (xs ++ ys)) else none
  | .recs es n f, .recs es' m g => cond (Nat.beq es es') (some (.recs es (n + m) (fun i j => cond (Nat.blt i n) (f i j) (g (i - n) j)))) none
  | _, _ => none

theorem D.app_cells {X : Nat → Prop} {w : World} {d e r : D} {cs ds : List Value} (h : D.app d e = some r) (hd : d.cellsAre X w cs) (he : e.cellsAre X w ds) :
    r.cellsAre X w (cs ++ ds) ∧ r.len = d.len + e.len ∧ r.es = d.es ∧ e.es = d.es := by
  cases d with
  | v x => exact hd.elim
  | ptr _ _ _ => exact hd.elim
  | fn _ _ _ _ => exact hd.elim
  | map _ _ => exact hd.elim
  | ints k xs =>
    cases e with
    | v x => exact he.elim
    | ptr _ _ _ => exact he.elim
    | fn _ _ _ _ => exact he.elim
    | map _ _ => exact he.elim
    | recs es n f => cases h
    | ints k' ys =>
      simp only [D.app] at h
      split at h <;> cases h
      rename_i hk; subst hk
      simp only [D.cellsAre] at hd he
      subst hd he
      exact ⟨by simp [D.cellsAre], by simp [D.len], rfl, rfl⟩
  | recs es n f =>
    cases e with
    | v x => exact he.elim
    | ptr _ _ _ => exact he.elim
    | fn _ _ _ _ => exact he.elim
    | map _ _ => exact he.elim
    | ints k' ys => cases h
    | recs es' m g =>
      simp only [D.app] at h
      cases hb : Nat.beq es es' with
      | false => rw [hb] at h; cases h
      | true =>
        rw [hb] at h; cases h
        have e1 := nbeq hb; subst e1
        obtain ⟨l1, h1⟩ := hd
        obtain ⟨l2, h2⟩ := he
        refine ⟨⟨by simp [l1, l2, Nat.add_mul], fun i hi j hj => ?_⟩, rfl, rfl, rfl⟩
        by_cases hin : i < n
        · obtain ⟨c, h3, h4⟩ := h1 i hin j hj
          refine ⟨c, ?_, ?_⟩
          · rw [List.getElem?_append_left (List.getElem?_eq_some_iff.1 h3).1]; exact h3
          · have : Nat.blt i n = true := Nat.ble_eq ▸ hin
            simp only [this, cond_true]; exact h4
        · obtain ⟨c, h3, h4⟩ := h2 (i - n) (by omega) j hj
          refine ⟨c, ?_, ?_⟩
          · have : (i - n) * es = i * es - n * es := Nat.sub_mul _ _ _
            have hle : n * es ≤ i * es := Nat.mul_le_mul_right _ (by omega)
            rw [List.getElem?_append_right (by omega), l1, show i * es + j - n * es = (i - n) * es + j by omega]
            exact h3
          · have : Nat.blt i n = false := by
              cases hb' : Nat.blt i n with
              | false => rfl
              | true => exact absurd (nblt hb') hin
            simp only [this]; exact h4

def SrcOk (P : Program) (i : TypeInfo) (z : Value) (xT : Nat) (x : Value) (m : Nat) (news : List Value) (w : World) : Prop :=
  (∃ dx, P.underlying xT = some dx ∧ (∀ k, dx ≠ .int k) ∧ (∀ w', (Builtin.lenOf x).run P w' = .ok m w') ∧ (Builtin.firstCells i.size m x).run P w = .ok news.toArray w ∧
    (Builtin.firstCells i.size m x).run P w.drew = .ok news.toArray w.drew) ∨
  (∃ k k', P.underlying xT = some (.int k) ∧ x = .int k' m ∧ m ≤ 9223372036854775807 ∧ m * i.bytes ≤ 281474976710656 ∧ news = (Builtin.zeroCells z.cells m).toList)

section
variable {P : Program} {w : World} {sT e xT ty : Nat} {i : TypeInfo} {z : Value} {x : Value} {m : Nat} {news : List Value}

theorem zeroCells_none (zs : Array Value) (n : Nat) (h : n * zs.size = 0) : Builtin.zeroCells zs n = #[] := by
  unfold Builtin.zeroCells; rw [h]; simp

theorem wrap_i64_nat (m : Nat) (h : m ≤ 9223372036854775807) : IntKind.i64.wrap (m : Int) = m := IntWalk.i64_in _ (by omega)

theorem run_app_room (hT : P.underlying sT = some (.slice e)) (hi : P.info? e = some i) (hz : i.zero = some z) (hzs : z.cells.size = i.size) (hsrc : SrcOk P i z xT x m news w)
    (base : Option Addr) (n cap : Nat) (hroom : n + m ≤ cap) (w' : World)
    (hst : ∀ a, base = some a → (storeCells (a.add (n * i.size)) news).run P w = .ok () w') (hno : base = none → w' = w) :
    (Builtin.append_ #[sT, xT] ty #[.slice base n cap, x]).run P w = .ok (.slice base (n + m) cap) w' := by
  rcases hsrc with ⟨dx, h1, h2, h3, h4, _⟩ | ⟨k, k', h1, rfl, h2, h3, rfl⟩
  · cases base with
    | none =>
      have := hno rfl; subst this
      simp [Builtin.append_, run_underlying hT, run_sizeOf hi, run_underlying h1, h3, h4, hroom]
    | some a =>
      have := hst a rfl
      simp [Builtin.append_, run_underlying hT, run_sizeOf hi, run_underlying h1, h3, h4, hroom, this]
  · have hw := wrap_i64_nat m h2
    have e1 : ¬ ((m : Int) < 0) := by omega
    have e2 : ¬ ((281474976710656 : Int) < (m : Int) * (i.bytes : Int)) := by
      have e3 : ((m * i.bytes : Nat) : Int) = (m : Int) * (i.bytes : Int) := Int.natCast_mul _ _
      omega
    cases base with
    | none =>
      have := hno rfl; subst this
      simp [Builtin.append_, run_underlying hT, run_sizeOf hi, run_typeInfo hi, run_underlying h1, hroom, asInt, asIntOf, hw, e1, e2, run_zero hi hz]
    | some a =>
      have := hst a rfl
      simp [Builtin.append_, run_underlying hT, run_sizeOf hi, run_typeInfo hi, run_underlying h1, hroom, asInt, asIntOf, hw, e1, e2, run_zero hi hz]
      split
      · rename_i h0
        rw [zeroCells_none _ _ (by rw [hzs]; exact h0)] at this
        rw [this]; rfl
      · rw [this]; rfl

theorem run_app_grow (hT : P.underlying sT = some (.slice e)) (hi : P.info? e = some i) (hz : i.zero = some z) (hzs : z.cells.size = i.size) (hsrc : SrcOk P i z xT x m news w)
    (base : Option Addr) (n cap : Nat) (olds : List Value) (hgrow : cap < n + m) (hold : (Builtin.firstCells i.size n (.slice base n cap)).run P w.drew = .ok olds.toArray w.drew)
    (h63 : n + m ≤ 9223372036854775807) (hbytes : (n + m) * i.bytes ≤ 140737488355328) :
    (Builtin.append_ #[sT, xT] ty #[.slice base n cap, x]).run P w = .ok (.slice (some ⟨w.heap.size, 0, none⟩) (n + m) (grownCap w (n + m) cap e))
      (w.drew.alloc (.cells (olds.toArray ++ news.toArray ++ Builtin.zeroCells z.cells (grownCap w (n + m) cap e - (n + m))) e)) := by
  have hn : ¬ (n + m ≤ cap) := by omega
  have h48 := growslice_fits (old := cap) hgrow hbytes
  have h48' : ¬ (281474976710656 < Builtin.nextslicecap (n + m) cap * i.bytes) := by omega
  have h63' : ¬ (9223372036854775807 < ((n : Int) + (m : Int))) := by omega
  rcases hsrc with ⟨dx, h1, h2, h3, _, h5⟩ | ⟨k, k', h1, rfl, h2, h3, rfl⟩
  · simp [Builtin.append_, run_underlying hT, run_sizeOf hi, run_typeInfo hi, run_underlying h1, h3, h5, hn, h63', h48', Question.forced, hold, run_zero hi hz, newRow, grownCap]
    congr 2
    apply Array.ext'
    simp
  · have hw := wrap_i64_nat m h2
    have e1 : ¬ ((m : Int) < 0) := by omega
    have e2 : ¬ ((281474976710656 : Int) < (m : Int) * (i.bytes : Int)) := by
      have e3 : ((m * i.bytes : Nat) : Int) = (m : Int) * (i.bytes : Int) := Int.natCast_mul _ _
      omega
    simp [Builtin.append_, run_underlying hT, run_sizeOf hi, run_typeInfo hi, run_underlying h1, hn, h63', h48', Question.forced, hold, run_zero hi hz, newRow, grownCap, asInt, asIntOf, hw, e1, e2]
    intro h0
    rw [zeroCells_none z.cells m (by rw [hzs]; exact h0)]
    simp
end
end Go.Z

namespace Go.Z
open Go.RowKit

def zeroInts (P : Program) (T : Nat) : Option (IntKind × Nat) :=
  match P.underlying T with
  | some (.array n e) => match P.underlying e, zeroS P T with
    | some (.int kk), some l => cond (Nat.beq l.length n && l.all (isZ kk)) (some (kk, n)) none
    | _, _ => none
  | _ => none
where
  isZ (kk : IntKind) : SV → Bool
    | .c (.int k' 0) => decide (k' = kk)
    | _ => false

def allocL (P : Program) (T : Nat) (h : List (Nat × R)) (nx : Nat) (k : HK) : Prop :=
  match zeroInts P T with
  | some (kk, n) => k (.q nx) ((nx, .own T (.ints kk (List.replicate n 0))) :: h) (nx + 1)
  | none => match zeroS P T with
    | some l => k (.p nx 0) ((nx, .blk T l) :: h) (nx + 1)
    | none => False

def boxL (T : Nat) (s : SV) (h : List (Nat × R)) (nx : Nat) (k : HK) : Prop :=
  match s with
  | .arr kk xs => k (.q nx) ((nx, .own T (.ints kk xs)) :: h) (nx + 1)
  | s => match cellsS s with
    | some l => k (.p nx 0) ((nx, .blk T l) :: h) (nx + 1)
    | none => False

def splice (l : List SV) (o : Nat) (cs : List SV) : List SV := l.take o ++ (cs ++ l.drop (o + cs.length))

def intOf1 : SV → Option (IntKind × Int)
  | .c (.int k z) => some (k, z)
  | _ => none

def setRec (f : Nat → Nat → D) (i o : Nat) (ds : List D) : Nat → Nat → D := fun i' j' =>
  cond (Nat.beq i' i && Nat.ble o j' && Nat.blt j' (o + ds.length)) (ds.getD (j' - o) (f i' j')) (f i' j')

def mergeD (b : Bool) (x y : D) : D :=
  match x, y with
  | .v (.int k a), .v (.int k' a') => if k = k' then .v (.int k (cond b a a')) else cond b x y
  | .v (.bool a), .v (.bool a') => .v (.bool (cond b a a'))
  | .v (.string a), .v (.string a') => .v (.string (cond b a a'))
  | .ints k a, .ints k' a' => if k = k' then .ints k (cond b a a') else cond b x y
  | .recs es n f, .recs es' n' g => cond (Nat.beq es es') (.recs es (cond b n n') (fun i j => cond b (f i j) (g i j))) (cond b x y)
  | x, y => cond b x y
theorem mergeD_eq (b : Bool) (x y : D) : mergeD b x y = cond b x y := by
  unfold mergeD
  split
  · split
    · rename_i e; subst e; cases b <;> rfl
    · rfl
  · cases b <;> rfl
  · cases b <;> rfl
  · split
    · rename_i e; subst e; cases b <;> rfl
    · rfl
  · rename_i es n f es' n' g
    cases hb : Nat.beq es es' with
    | false => rfl
    | true => obtain rfl := Nat.eq_of_beq_eq_true hb; cases b <;> rfl
  · rfl
def setRecM (f : Nat → Nat → D) (i o : Nat) (ds : List D) : Nat → Nat → D := fun i' j' =>
  cond (Nat.ble o j' && Nat.blt j' (o + ds.length)) (mergeD (Nat.beq i' i) (ds.getD (j' - o) (f i' j')) (f i' j')) (f i' j')
theorem setRecM_eq (f : Nat → Nat → D) (i o : Nat) (ds : List D) : setRecM f i o ds = setRec f i o ds := by
  funext i' j'
  unfold setRecM setRec
  rw [mergeD_eq]
  cases Nat.beq i' i <;> cases Nat.ble o j' <;> cases Nat.blt j' (o + ds.length) <;> rfl

def storeL (P : Program) (T : Nat) (t s : SV) (h : List (Nat × R)) (nx : Nat) (k : List (Nat × R) → Nat → Prop) : Prop :=
  match t with
  | .p n o => match hfind h n, kindT P T, cellsS s with
    | some (.blk T' l), some (_, sz), some cs => cond (Nat.beq cs.length sz && Nat.ble (o + sz) l.length && cs.all oneS) (k ((n, .blk T' (splice l o cs)) :: h) nx) False
    | _, _, _ => False
  | .e n es i o => match hfind h n, kindT P T with
    | some (.own T' (.ints kk xs)), some (_, sz) => match cellsS s with
      | some [c] => match intOf1 c with
        | some (k', z) => cond (Nat.beq sz 1 && Nat.beq es 1 && Nat.beq o 0) (kk = k' ∧ k ((n, .own T' (.ints kk (xs.set i z))) :: h) nx) False
        | none => False
      | _ => False
    | some (.own T' (.recs es' m f)), some (_, sz) => match cellsS s with
      | some cs => match dsOf P T (freezeL h cs) cs with
        | some ds => cond (Nat.beq cs.length sz && Nat.beq es es' && Nat.ble (o + sz) es && nodead n (freezeL h cs) T') (k ((n, .own T' (.recs es' m (setRecM f i o ds))) :: freezeL h cs) nx) False
        | none => False
      | none => False
    | _, _ => False
  | .px S i b o => match kindT P T, cellsS s with
    | some (_, sz), some cs => match dsOf P T (freezeL h cs) cs, pfind (freezeL h cs) S (freezeL h cs) with
      | some ds, some (q, T', m, bs, len, f) => cond (Nat.beq cs.length sz && Nat.ble (o + sz) m) (bs[i]? = some b ∧ k ((q, .pown T' S m bs len (setRecM f i o ds)) :: freezeL h cs) nx) False
      | _, _ => False
    | _, _ => False
  | .q n => match hfind h n, kindT P T, s with
    | some (.own T' (.ints kk xs)), some (_, sz), .arr kk' ys => (kk = kk' ∧ sz = ys.length ∧ xs.length = ys.length) ∧ k ((n, .own T' (.ints kk' ys)) :: h) nx
    | _, _, _ => False
  | _ => False
where
  nodead (n : Nat) (h : List (Nat × R)) (T' : Nat) : Bool :=
    match hfind h n with
    | some (.own T _) => Nat.beq T T'
    | _ => false

def srcD (P : Program) (e xT : Nat) (x : SV) (h : List (Nat × R)) : Option (Prop × D) :=
  match P.underlying xT, x with
  | some (.slice _), .a m => match arrOf h m with
    | some d => some (True, d)
    | none => none
  | some .string, .c (.string s) => match P.underlying e with
    | some (.int .u8) => some (True, .ints .u8 (s.data.toList.map fun b => (b.toNat : Int)))
    | _ => none
  | some (.int _), .c (.int _ z) => match P.underlying e with
    | some (.int k) => match P.info? e with
      | some i => match i.zero with
        | some (.int k' 0) => some (0 ≤ z ∧ z ≤ 9223372036854775807 ∧ z.toNat * i.bytes ≤ 281474976710656 ∧ k' = k, .ints k (List.replicate z.toNat 0))
        | _ => none
      | none => none
    | _ => none
  | _, _ => none

def appendL (P : Program) (sT xT : Nat) (s x : SV) (h : List (Nat × R)) (nx : Nat) (k : HK) : Prop :=
  match P.underlying sT with
  | some (.slice e) => match P.info? e with
    | some i => match i.zero with
      | some z => cond (Nat.beq z.cells.size i.size && Nat.blt 0 i.size && Nat.blt 0 i.bytes)
        (match s, x with
        | .nil, .nil => cond (isSl P xT) (k .nil h nx) False
        | .a n, .nil => match arrOf h n with
          | some _ => cond (isSl P xT) (k (.a n) h nx) False
          | none => False
        | .nil, _ => match srcD P e xT x h with
          | some (c, d) => cond (Nat.beq d.es i.size) (c ∧ d.len * i.bytes ≤ 140737488355328 ∧ k (.a nx) ((nx, .own e d) :: h) (nx + 1)) False
          | none => False
        | .a n, _ => match hfind h n with
          | some (.own T d) => match srcD P e xT x h with
            | some (c, d') => match D.app d d' with
              | some r => cond (Nat.beq T e && Nat.beq d.es i.size && notSame n x) (c ∧ (d.len + d'.len) * i.bytes ≤ 140737488355328 ∧ k (.a nx) ((nx, .own e r) :: (n, .dead) :: h) (nx + 1)) False
              | none => False
            | none => False
          | _ => False
        | _, _ => False) False
      | none => False
    | none => False
  | _ => False
where
  isSl (P : Program) (T : Nat) : Bool :=
    match P.underlying T with
    | some (.slice _) => true
    | _ => false
  notSame (n : Nat) (x : SV) : Bool :=
    match x with
    | .a m => !Nat.beq n m
    | _ => true

def appendP (P : Program) (sT xT n q1 : Nat) (h : List (Nat × R)) (nx : Nat) (k : HK) : Prop :=
  match pownOf h n, hfind h q1, P.underlying sT, P.underlying xT with
  | some (T, S, m, bs, len, f), some (.blk _ [.p q2 0]), some (.slice e), some (.slice _) => match hfind h q2, P.info? e with
    | some (.blk S' l), some i => match i.zero, dsOf P S (freezeL h l) l with
      | some z, some ds => cond (Nat.beq T e && Nat.beq S S' && Nat.beq m l.length && Nat.beq i.size 1 && Nat.beq z.cells.size 1 && Nat.blt 0 i.bytes && !Nat.beq n q2)
        ((len + 1) * i.bytes ≤ 140737488355328 ∧ ∀ b : Nat, k (.a nx) ((nx, .pown T S m (bs ++ [b]) (len + 1) (setRecM f len 0 ds)) :: deads [n, q1, q2] (freezeL h l)) (nx + 1)) False
      | _, _ => False
    | _, _ => False
  | _, _, _, _ => False
def appendX (P : Program) (sT xT : Nat) (s x : SV) (h : List (Nat × R)) (nx : Nat) (k : HK) : Prop :=
  match s, x with
  | .a n, .sl q1 c => match pownOf h n with
    | some _ => cond (Nat.beq c 1) (appendP P sT xT n q1 h nx k) False
    | none => False
  | s, x => appendL P sT xT s x h nx k

def gridD (es : Nat) (ds : List D) : Nat → Nat → D := fun i j => ds.getD (i * es + j) (.v undef)

def placesSl (es : Nat) (i : Nat) : Option (Nat × Nat) := some (i * es, es)

def buildSliceL (P : Program) (sl : Bool) (T len : Nat) (ixs : List Nat) (vs : List SV) (h : List (Nat × R)) (nx : Nat) (k : HK) : Prop :=
  match P.underlying T with
  | some (.slice e) => match P.info? e with
    | some i => match i.zero with
      | some z => cond (Nat.ble (len * i.size) 1000 && Nat.blt 0 i.size && Nat.beq z.cells.size i.size)
        (match fillS (placesSl i.size) (((List.range (len * i.size)).map fun j => liftK1 (z.cells.toList.getD (j % i.size) undef))) (ixs.zip vs) with
        | some cs => match P.underlying e with
          | some (.int kk) => match intsOf kk cs with
            | some zs => cond (Nat.beq i.size 1) (k (.a nx) ((nx, .own e (.ints kk zs)) :: h) (nx + 1)) False
            | none => False
          | some (.pointer _) => cond (Nat.beq i.size 1) (k (.sl nx len) ((nx, .blk e cs) :: h) (nx + 1)) False
          | _ => cond sl (k (.sl nx len) ((nx, .rblk e cs) :: h) (nx + 1)) (match dsOf P e (freezeL h cs) cs with
            | some ds => k (.a nx) ((nx, .own e (.recs i.size len (gridD i.size ds))) :: freezeL h cs) (nx + 1)
            | none => False)
        | none => False) False
      | none => False
    | none => False
  | _ => False

def makeSliceL (P : Program) (T : Nat) (l c : SV) (h : List (Nat × R)) (nx : Nat) (k : HK) : Prop :=
  match P.underlying T, l, c with
  | some (.slice e), .c (.int _ n), .c (.int _ m) => match P.underlying e, P.info? e with
    | some (.int kk), some i => match i.zero with
      | some (.int k' 0) => cond (Nat.beq i.size 1) ((0 ≤ n ∧ n ≤ m ∧ m ≤ 9223372036854775807 ∧ m.toNat * i.bytes ≤ 281474976710656 ∧ kk = k') ∧ k (.a nx) ((nx, .own e (.ints kk (List.replicate n.toNat 0))) :: h) (nx + 1)) False
      | _ => False
    | _, _ => False
  | _, _, _ => False

def bytesL (P : Program) (src dst : Nat) (x : SV) (h : List (Nat × R)) (nx : Nat) (k : HK) : Prop :=
  match P.underlying src, P.underlying dst, x with
  | some .string, some (.slice e), .c (.string s) => match P.underlying e with
    | some (.int .u8) => k (.a nx) ((nx, .ro (.ints .u8 (s.data.toList.map fun b => (b.toNat : Int)))) :: h) (nx + 1)
    | _ => False
  | _, _, _ => False

def convX (P : Program) (src dst : Nat) (x : SV) (h : List (Nat × R)) (nx : Nat) (k : HK) : Prop :=
  match x with
  | .a n => match hfind h n, P.underlying src with
    | some (.own _ (.ints kk xs)), some (.slice e) => match P.underlying e with
      | some (.int .u8) => cond (Nat.beq src dst) (0 < xs.length ∧ k (.a n) ((n, .ro (.ints kk xs)) :: h) nx) False
      | _ => False
    | _, _ => False
  | s => bytesL P src dst s h nx k

def emptyCol (P : Program) (t : Nat) : Option Col :=
  match P.underlying t with
  | some (.int kk) => some (.ints kk [])
  | some .bool => some (.bools [])
  | some .string => some (.strs [])
  | _ => none
def isPtrT (P : Program) (T : Nat) : Bool :=
  match P.underlying T with
  | some (.pointer _) => true
  | _ => false
def makeMapL (P : Program) (T : Nat) (r : List SV) (h : List (Nat × R)) (nx : Nat) (k : HK) : Prop :=
  match P.underlying T, r with
  | some (.map kt vt), [] => match emptyCol P kt, emptyCol P vt with
    | some ks, some vs => k (.m nx) ((nx, .map ks vs) :: h) (nx + 1)
    | some ks, none => match isPtrT P vt, zeroA P vt with
      | true, _ => k (.m nx) ((nx, .mapS ks [] [] 0) :: h) (nx + 1)
      | false, some zs => k (.m nx) ((nx, .mapR ks zs.length (fun _ _ => .v undef)) :: h) (nx + 1)
      | false, none => False
    | _, _ => False
  | _, _ => False

def Col.putV (vs : Col) (o : Option Nat) (v : Value) : Option Col :=
  match vs, v with
  | .ints k m, .int k' z => if k = k' then some (.ints k (mputV m o z)) else none
  | .bools m, .bool z => some (.bools (mputV m o z))
  | .strs m, .string z => some (.strs (mputV m o z))
  | _, _ => none
def Col.putK (ks : Col) (o : Option Nat) (v : Value) : Option Col :=
  match ks, v with
  | .ints k m, .int k' z => if k = k' then some (.ints k (mputK m o z)) else none
  | .bools m, .bool z => some (.bools (mputK m o z))
  | .strs m, .string z => some (.strs (mputK m o z))
  | _, _ => none
def Col.del (c : Col) (o : Option Nat) : Col :=
  match c with
  | .ints k m => .ints k (mdel m o)
  | .bools m => .bools (mdel m o)
  | .strs m => .strs (mdel m o)

def mapUpdateL (P : Program) (T : Nat) (x y z : SV) (h : List (Nat × R)) (nx : Nat) (k : List (Nat × R) → Nat → Prop) : Prop :=
  match P.underlying T, x, scal y, scal z with
  | some (.map kt _), .m n, some key, some val => match hfind h n with
    | some (.map ks vs) => match ks.idx key with
      | some o => match ks.putK o key, vs.putV o val with
        | some ks', some vs' => cond (keyKind P kt ks) (k ((n, .map ks' vs') :: h) nx) False
        | _, _ => False
      | none => False
    | _ => False
  | _, _, _, _ => False

def mapEOf (h : List (Nat × R)) (n : Nat) : Option (Col × Col × List (Nat × Int)) :=
  match hfind h n with
  | some (.map ks vs) => some (ks, vs, [])
  | some (.mapE ks vs st) => some (ks, vs, st)
  | _ => none

def mapEntryL (P : Program) (T : Nat) (x y : SV) (h : List (Nat × R)) (nx : Nat) (k : HK) : Prop :=
  match P.underlying T, x, scal y with
  | some (.map kt _), .m n, some key => match mapEOf h n with
    | some (ks, vs, st) => match ks.idx key with
      | some o => cond (keyKind P kt ks) (o.isSome = true ∧ ∀ (j : Nat) (z : Int), o = some j → k (.tup [.c (vs.getAt (some j)), .c (.int .i64 z)]) ((n, .mapE ks vs ((j, z) :: st)) :: h) nx) False
      | none => False
    | none => False
  | _, _, _ => False

def dropN (z : Int) : List (Nat × Int) → List (Nat × Int) → (Nat → List (Nat × Int) → Prop) → Prop
  | _, [], _ => False
  | u, p :: l, k => (z = p.2 ∧ k p.1 (u ++ l)) ∨ dropN z (u ++ [p]) l k

def mapER (ks vs : Col) : List (Nat × Int) → R
  | [] => .map ks vs
  | st => .mapE ks vs st

def entryStoreL (x y z : SV) (h : List (Nat × R)) (nx : Nat) (k : List (Nat × R) → Nat → Prop) : Prop :=
  match x, intOf1 y, scal z with
  | .m n, some (_, s), some val => match hfind h n with
    | some (.mapE ks vs st) => dropN s [] st fun j st' => match vs.putV (some j) val with
      | some vs' => k ((n, mapER ks vs' st') :: h) nx
      | none => False
    | _ => False
  | _, _, _ => False

def deleteL (P : Program) (T : Nat) (x y : SV) (h : List (Nat × R)) (nx : Nat) (k : HK) : Prop :=
  match P.underlying T, x, scal y with
  | some (.map kt _), .m n, some key => match hfind h n with
    | some (.map ks vs) => match ks.idx key with
      | some o => cond (keyKind P kt ks) (k (.tup []) ((n, .map (ks.del o) (vs.del o)) :: h) nx) False
      | none => False
    | _ => False
  | _, _, _ => False

def putR (f : Nat → Nat → D) (i : Nat) (ds : List D) : Nat → Nat → D := fun i' j => cond (Nat.beq i' i) (ds.getD j (.v undef)) (f i' j)
def delR (f : Nat → Nat → D) (o : Option Nat) : Nat → Nat → D :=
  match o with
  | none => f
  | some j => fun i => f (cond (Nat.blt i j) i (i + 1))
def aggOf : SV → Option (List SV)
  | .agg l => some l
  | _ => none
def mapUpdateX (P : Program) (T : Nat) (x y z : SV) (h : List (Nat × R)) (nx : Nat) (k : List (Nat × R) → Nat → Prop) : Prop :=
  match aggOf z with
  | some l => match P.underlying T, mapROf (freezeL h l) x, scal y with
    | some (.map kt vt), some (n, ks, m, f), some key => match ks.idx key, dsOf P vt (freezeL h l) l with
      | some o, some ds => match ks.putK o key with
        | some ks' => cond (keyKind P kt ks && Nat.beq ds.length m) (k ((n, .mapR ks' m (putR f (o.getD ks.len) ds)) :: freezeL h l) nx) False
        | none => False
      | _, _ => False
    | _, _, _ => False
  | none => mapUpdateL P T x y z h nx k
def putSV (l : List SV) (o : Option Nat) (z : SV) : List SV :=
  match o with
  | none => l ++ [z]
  | some j => l.set j z
def mapUpdateS (P : Program) (T n : Nat) (ks : Col) (l : List SV) (bn : List Nat) (c : Nat) (y z : SV) (h : List (Nat × R)) (nx : Nat) (k : List (Nat × R) → Nat → Prop) : Prop :=
  match P.underlying T, scal y with
  | some (.map kt _), some key => match ks.idx key with
    | some o => match ks.putK o key with
      | some ks' => cond (keyKind P kt ks) (k ((n, .mapS ks' (putSV l o z) (cond o.isSome bn (bn ++ [c])) (cond o.isSome c (c + 1))) :: h) nx) False
      | none => False
    | none => False
  | _, _ => False
def mapUpdateY (P : Program) (T : Nat) (x y z : SV) (h : List (Nat × R)) (nx : Nat) (k : List (Nat × R) → Nat → Prop) : Prop :=
  match mapSOf h x with
  | some (n, ks, l, bn, c) => mapUpdateS P T n ks l bn c y z h nx k
  | none => mapUpdateX P T x y z h nx k
def deleteX (P : Program) (T : Nat) (x y : SV) (h : List (Nat × R)) (nx : Nat) (k : HK) : Prop :=
  match mapROf h x with
  | some (n, ks, m, f) => match P.underlying T, scal y with
    | some (.map kt _), some key => match ks.idx key with
      | some o => cond (keyKind P kt ks) (k (.tup []) ((n, .mapR (ks.del o) m (delR f o)) :: h) nx) False
      | none => False
    | _, _ => False
  | none => deleteL P T x y h nx k

def copyL (P : Program) (dT : Nat) (s t : SV) (h : List (Nat × R)) (nx : Nat) (k : HK) : Prop :=
  match P.underlying dT, s, t with
  | some (.slice e), .vw n l, .a m => match hfind h n, arrOf h m, P.info? e with
    | some (.own T (.ints kk xs)), some (.ints kk' ys), some i => cond (Nat.beq i.size 1) ((kk = kk' ∧ l + ys.length ≤ xs.length ∧ 0 < ys.length) ∧ k (.c (.int .i64 (ys.length : Int))) ((n, .own T (.ints kk (xs.take l ++ (ys ++ xs.drop (l + ys.length))))) :: h) nx) False
    | _, _, _ => False
  | _, _, _ => False

def rangeL (P : Program) (T : Nat) (x : SV) (h : List (Nat × R)) (nx : Nat) (k : HK) : Prop :=
  match P.underlying T, mapSOf h x with
  | some (.map _ _), some (n, _, _, _, c) => k (.p nx 0) ((nx, .mit n c [] c) :: h) (nx + 1)
  | _, _ => False
def seenB (seen : List Nat) (b : Nat) : Bool := seen.any (Nat.beq b)
def nextAll (ks : Col) (seen : List Nat) (k : Value → SV → Nat → Prop) : Nat → List SV → List Nat → Prop
  | i, s :: l, b :: bn => sw (seenB seen b) True (match ks.get? i with | some v => k v s b | none => False) ∧ nextAll ks seen k (i + 1) l bn
  | _, _, [] => True
  | _, [], _ :: _ => False
def nextL (x : SV) (h : List (Nat × R)) (nx : Nat) (k : HK) : Prop :=
  match x with
  | .p m o => match hfind h m with
    | some (.mit n since seen last) => match hfind h n with
      | some (.mapS ks l bn c) => cond (Nat.beq o 0 && bn.all (fun b => Nat.blt b since) && bn.all (fun b => Nat.blt b last))
        (sw (bn.all (seenB seen)) (k (.tup [.b false]) h nx) True ∧ nextAll ks seen (fun v s b => k (.tup [.b true, .c v, s]) ((m, .mit n since (b :: seen) c) :: h) nx) 0 l bn) False
      | _ => False
    | _ => False
  | _ => False

def atB : List Nat → Nat → Nat → Option Nat
  | [], _, _ => none
  | b :: bn, s, i => cond (Nat.beq b s) (some i) (atB bn s (i + 1))
def entryL (x : SV) (h : List (Nat × R)) (nx : Nat) (k : HK) : Prop :=
  match x with
  | .p m o => match hfind h m with
    | some (.mit n _ seen last) => match hfind h n, seen.head? with
      | some (.mapS ks l bn c), some st => match atB bn st 0 with
        | some j => match ks.get? j, l[j]? with
          | some v, some s => cond (Nat.beq o 0 && Nat.beq c last) (k (.tup [.c v, s]) h nx) False
          | _, _ => False
        | none => False
      | _, _ => False
    | _ => False
  | _ => False

def q3 (vs : List SV) (k : SV → SV → SV → Prop) : Prop := match vs with | [s, t, u] => k s t u | _ => False

structure CE where
  c : Nat → Option Ctr
  j : Nat → List SV → List (Nat × R) → Nat → HK → Prop
instance : CoeFun CE (fun _ => Nat → Option Ctr) := ⟨CE.c⟩

def methF (P : Program) (T : Nat) (m : String) : Option Nat :=
  match P.info? T with
  | some i => match i.methods.find? (·.name == m), P.underlying T with
    | some r, some (.pointer _) => match r.path.toList, r.func with
      | [], some (f, true) => some f
      | _, _ => none
    | _, _ => none
  | none => none

def slF (C : CE) (T : Nat) : Bool := match C.c 5 with
  | some c => match c.gl with
    | [(t, 0, _, [])] => Nat.beq t T
    | _ => false
  | none => false

def stepL (P : Program) (C : CE) (op : Op) (vs : List SV) (h : List (Nat × R)) (nx : Nat) (k : HK) : Prop :=
  match op with
  | .alloc T => allocL P T h nx k
  | .box T _ => q1 vs fun s => boxL T s h nx k
  | .store T _ _ => q2 vs fun t s => storeL P T t s h nx (k .unk)
  | .buildSlice T len parts => buildSliceL P (slF C T) T len (parts.toList.map (·.1)) vs h nx k
  | .makeSlice T _ _ => q2 vs fun l c => makeSliceL P T l c h nx k
  | .convert src dst _ => q1 vs fun s => convX P src dst s h nx k
  | .makeMap T _ => makeMapL P T vs h nx k
  | .mapUpdate T _ _ _ => q3 vs fun x y z => mapUpdateY P T x y z h nx (k .unk)
  | .insert T _ _ _ => q3 vs fun x y z => mapUpdateY P T x y z h nx (k .unk)
  | .mapEntry T _ _ => q2 vs fun x y => mapEntryL P T x y h nx k
  | .range T _ => q1 vs fun x => rangeL P T x h nx k
  | .next _ s => q1 vs fun x => cond s False (nextL x h nx k)
  | .entry _ => q1 vs fun x => entryL x h nx k
  | .entryStore _ _ _ _ => q3 vs fun x y z => entryStoreL x y z h nx (k .unk)
  | .call c => match c.callee, vs with
    | .builtin .delete, _ => match c.argTypes.toList with
      | T :: _ => q2 vs fun x y => deleteX P T x y h nx k
      | _ => False
    | .builtin .copy, _ => match c.argTypes.toList with
      | dT :: _ => q2 vs fun s t => copyL P dT s t h nx k
      | _ => False
    | .builtin .append, _ => match c.argTypes.toList with
      | [sT, xT] => q2 vs fun s x => appendX P sT xT s x h nx k
      | _ => False
    | .value _, .f f nf caps :: args => match C f with
      | some ct => callX P (paramsOf P f) ct (caps.take nf ++ (args ++ caps.drop nf)) h nx k
      | none => C.j f (caps.take nf ++ (args ++ caps.drop nf)) h nx k
    | .invoke _ m, .i T s :: args => match methF P T m with
      | some f => match C f with
        | some ct => callX P (paramsOf P f) ct (s :: args) h nx k
        | none => C.j f (s :: args) h nx k
      | none => False
    | _, _ => False
  | _ => False
end Go.Z
