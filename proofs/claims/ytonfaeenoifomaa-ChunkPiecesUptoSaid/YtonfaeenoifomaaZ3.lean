/- Operations that only read: what they yield, symbolically; that they do. -/
import Derived.Test.YtonfaeenoifomaaZ2
namespace Go.Z
open Go.RowKit

/-! Types, as the program's tables have them -/

/-- (is it a struct or an array?, how many cells) -/
def kindT (P : Program) (T : Nat) : Option (Bool × Nat) :=
  match P.underlying T, P.info? T with
  | some (.struct _), some i => some (true, i.size)
  | some (.array _ _), some i => some (true, i.size)
  | some _, some i => some (false, i.size)
  | _, _ => none

theorem run_typeInfo {P : Program} {T : Nat} {i : TypeInfo} (h : P.info? T = some i) (w : World) : (typeInfo T).run P w = .ok i w := by
  simp [typeInfo, h]
theorem run_sizeOf {P : Program} {T : Nat} {i : TypeInfo} (h : P.info? T = some i) (w : World) : (sizeOf T).run P w = .ok i.size w := by
  simp [sizeOf, run_typeInfo h]

theorem run_kind {P : Program} {T : Nat} {g : Bool} {s : Nat} (h : kindT P T = some (g, s)) (w : World) :
    (isAgg T).run P w = .ok g w ∧ (sizeOf T).run P w = .ok s w := by
  unfold kindT at h
  split at h <;> cases h
  all_goals
    rename_i hu hi
    refine ⟨?_, run_sizeOf hi w⟩
    simp only [isAgg, Sem.run_bind, run_underlying hu, Result.andThen]
  · rfl
  · rfl
  · rename_i u _ h1 h2
    cases u <;> first | rfl | (exact absurd rfl (h1 _ ‹_›)) | (exact absurd rfl (h2 _ _ ‹_›)) | (exact (h1 _ hu).elim) | (exact (h2 _ _ hu).elim)

/-- A program constant, as far as it is known by looking. -/
def liftK1 : Value → SV
  | .bool b => .b b
  | .slice none 0 0 => .nil
  | v => .c v
def liftK : Value → SV
  | .agg cs => .agg (cs.toList.map liftK1)
  | v => liftK1 v

theorem V_liftK1 (θ : Th) (v : Value) : V θ (liftK1 v) v := by
  unfold liftK1; split <;> simp [V]
theorem VL_liftK1 (θ : Th) : ∀ l : List Value, VL θ (l.map liftK1) l
  | [] => by simp [VL]
  | v :: l => by simp only [List.map_cons, VL]; exact ⟨V_liftK1 θ v, VL_liftK1 θ l⟩
theorem V_liftK (θ : Th) (v : Value) : V θ (liftK v) v := by
  unfold liftK; split
  · rename_i cs
    simp only [V]
    exact ⟨cs.toList, by simp, VL_liftK1 θ _⟩
  · exact V_liftK1 θ _

def get (env : List (Nat × SV)) : Operand → Option SV
  | .tmp t => efind env t
  | .const v => some (liftK v)
  | .func f => some (.f f 0 [])
  | .global _ => none

theorem V_get {K : Ctx} {θ : Th} {env : List (Nat × SV)} {a : Act} (h : SatE K θ env a) (x : Operand) (s : SV) (hx : get env x = some s) : V θ s (a.eval x) := by
  cases x with
  | tmp t => exact h.eval hx
  | const v => simp [get] at hx; subst hx; exact V_liftK θ v
  | func f => simp [get] at hx; subst hx; simp only [V]; exact ⟨[], rfl, by simp [VL]⟩
  | global n => simp [get] at hx

/-! Scalars -/
def scal : SV → Option Value
  | .b t => some (.bool t)
  | .c v => some v
  | _ => none

theorem V_scal {θ : Th} {s : SV} {v u : Value} (h : scal s = some u) (hv : V θ s v) : v = u := by
  cases s <;> simp [scal] at h
  · subst h; simpa [V] using hv
  · subst h; simpa [V] using hv

def shlI (k : IntKind) (a b : Int) : Int := k.wrap (a * 2 ^ (min b.toNat k.bits))
def shrI (k : IntKind) (a b : Int) : Int := a.fdiv (2 ^ (min b.toNat k.bits))

/-- An operator on scalars: what must hold, and what comes out. -/
def binV (P : Program) (op : BinOp) (T : Nat) : Value → Value → Option (Prop × Value)
  | .int k a, .int k' b =>
    match op with
    | .shl => some (0 ≤ b, .int k (shlI k a b))
    | .shr => some (0 ≤ b, .int k (shrI k a b))
    | _ => if k = k' then
      match op with
      | .add => some (True, .int k (k.wrap (a + b)))
      | .sub => some (True, .int k (k.wrap (a - b)))
      | .mul => some (True, .int k (k.wrap (a * b)))
      | .quo => some (b ≠ 0, .int k (k.wrap (a.tdiv b)))
      | .rem => some (b ≠ 0, .int k (a.tmod b))
      | .and => some (True, .int k (bits .and k a b))
      | .or => some (True, .int k (bits .or k a b))
      | .xor => some (True, .int k (bits .xor k a b))
      | .andNot => some (True, .int k (bits .andNot k a b))
      | .eql => some (True, .bool (decide (a = b)))
      | .neq => some (True, .bool (!decide (a = b)))
      | .lss => some (True, .bool (decide (a < b)))
      | .leq => some (True, .bool (decide (a ≤ b)))
      | .gtr => some (True, .bool (decide (b < a)))
      | .geq => some (True, .bool (decide (b ≤ a)))
      | _ => none
      else none
  | .bool a, .bool b =>
    match op, P.underlying T with
    | .eql, some .bool => some (True, .bool (a == b))
    | .neq, some .bool => some (True, .bool (!(a == b)))
    | _, _ => none
  | .string a, .string b =>
    match op with
    | .add => some (((a.size + b.size : Nat) : Int) ≤ 9223372036854775807, .string (a ++ b))
    | .eql => some (True, .bool (decide (a.data.toList = b.data.toList)))
    | .neq => some (True, .bool (!decide (a.data.toList = b.data.toList)))
    | .lss => some (True, .bool (Op.bytesLess a.data.toList b.data.toList))
    | .gtr => some (True, .bool (!(Op.bytesLess a.data.toList b.data.toList || decide (a.data.toList = b.data.toList))))
    | .leq => some (True, .bool (Op.bytesLess a.data.toList b.data.toList || decide (a.data.toList = b.data.toList)))
    | .geq => some (True, .bool (!Op.bytesLess a.data.toList b.data.toList))
    | _ => none
  | _, _ => none

theorem binV_sound {P : Program} {op : BinOp} {T : Nat} {x y : Value} {c : Prop} {v : Value} (h : binV P op T x y = some (c, v)) (hc : c) (ox oy : Operand) (w : World) :
    (do eqGuard op T ox oy x y; binOp op T x y : Sem Value).run P w = .ok v w := by
  cases x <;> cases y <;> simp only [binV] at h <;> try (cases h; done)
  case int.int k a k' b =>
    cases op <;> simp only at h <;> (try split at h) <;> cases h <;> (try subst_vars) <;>
      simp [eqGuard, binOp, Op.intArith, Op.intDiv, intBits_and, intBits_or, intBits_xor, intBits_andNot, Op.intCmp, Op.shift, shlI, shrI, *]
    all_goals first
      | (intro hb; omega)
      | (rw [Bool.eq_iff_iff]; simp)
  case bool.bool a b =>
    split at h <;> cases h <;> rename_i hu
    · simp [eqGuard, run_eql_bool w T a b hu]
    · simp [eqGuard, run_neq_bool w T a b hu]
  case string.string a b =>
    cases op <;> simp only at h <;> cases h <;>
      simp [eqGuard, binOp, Op.stringOp, ByteArray.toList_eq]
    all_goals first
      | omega
      | (rw [Bool.eq_iff_iff]; simp)

/-! Addresses, loads -/
theorem add_mk (b o n : Nat) : Addr.add ⟨b, o, none⟩ n = ⟨b, o + n, none⟩ := Addr.add_lit b o n

/-- A variable of type T, in cells l from o on. -/
def ldBlk (P : Program) (T : Nat) (l : List SV) (o : Nat) : Option SV :=
  match kindT P T with
  | some (true, s) => cond (Nat.ble (o + s) l.length) (some (.agg ((l.drop o).take s))) none
  | some (false, _) => l[o]?
  | none => none

theorem run_loadVar_agg {P : Program} {T s : Nat} (h : kindT P T = some (true, s)) (w : World) (b o : Nat) (vs : List Value) (hl : vs.length = s)
    (hc : ∀ j v, vs[j]? = some v → w.cell? ⟨b, o + j, none⟩ = some v) : (loadVar T ⟨b, o, none⟩).run P w = .ok (.agg vs.toArray) w := by
  obtain ⟨h1, h2⟩ := run_kind h w
  have h3 := run_loadCells_list (P := P) w ⟨b, o, none⟩ vs (fun j v hv => by rw [add_mk]; exact hc j v hv)
  rw [hl] at h3
  simp [loadVar, h1, h2, h3]

theorem run_loadVar_one {P : Program} {T s : Nat} (h : kindT P T = some (false, s)) (w : World) (b o : Nat) (v : Value)
    (hc : w.cell? ⟨b, o, none⟩ = some v) : (loadVar T ⟨b, o, none⟩).run P w = .ok v w := by
  obtain ⟨h1, h2⟩ := run_kind h w
  simp [loadVar, h1, hc]

theorem cell_of_cells {w : World} {b T : Nat} {cs : List Value} {fz : Nat × Nat} (h : w.heap[b]? = some (.cells cs.toArray T fz)) (o : Nat) : w.cell? ⟨b, o, none⟩ = cs[o]? := by
  simp [World.cell?, h]

/-- Of n things, one behind the other. -/
def instN (g : Nat → List (Nat × R) → Nat → (SV → List (Nat × R) → Nat → Prop) → Prop) : Nat → Nat → List (Nat × R) → Nat → (List SV → List (Nat × R) → Nat → Prop) → Prop
  | 0, _, h, nx, k => k [] h nx
  | n + 1, i, h, nx, k => g i h nx fun s h' nx' => instN g n (i + 1) h' nx' fun ss h'' nx'' => k (s :: ss) h'' nx''

/-- A cell's data, as a symbolic value: what lies in memory gets a name of its own. -/
def instD : D → List (Nat × R) → Nat → (SV → List (Nat × R) → Nat → Prop) → Prop
  | .v x, h, nx, k => k (.c x) h nx
  | .ints kk xs, h, nx, k => k (.a nx) ((nx, .ro (.ints kk xs)) :: h) (nx + 1)
  | .recs es n f, h, nx, k => k (.a nx) ((nx, .ro (.recs es n f)) :: h) (nx + 1)
  | .ptr T n f, h, nx, k => instN (fun i => instD (f i)) n 0 h nx fun ss h' nx' => k (.p nx' 0) ((nx', .rblk T ss) :: h') (nx' + 1)
  | .fn g m n f, h, nx, k => instN (fun i => instD (f i)) n 0 h nx fun ss h' nx' => k (.f g m ss) h' nx'
  | .map ks vs, h, nx, k => k (.m nx) ((nx, .rmap ks vs) :: h) (nx + 1)

def instL : List D → List (Nat × R) → Nat → (List SV → List (Nat × R) → Nat → Prop) → Prop
  | [], h, nx, k => k [] h nx
  | d :: l, h, nx, k => instD d h nx fun s h' nx' => instL l h' nx' fun ss h'' nx'' => k (s :: ss) h'' nx''

/-- What a step that only reads may do to the state: names are added; arrays may be frozen. -/
structure Grows (K : Ctx) (θ θ' : Th) (nx nx' : Nat) (h' : List (Nat × R)) (w : World) : Prop where
  sat : SatH K θ' h' nx' w
  ext : θ.ext θ'
  le : nx ≤ nx'
  agree : ∀ n, n < nx → θ' n = θ n

theorem Grows.refl {K : Ctx} {θ : Th} {h : List (Nat × R)} {nx : Nat} {w : World} (hs : SatH K θ h nx w) : Grows K θ θ nx nx h w := ⟨hs, Th.ext_refl _, Nat.le_refl _, fun _ _ => rfl⟩

theorem Grows.trans {K : Ctx} {θ θ' θ'' : Th} {h' h'' : List (Nat × R)} {nx nx' nx'' : Nat} {w : World} (a : Grows K θ θ' nx nx' h' w) (b : Grows K θ' θ'' nx' nx'' h'' w) : Grows K θ θ'' nx nx'' h'' w :=
  ⟨b.sat, Th.ext_trans a.ext b.ext, Nat.le_trans a.le b.le, fun n hn => (b.agree n (Nat.lt_of_lt_of_le hn a.le)).trans (a.agree n hn)⟩

theorem AddsX.grows {K : Ctx} {X : Nat → Prop} {θ θ' : Th} {h h' : List (Nat × R)} {nx nx' : Nat} {w : World} (a : AddsX K X θ θ' h h' nx nx' w) : Grows K θ θ' nx nx' h' w := ⟨a.sat.toH, a.ext, a.le, a.agree⟩
theorem AddsX.free {K : Ctx} {X : Nat → Prop} {θ θ' : Th} {h h' : List (Nat × R)} {nx nx' : Nat} {w : World} (a : AddsX K X θ θ' h h' nx nx' w) (b : Nat) (hb : Free K θ h b) : Free K θ' h' b :=
  ⟨fun n hn => hb.1 n (a.own n b hn), hb.2⟩

theorem Grows.add_ro {K : Ctx} {θ : Th} {h : List (Nat × R)} {nx : Nat} {w : World} (hs : SatH K θ h nx w) {d : D} {L : Loc}
    (hd : d.at (Free K θ h) w L) (hw : L.wf) (hi : L.inn (Free K θ h) w) : Grows K θ (θ.add nx L) nx (nx + 1) ((nx, .ro d) :: h) w :=
  (hs.toX.add_ref (r := .ro d) (fun ho => ho) ⟨hd, hw, hi⟩).grows

section
variable {K : Ctx} {X : Nat → Prop} {w : World}

theorem instN_sound {g : Nat → List (Nat × R) → Nat → (SV → List (Nat × R) → Nat → Prop) → Prop} {p : Nat → Value → Prop}
    (hg : ∀ i {θ : Th} {h : List (Nat × R)} {nx : Nat} {c : Value} {k : SV → List (Nat × R) → Nat → Prop}, SatX K X θ h nx w → p i c → g i h nx k →
      ∃ s h' nx' θ', k s h' nx' ∧ AddsX K X θ θ' h h' nx nx' w ∧ V θ' s c) :
    ∀ (n i : Nat) {cs : List Value} {θ : Th} {h : List (Nat × R)} {nx : Nat} {k : List SV → List (Nat × R) → Nat → Prop}, SatX K X θ h nx w → cs.length = n → (∀ j, j < n → ∃ c, cs[j]? = some c ∧ p (i + j) c) → instN g n i h nx k →
      ∃ ss h' nx' θ', k ss h' nx' ∧ AddsX K X θ θ' h h' nx nx' w ∧ VL θ' ss cs
  | 0, i, cs, θ, h, nx, k, hs, hl, _, hk => by
    have : cs = [] := List.eq_nil_of_length_eq_zero hl
    subst this
    exact ⟨[], h, nx, θ, hk, .refl hs, by simp [VL]⟩
  | n + 1, i, cs, θ, h, nx, k, hs, hl, hp, hk => by
    cases cs with
    | nil => simp at hl
    | cons c cs =>
      obtain ⟨c', e1, e2⟩ := hp 0 (by omega)
      simp only [List.getElem?_cons_zero, Option.some.injEq] at e1
      subst e1
      obtain ⟨s, h1, nx1, θ1, a1, a2, a3⟩ := hg i hs e2 hk
      obtain ⟨ss, h2, nx2, θ2, b1, b2, b3⟩ := instN_sound hg n (i + 1) a2.sat (by simpa using hl) (fun j hj => by
        obtain ⟨c', e3, e4⟩ := hp (j + 1) (by omega)
        exact ⟨c', by simpa using e3, by rw [show i + 1 + j = i + (j + 1) by omega]; exact e4⟩) a1
      exact ⟨_, h2, nx2, θ2, b1, a2.trans b2, by simp only [VL]; exact ⟨V_mono b2.ext _ _ a3, b3⟩⟩

theorem instD_soundX : ∀ (d : D) {θ : Th} {h : List (Nat × R)} {nx : Nat} {c : Value} {k : SV → List (Nat × R) → Nat → Prop}, SatX K X θ h nx w → d.holds X w c → instD d h nx k →
    ∃ s h' nx' θ', k s h' nx' ∧ AddsX K X θ θ' h h' nx nx' w ∧ V θ' s c := by
  intro d
  induction d with
  | v x => intro θ h nx c k hs hd hk; exact ⟨_, _, _, θ, hk, .refl hs, by simp only [V]; exact hd.1⟩
  | ints kk xs =>
    intro θ h nx c k hs hd hk
    obtain ⟨L, rfl, h1, h2, h3⟩ := D.holds_ints.1 hd
    exact ⟨_, _, _, θ.add nx L, hk, hs.add_ref (r := .ro (.ints kk xs)) (fun ho => ho) ⟨h3, h1, h2⟩, by simp only [V]; exact ⟨L, Th.add_self _ _ _, rfl⟩⟩
  | recs es n f ih =>
    intro θ h nx c k hs hd hk
    obtain ⟨L, rfl, h1, h2, h3⟩ := D.holds_recs.1 hd
    exact ⟨_, _, _, θ.add nx L, hk, hs.add_ref (r := .ro (.recs es n f)) (fun ho => ho) ⟨h3, h1, h2⟩, by simp only [V]; exact ⟨L, Th.add_self _ _ _, rfl⟩⟩
  | ptr T n f ih =>
    intro θ h nx c k hs hd hk
    obtain ⟨b, us, rfl, h2, h3, h4, h5⟩ := hd
    obtain ⟨ss, h1, nx1, θ1, a1, a2, a3⟩ := instN_sound (p := fun i c => (f i).holds X w c) (fun i => ih i) n 0 hs h4 (fun j hj => by rw [Nat.zero_add]; exact h5 j hj) hk
    have hadd := a2.sat.add_ref (r := .rblk T ss) (L := ⟨some ⟨b, 0, none⟩, 0, 0⟩) (fun ho => ho) ⟨us, rfl, h2, h3, a3⟩
    refine ⟨_, _, _, _, a1, a2.trans hadd, ?_⟩
    simp only [V]
    exact ⟨_, Th.add_self _ _ _, rfl⟩
  | fn g m n f ih =>
    intro θ h nx c k hs hd hk
    obtain ⟨us, rfl, h4, h5⟩ := hd
    obtain ⟨ss, h1, nx1, θ1, a1, a2, a3⟩ := instN_sound (p := fun i c => (f i).holds X w c) (fun i => ih i) n 0 hs h4 (fun j hj => by rw [Nat.zero_add]; exact h5 j hj) hk
    exact ⟨_, _, _, _, a1, a2, by simp only [V]; exact ⟨us, rfl, a3⟩⟩
  | map ks vs =>
    intro θ h nx c k hs hd hk
    obtain ⟨b, es, clock, rfl, h2, h3, h4⟩ := hd
    refine ⟨_, _, _, _, hk, hs.add_ref (r := .rmap ks vs) (L := ⟨some ⟨b, 0, none⟩, 0, 0⟩) (fun ho => ho) ⟨rfl, h2, es, clock, h3, h4⟩, ?_⟩
    simp only [V]
    exact ⟨_, Th.add_self _ _ _, rfl⟩
end

def DL.holds (X : Nat → Prop) (w : World) : List D → List Value → Prop
  | [], [] => True
  | d :: l, c :: cs => d.holds X w c ∧ DL.holds X w l cs
  | _, _ => False

theorem DL.holds_mono {X X' : Nat → Prop} {w w' : World} (h : Keeps X X' w w') : ∀ {l : List D} {cs : List Value}, DL.holds X w l cs → DL.holds X' w' l cs
  | [], [], _ => trivial
  | [], _ :: _, h => h.elim
  | _ :: _, [], h => h.elim
  | d :: _, c :: _, hh => ⟨D.holds_mono h d c hh.1, DL.holds_mono h hh.2⟩

theorem instL_soundX {K : Ctx} {X : Nat → Prop} {w : World} : ∀ {l : List D} {θ : Th} {h : List (Nat × R)} {nx : Nat} {cs : List Value}, SatX K X θ h nx w → DL.holds X w l cs →
    ∀ {k : List SV → List (Nat × R) → Nat → Prop}, instL l h nx k → ∃ s h' nx' θ', k s h' nx' ∧ AddsX K X θ θ' h h' nx nx' w ∧ VL θ' s cs
  | [], θ, h, nx, [], hs, _, k, hk => ⟨_, _, _, θ, hk, .refl hs, by simp [VL]⟩
  | [], _, _, _, _ :: _, _, h, _, _ => h.elim
  | _ :: _, _, _, _, [], _, h, _, _ => h.elim
  | d :: l, θ, h, nx, c :: cs, hs, hd, k, hk => by
    obtain ⟨s, h1, nx1, θ1, hk1, g1, v1⟩ := instD_soundX d hs hd.1 hk
    obtain ⟨ss, h2, nx2, θ2, hk2, g2, v2⟩ := instL_soundX g1.sat hd.2 hk1
    exact ⟨_, _, _, θ2, hk2, g1.trans g2, by simp only [VL]; exact ⟨V_mono g2.ext _ _ v1, v2⟩⟩

theorem instD_sound' {K : Ctx} {θ : Th} {h : List (Nat × R)} {nx : Nat} {w : World} (hs : SatH K θ h nx w) {d : D} {c : Value} (hd : d.holds (Free K θ h) w c)
    {k : SV → List (Nat × R) → Nat → Prop} (hk : instD d h nx k) : ∃ s h' nx' θ', k s h' nx' ∧ Grows K θ θ' nx nx' h' w ∧ V θ' s c ∧ (∀ b, Free K θ h b → Free K θ' h' b) := by
  obtain ⟨s, h', nx', θ', a1, a2, a3⟩ := instD_soundX d hs.toX hd hk
  exact ⟨s, h', nx', θ', a1, a2.grows, a3, a2.free⟩

theorem instL_sound {K : Ctx} {w : World} {l : List D} {θ : Th} {h : List (Nat × R)} {nx : Nat} {cs : List Value} (hs : SatH K θ h nx w) (hd : DL.holds (Free K θ h) w l cs)
    {k : List SV → List (Nat × R) → Nat → Prop} (hk : instL l h nx k) : ∃ s h' nx' θ', k s h' nx' ∧ Grows K θ θ' nx nx' h' w ∧ VL θ' s cs ∧ (∀ b, Free K θ h b → Free K θ' h' b) := by
  obtain ⟨s, h', nx', θ', a1, a2, a3⟩ := instL_soundX hs.toX hd hk
  exact ⟨s, h', nx', θ', a1, a2.grows, a3, a2.free⟩

/-- The array behind a name. -/
def arrOf (h : List (Nat × R)) (n : Nat) : Option D :=
  match hfind h n with
  | some (.ro d) => some d
  | some (.own _ d) => some d
  | _ => none

theorem arrOf_sound {K : Ctx} {θ : Th} {h : List (Nat × R)} {nx : Nat} {w : World} (hs : SatH K θ h nx w) {n : Nat} {d : D} (ha : arrOf h n = some d) :
    ∃ L, θ n = some L ∧ d.at (Free K θ h) w L ∧ L.wf := by
  unfold arrOf at ha
  split at ha <;> cases ha
  · rename_i hf
    obtain ⟨L, h1, h2, h3, _⟩ := hs.res n _ hf
    exact ⟨L, h1, h2, h3⟩
  · rename_i hf
    obtain ⟨L, h1, h2, h3, _⟩ := hs.res n _ hf
    exact ⟨L, h1, h2, h3⟩

/-- The s cells from o on of element i. -/
def fieldsD (f : Nat → Nat → D) (i o : Nat) : Nat → List D
  | 0 => []
  | s + 1 => f i o :: fieldsD f i (o + 1) s

def ldArr (P : Program) (T : Nat) (d : D) (es i o : Nat) (h : List (Nat × R)) (nx : Nat) (k : SV → List (Nat × R) → Nat → Prop) : Prop :=
  match kindT P T, d with
  | some (false, _), .ints kk xs => cond (Nat.beq es 1 && Nat.beq o 0) (k (.c (.int kk (xs.getD i 0))) h nx) False
  | some (false, _), .recs es' _ f => cond (Nat.beq es es' && Nat.blt o es) (instD (f i o) h nx k) False
  | some (true, s), .recs es' _ f => cond (Nat.beq es es' && Nat.ble (o + s) es && Nat.blt 0 es) (instL (fieldsD f i o s) h nx fun l => k (.agg l)) False
  | some (true, 1), .ints kk xs => cond (Nat.beq es 1 && Nat.beq o 0) (k (.agg [.c (.int kk (xs.getD i 0))]) h nx) False
  | _, _ => False

theorem nbeq {a b : Nat} (h : Nat.beq a b = true) : a = b := Nat.eq_of_beq_eq_true h
theorem nble {a b : Nat} (h : Nat.ble a b = true) : a ≤ b := Nat.le_of_ble_eq_true h
theorem nblt {a b : Nat} (h : Nat.blt a b = true) : a < b := Nat.le_of_ble_eq_true h
theorem cond_false {c : Bool} {p : Prop} (h : cond c p False) : c = true ∧ p := by
  cases c
  · exact h.elim
  · exact ⟨rfl, h⟩

theorem fieldsD_holds {X : Nat → Prop} {w : World} {b base : Nat} {f : Nat → Nat → D} {i es : Nat}
    (hc : ∀ j, j < es → ∃ c, w.cell? ⟨b, base + j, none⟩ = some c ∧ (f i j).holds X w c) : ∀ (s o : Nat), o + s ≤ es →
      ∃ cs : List Value, cs.length = s ∧ (∀ j v, cs[j]? = some v → w.cell? ⟨b, base + o + j, none⟩ = some v) ∧ DL.holds X w (fieldsD f i o s) cs
  | 0, _, _ => ⟨[], rfl, fun j v h => by simp at h, trivial⟩
  | s + 1, o, h => by
    obtain ⟨c, h1, h2⟩ := hc o (by omega)
    obtain ⟨cs, h3, h4, h5⟩ := fieldsD_holds hc s (o + 1) (by omega)
    refine ⟨c :: cs, by simp [h3], fun j v hv => ?_, h2, h5⟩
    cases j with
    | zero => simp at hv; subst hv; simpa using h1
    | succ j => simp at hv; rw [show base + o + (j + 1) = base + (o + 1) + j by omega]; exact h4 j v hv

theorem ldArr_sound {P : Program} {K : Ctx} {θ : Th} {h : List (Nat × R)} {nx : Nat} {w : World} (hs : SatH K θ h nx w) {n T : Nat} {d : D} {es i o : Nat}
    (ha : arrOf h n = some d) {u : Value} (hu : V θ (.e n es i o) u) {k : SV → List (Nat × R) → Nat → Prop} (hk : ldArr P T d es i o h nx k) :
    ∃ s h' nx' θ' v, k s h' nx' ∧ Grows K θ θ' nx nx' h' w ∧ V θ' s v ∧ ∃ b o', u = .pointer (some ⟨b, o', none⟩) ∧ b < w.heap.size ∧ ∀ w' : World, w'.heap[b]? = w.heap[b]? → (loadVar T ⟨b, o', none⟩).run P w' = .ok v w' := by
  obtain ⟨L, hL, hd, _⟩ := arrOf_sound hs ha
  simp only [V] at hu
  obtain ⟨L', hL', hi, rfl⟩ := hu
  obtain rfl := Option.some.inj (hL.symm.trans hL')
  unfold ldArr at hk
  split at hk
  · rename_i kk xs hT
    obtain ⟨hc, hk1⟩ := cond_false hk
    clear hk
    simp only [Bool.and_eq_true] at hc
    obtain ⟨hc1, hc2⟩ := hc
    obtain rfl := nbeq hc1
    obtain rfl := nbeq hc2
    obtain ⟨h1, h2, h3⟩ := hd
    have hlt : i < xs.length := by omega
    have h4 := h3 i _ (List.getElem?_eq_getElem hlt)
    refine ⟨_, _, _, θ, .int kk (xs.getD i 0), hk1, .refl hs, by simp [V], _, _, rfl, lt_of_cell h4, fun w' hw' => run_loadVar_one hT w' _ _ _ ?_⟩
    rw [cell_eq hw', show L.o + (i * 1 + 0) = L.o + i by omega, h4]
    simp [List.getD, List.getElem?_eq_getElem hlt]
  · rename_i es' n' f hT
    obtain ⟨hc, hk1⟩ := cond_false hk
    clear hk
    simp only [Bool.and_eq_true] at hc
    obtain ⟨hc1, hc2⟩ := hc
    obtain rfl := nbeq hc1
    have ho := nblt hc2
    obtain ⟨h1, h2, h3⟩ := hd
    obtain ⟨c, h4, h5⟩ := h3 i (by omega) o ho
    obtain ⟨s, h', nx', θ', a1, a2, a3, _⟩ := instD_sound' hs h5 hk1
    exact ⟨s, h', nx', θ', c, a1, a2, a3, _, _, rfl, lt_of_cell h4, fun w' hw' => run_loadVar_one hT w' _ _ _ (by rw [cell_eq hw']; exact h4)⟩
  · rename_i s es' n' f hT
    obtain ⟨hc, hk1⟩ := cond_false hk
    clear hk
    simp only [Bool.and_eq_true] at hc
    obtain ⟨⟨hc1, hc2⟩, hc3⟩ := hc
    obtain rfl := nbeq hc1
    have ho := nble hc2
    have he := nblt hc3
    obtain ⟨h1, h2, h3⟩ := hd
    obtain ⟨cs, c1, c2, c3⟩ := fieldsD_holds (X := Free K θ h) (w := w) (b := L.b) (base := L.o + i * es) (f := f) (i := i) (es := es)
      (fun j hj => by rw [show L.o + i * es + j = L.o + (i * es + j) by omega]; exact h3 i (by omega) j hj) s o ho
    obtain ⟨ss, h', nx', θ', a1, a2, a3, _⟩ := instL_sound hs c3 hk1
    refine ⟨.agg ss, h', nx', θ', .agg cs.toArray, a1, a2, by simp only [V]; exact ⟨cs, rfl, a3⟩, _, _, rfl, ?_, fun w' hw' => run_loadVar_agg hT w' _ _ cs c1 fun j v hv => ?_⟩
    · obtain ⟨c, h4, _⟩ := h3 i (by omega) 0 he
      exact lt_of_cell h4
    · rw [cell_eq hw', show L.o + (i * es + o) + j = L.o + i * es + o + j by omega]; exact c2 j v hv
  · rename_i kk xs hT
    obtain ⟨hc, hk1⟩ := cond_false hk
    clear hk
    simp only [Bool.and_eq_true] at hc
    obtain ⟨hc1, hc2⟩ := hc
    obtain rfl := nbeq hc1
    obtain rfl := nbeq hc2
    obtain ⟨h1, h2, h3⟩ := hd
    have hlt : i < xs.length := by omega
    have h4 := h3 i _ (List.getElem?_eq_getElem hlt)
    refine ⟨_, _, _, θ, .agg #[.int kk (xs.getD i 0)], hk1, .refl hs, by simp only [V]; exact ⟨[.int kk (xs.getD i 0)], rfl, by simp [VL, V]⟩, _, _, rfl, lt_of_cell h4,
      fun w' hw' => run_loadVar_agg hT w' _ _ [.int kk (xs.getD i 0)] rfl fun j v hv => ?_⟩
    cases j with
    | zero =>
      simp at hv; subst hv
      rw [cell_eq hw', show L.o + (i * 1 + 0) + 0 = L.o + i by omega, h4]
      simp [List.getElem?_eq_getElem hlt]
    | succ j => simp at hv
  · exact hk.elim
end Go.Z
