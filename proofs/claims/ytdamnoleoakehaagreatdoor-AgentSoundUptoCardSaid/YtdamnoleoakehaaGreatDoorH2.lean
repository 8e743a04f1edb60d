/- Part 2 of what the closing text rests on. -/
import Derived.Test.YtdamnoleoakehaaGreatDoorH1
namespace Go.Z
open Go.RowKit


def kindT (P : Program) (T : Nat) : Option (Bool × Nat) :=
  match P.underlying T, P.info? T with
  | some (.struct _), some i => some (true, i.size)
  | some (.array _ _), some i => some (true, i.size)
  | some _, some i => some (false, i.size)
  | _, _ => none

theorem run_typeInfo {P : Program} {T : Nat} {i : TypeInfo} (h : P.info? T = some i) (w : World) : (typeInfo T).run P w = .ok i w := by
  simp [typeInfo, h]
theorem run_sizeOf {P : Program} {T : Nat} {i : TypeInfo} (h : P.info? T = some i) (w : World) : (sizeOf T).run P w = .ok i.size w := by
  simp [sizeOf, run_typeInfo h]

theorem run_kind {P : Program} {T : Nat} {g : Bool} {s : Nat} (h : kindT P T = some (g, s)) (w : World) :
    (isAgg T).run P w = .ok g w ∧ (sizeOf T).run P w = .ok s w := by
  unfold kindT at h
  split at h <;> cases h
  all_goals
    rename_i hu hi
    refine ⟨?_, run_sizeOf hi w⟩
    simp only [isAgg, Sem.run_bind, run_underlying hu, Result.andThen]
  · rfl
  · rfl
  · rename_i u _ h1 h2
    cases u <;> first | rfl | (exact absurd rfl (h1 _ ‹_›)) | (exact absurd rfl (h2 _ _ ‹_›)) | (exact (h1 _ hu).elim) | (exact (h2 _ _ hu).elim)

def liftK1 : Value → SV
  | .bool b => .b b
  | .slice none 0 0 => .nil
  | v => .c v
def liftK : Value → SV
  | .agg cs => .agg (cs.toList.map liftK1)
  | v => liftK1 v

theorem V_liftK1 (θ : Th) (v : Value) : V θ (liftK1 v) v := by
  unfold liftK1; split <;> simp [V]
theorem VL_liftK1 (θ : Th) : ∀ l : List Value, VL θ (l.map liftK1) l
  | [] => by simp [VL]
  | v :: l => by simp only [List.map_cons, VL]; exact ⟨V_liftK1 θ v, VL_liftK1 θ l⟩
theorem V_liftK (θ : Th) (v : Value) : V θ (liftK v) v := by
  unfold liftK; split
  · rename_i cs
    simp only [V]
    exact ⟨cs.toList, by simp, VL_liftK1 θ _⟩
  · exact V_liftK1 θ _

def get (env : List (Nat × SV)) : Operand → Option SV
  | .tmp t => efind env t
  | .const v => some (liftK v)
  | .func f => some (.f f 0 [])
  | .global n => some (.g n)

theorem V_get {K : Ctx} {θ : Th} {env : List (Nat × SV)} {a : Act} (h : SatE K θ env a) (x : Operand) (s : SV) (hx : get env x = some s) : V θ s (a.eval x) := by
  cases x with
  | tmp t => exact h.eval hx
  | const v => simp [get] at hx; subst hx; exact V_liftK θ v
  | func f => simp [get] at hx; subst hx; simp only [V]; exact ⟨[], rfl, by simp [VL]⟩
  | global n => simp [get] at hx; subst hx; simp only [V]; rfl

def scal : SV → Option Value
  | .b t => some (.bool t)
  | .c v => some v
  | _ => none

theorem V_scal {θ : Th} {s : SV} {v u : Value} (h : scal s = some u) (hv : V θ s v) : v = u := by
  cases s <;> simp [scal] at h
  · subst h; simpa [V] using hv
  · subst h; simpa [V] using hv

def shlI (k : IntKind) (a b : Int) : Int := k.wrap (a * 2 ^ (min b.toNat k.bits))
def shrI (k : IntKind) (a b : Int) : Int := a.fdiv (2 ^ (min b.toNat k.bits))

def binV (P : Program) (op : BinOp) (T : Nat) : Value → Value → Option (Prop × Value)
  | .int k a, .int k' b =>
    match op with
    | .shl => some (0 ≤ b, .int k (shlI k a b))
    | .shr => some (0 ≤ b, .int k (shrI k a b))
    | _ => if k = k' then
      match op with
      | .add => some (True, .int k (k.wrap (a + b)))
      | .sub => some (True, .int k (k.wrap (a - b)))
      | .mul => some (True, .int k (k.wrap (a * b)))
      | .quo => some (b ≠ 0, .int k (k.wrap (a.tdiv b)))
      | .rem => some (b ≠ 0, .int k (a.tmod b))
      | .and => some (True, .int k (bits .and k a b))
      | .or => some (True, .int k (bits .or k a b))
      | .xor => some (True, .int k (bits .xor k a b))
      | .andNot => some (True, .int k (bits .andNot k a b))
      | .eql => some (True, .bool (decide (a = b)))
      | .neq => some (True, .bool (!decide (a = b)))
      | .lss => some (True, .bool (decide (a < b)))
      | .leq => some (True, .bool (decide (a ≤ b)))
      | .gtr => some (True, .bool (decide (b < a)))
      | .geq => some (True, .bool (decide (b ≤ a)))
      | _ => none
      else none
  | .bool a, .bool b =>
    match op, P.underlying T with
    | .eql, some .bool => some (True, .bool (a == b))
    | .neq, some .bool => some (True, .bool (!(a == b)))
    | _, _ => none
  | .string a, .string b =>
    match op with
    | .add => some (((a.size + b.size : Nat) : Int) ≤ 9223372036854775807, .string (a ++ b))
    | .eql => some (True, .bool (decide (a.data.toList = b.data.toList)))
    | .neq => some (True, .bool (!decide (a.data.toList = b.data.toList)))
    | .lss => some (True, .bool (Op.bytesLess a.data.toList b.data.toList))
    | .gtr => some (True, .bool (!(Op.bytesLess a.data.toList b.data.toList || decide (a.data.toList = b.data.toList))))
    | .leq => some (True, .bool (Op.bytesLess a.data.toList b.data.toList || decide (a.data.toList = b.data.toList)))
    | .geq => some (True, .bool (!Op.bytesLess a.data.toList b.data.toList))
    | _ => none
  | _, _ => none

theorem binV_sound {P : Program} {op : BinOp} {T : Nat} {x y : Value} {c : Prop} {v : Value} (h : binV P op T x y = some (c, v)) (hc : c) (ox oy : Operand) (w : World) :
    (do eqGuard op T ox oy x y; binOp op T x y : Sem Value).run P w = .ok v w := by
  cases x <;> cases y <;> simp only [binV] at h <;> try (cases h; done)
  case int.int k a k' b =>
    cases op <;> simp only at h <;> (try split at h) <;> cases h <;> (try subst_vars) <;>
      simp [eqGuard, binOp, Op.intArith, Op.intDiv, intBits_and, intBits_or, intBits_xor, intBits_andNot, Op.intCmp, Op.shift, shlI, shrI, *]
    all_goals first
      | (intro hb; omega)
      | (rw [Bool.eq_iff_iff]; simp)
  case bool.bool a b =>
    split at h <;> cases h <;> rename_i hu
    · simp [eqGuard, run_eql_bool w T a b hu]
    · simp [eqGuard, run_neq_bool w T a b hu]
  case string.string a b =>
    cases op <;> simp only at h <;> cases h <;>
      simp [eqGuard, binOp, Op.stringOp, ByteArray.toList_eq]
    all_goals first
      | omega
      | (rw [Bool.eq_iff_iff]; simp)

theorem add_mk (b o n : Nat) : Addr.add ⟨b, o, none⟩ n = ⟨b, o + n, none⟩ := Addr.add_lit b o n

def ldBlk (P : Program) (T : Nat) (l : List SV) (o : Nat) : Option SV :=
  match kindT P T with
  | some (true, s) => cond (Nat.ble (o + s) l.length) (some (.agg ((l.drop o).take s))) none
  | some (false, _) => l[o]?
  | none => none

theorem run_loadVar_agg {P : Program} {T s : Nat} (h : kindT P T = some (true, s)) (w : World) (b o : Nat) (vs : List Value) (hl : vs.length = s)
    (hc : ∀ j v, vs[j]? = some v → w.cell? ⟨b, o + j, none⟩ = some v) : (loadVar T ⟨b, o, none⟩).run P w = .ok (.agg vs.toArray) w := by
  obtain ⟨h1, h2⟩ := run_kind h w
  have h3 := run_loadCells_list (P := P) w ⟨b, o, none⟩ vs (fun j v hv => by rw [add_mk]; exact hc j v hv)
  rw [hl] at h3
  simp [loadVar, h1, h2, h3]

theorem run_loadVar_one {P : Program} {T s : Nat} (h : kindT P T = some (false, s)) (w : World) (b o : Nat) (v : Value)
    (hc : w.cell? ⟨b, o, none⟩ = some v) : (loadVar T ⟨b, o, none⟩).run P w = .ok v w := by
  obtain ⟨h1, h2⟩ := run_kind h w
  simp [loadVar, h1, hc]

theorem cell_of_cells {w : World} {b T : Nat} {cs : List Value} {fz : Nat × Nat} (h : w.heap[b]? = some (.cells cs.toArray T fz)) (o : Nat) : w.cell? ⟨b, o, none⟩ = cs[o]? := by
  simp [World.cell?, h]

def instN (g : Nat → List (Nat × R) → Nat → (SV → List (Nat × R) → Nat → Prop) → Prop) : Nat → Nat → List (Nat × R) → Nat → (List SV → List (Nat × R) → Nat → Prop) → Prop
  | 0, _, h, nx, k => k [] h nx
  | n + 1, i, h, nx, k => g i h nx fun s h' nx' => instN g n (i + 1) h' nx' fun ss h'' nx'' => k (s :: ss) h'' nx''

def instD : D → List (Nat × R) → Nat → (SV → List (Nat × R) → Nat → Prop) → Prop
  | .v x, h, nx, k => k (.c x) h nx
  | .ints kk xs, h, nx, k => k (.a nx) ((nx, .ro (.ints kk xs)) :: h) (nx + 1)
  | .recs es n f, h, nx, k => k (.a nx) ((nx, .ro (.recs es n f)) :: h) (nx + 1)
  | .ptr T n f, h, nx, k => instN (fun i => instD (f i)) n 0 h nx fun ss h' nx' => k (.p nx' 0) ((nx', .rblk T ss) :: h') (nx' + 1)
  | .fn g m n f, h, nx, k => instN (fun i => instD (f i)) n 0 h nx fun ss h' nx' => k (.f g m ss) h' nx'
  | .map ks vs, h, nx, k => k (.m nx) ((nx, .rmap ks vs) :: h) (nx + 1)

def instL : List D → List (Nat × R) → Nat → (List SV → List (Nat × R) → Nat → Prop) → Prop
  | [], h, nx, k => k [] h nx
  | d :: l, h, nx, k => instD d h nx fun s h' nx' => instL l h' nx' fun ss h'' nx'' => k (s :: ss) h'' nx''

structure Grows (K : Ctx) (θ θ' : Th) (nx nx' : Nat) (h' : List (Nat × R)) (w : World) : Prop where
  sat : SatH K θ' h' nx' w
  ext : θ.ext θ'
  le : nx ≤ nx'
  agree : ∀ n, n < nx → θ' n = θ n

theorem Grows.refl {K : Ctx} {θ : Th} {h : List (Nat × R)} {nx : Nat} {w : World} (hs : SatH K θ h nx w) : Grows K θ θ nx nx h w := ⟨hs, Th.ext_refl _, Nat.le_refl _, fun _ _ => rfl⟩

theorem Grows.trans {K : Ctx} {θ θ' θ'' : Th} {h' h'' : List (Nat × R)} {nx nx' nx'' : Nat} {w : World} (a : Grows K θ θ' nx nx' h' w) (b : Grows K θ' θ'' nx' nx'' h'' w) : Grows K θ θ'' nx nx'' h'' w :=
  ⟨b.sat, Th.ext_trans a.ext b.ext, Nat.le_trans a.le b.le, fun n hn => (b.agree n (Nat.lt_of_lt_of_le hn a.le)).trans (a.agree n hn)⟩

theorem AddsX.grows {K : Ctx} {X : Nat → Prop} {θ θ' : Th} {h h' : List (Nat × R)} {nx nx' : Nat} {w : World} (a : AddsX K X θ θ' h h' nx nx' w) : Grows K θ θ' nx nx' h' w := ⟨a.sat.toH, a.ext, a.le, a.agree⟩
theorem AddsX.free {K : Ctx} {X : Nat → Prop} {θ θ' : Th} {h h' : List (Nat × R)} {nx nx' : Nat} {w : World} (a : AddsX K X θ θ' h h' nx nx' w) (b : Nat) (hb : Free K θ h b) : Free K θ' h' b :=
  ⟨fun n hn => hb.1 n (a.own n b hn), hb.2⟩

theorem Grows.add_ro {K : Ctx} {θ : Th} {h : List (Nat × R)} {nx : Nat} {w : World} (hs : SatH K θ h nx w) {d : D} {L : Loc}
    (hd : d.at (Free K θ h) w L) (hw : L.wf) (hi : L.inn (Free K θ h) w) : Grows K θ (θ.add nx L) nx (nx + 1) ((nx, .ro d) :: h) w :=
  (hs.toX.add_ref (r := .ro d) (fun _ ho => ho) ⟨hd, hw, hi⟩).grows

section
variable {K : Ctx} {X : Nat → Prop} {w : World}

theorem instN_sound {g : Nat → List (Nat × R) → Nat → (SV → List (Nat × R) → Nat → Prop) → Prop} {p : Nat → Value → Prop}
    (hg : ∀ i {θ : Th} {h : List (Nat × R)} {nx : Nat} {c : Value} {k : SV → List (Nat × R) → Nat → Prop}, SatX K X θ h nx w → p i c → g i h nx k →
      ∃ s h' nx' θ', k s h' nx' ∧ AddsX K X θ θ' h h' nx nx' w ∧ V θ' s c) :
    ∀ (n i : Nat) {cs : List Value} {θ : Th} {h : List (Nat × R)} {nx : Nat} {k : List SV → List (Nat × R) → Nat → Prop}, SatX K X θ h nx w → cs.length = n → (∀ j, j < n → ∃ c, cs[j]? = some c ∧ p (i + j) c) → instN g n i h nx k →
      ∃ ss h' nx' θ', k ss h' nx' ∧ AddsX K X θ θ' h h' nx nx' w ∧ VL θ' ss cs
  | 0, i, cs, θ, h, nx, k, hs, hl, _, hk => by
    have : cs = [] := List.eq_nil_of_length_eq_zero hl
    subst this
    exact ⟨[], h, nx, θ, hk, .refl hs, by simp [VL]⟩
  | n + 1, i, cs, θ, h, nx, k, hs, hl, hp, hk => by
    cases cs with
    | nil => simp at hl
    | cons c cs =>
      obtain ⟨c', e1, e2⟩ := hp 0 (by omega)
      simp only [List.getElem?_cons_zero, Option.some.injEq] at e1
      subst e1
      obtain ⟨s, h1, nx1, θ1, a1, a2, a3⟩ := hg i hs e2 hk
      obtain ⟨ss, h2, nx2, θ2, b1, b2, b3⟩ := instN_sound hg n (i + 1) a2.sat (by simpa using hl) (fun j hj => by
        obtain ⟨c', e3, e4⟩ := hp (j + 1) (by omega)
        exact ⟨c', by simpa using e3, by rw [show i + 1 + j = i + (j + 1) by omega]; exact e4⟩) a1
      exact ⟨_, h2, nx2, θ2, b1, a2.trans b2, by simp only [VL]; exact ⟨V_mono b2.ext _ _ a3, b3⟩⟩

theorem instD_soundX : ∀ (d : D) {θ : Th} {h : List (Nat × R)} {nx : Nat} {c : Value} {k : SV → List (Nat × R) → Nat → Prop}, SatX K X θ h nx w → d.holds X w c → instD d h nx k →
    ∃ s h' nx' θ', k s h' nx' ∧ AddsX K X θ θ' h h' nx nx' w ∧ V θ' s c := by
  intro d
  induction d with
  | v x => intro θ h nx c k hs hd hk; exact ⟨_, _, _, θ, hk, .refl hs, by simp only [V]; exact hd.1⟩
  | ints kk xs =>
    intro θ h nx c k hs hd hk
    obtain ⟨L, rfl, h1, h2, h3⟩ := D.holds_ints.1 hd
    exact ⟨_, _, _, θ.add nx L, hk, hs.add_ref (r := .ro (.ints kk xs)) (fun _ ho => ho) ⟨h3, h1, h2⟩, by simp only [V]; exact ⟨L, Th.add_self _ _ _, rfl⟩⟩
  | recs es n f ih =>
    intro θ h nx c k hs hd hk
    obtain ⟨L, rfl, h1, h2, h3⟩ := D.holds_recs.1 hd
    exact ⟨_, _, _, θ.add nx L, hk, hs.add_ref (r := .ro (.recs es n f)) (fun _ ho => ho) ⟨h3, h1, h2⟩, by simp only [V]; exact ⟨L, Th.add_self _ _ _, rfl⟩⟩
  | ptr T n f ih =>
    intro θ h nx c k hs hd hk
    obtain ⟨b, us, rfl, h2, h3, h4, h5⟩ := hd
    obtain ⟨ss, h1, nx1, θ1, a1, a2, a3⟩ := instN_sound (p := fun i c => (f i).holds X w c) (fun i => ih i) n 0 hs h4 (fun j hj => by rw [Nat.zero_add]; exact h5 j hj) hk
    have hadd := a2.sat.add_ref (r := .rblk T ss) (L := ⟨some ⟨b, 0, none⟩, 0, 0⟩) (fun _ ho => ho) ⟨us, rfl, h2, h3, a3⟩
    refine ⟨_, _, _, _, a1, a2.trans hadd, ?_⟩
    simp only [V]
    exact ⟨_, Th.add_self _ _ _, rfl⟩
  | fn g m n f ih =>
    intro θ h nx c k hs hd hk
    obtain ⟨us, rfl, h4, h5⟩ := hd
    obtain ⟨ss, h1, nx1, θ1, a1, a2, a3⟩ := instN_sound (p := fun i c => (f i).holds X w c) (fun i => ih i) n 0 hs h4 (fun j hj => by rw [Nat.zero_add]; exact h5 j hj) hk
    exact ⟨_, _, _, _, a1, a2, by simp only [V]; exact ⟨us, rfl, a3⟩⟩
  | map ks vs =>
    intro θ h nx c k hs hd hk
    obtain ⟨b, es, clock, rfl, h2, h3, h4⟩ := hd
    refine ⟨_, _, _, _, hk, hs.add_ref (r := .rmap ks vs) (L := ⟨some ⟨b, 0, none⟩, 0, 0⟩) (fun _ ho => ho) ⟨rfl, h2, es, clock, h3, h4⟩, ?_⟩
    simp only [V]
    exact ⟨_, Th.add_self _ _ _, rfl⟩
end

def DL.holds (X : Nat → Prop) (w : World) : List D → List Value → Prop
  | [], [] => True
  | d :: l, c :: cs => d.holds X w c ∧ DL.holds X w l cs
  | _, _ => False

theorem DL.holds_mono {X X' : Nat → Prop} {w w' : World} (h : Keeps X X' w w') : ∀ {l : List D} {cs : List Value}, DL.holds X w l cs → DL.holds X' w' l cs
  | [], [], _ => trivial
  | [], _ :: _, h => h.elim
  | _ :: _, [], h => h.elim
  | d :: _, c :: _, hh => ⟨D.holds_mono h d c hh.1, DL.holds_mono h hh.2⟩

theorem instL_soundX {K : Ctx} {X : Nat → Prop} {w : World} : ∀ {l : List D} {θ : Th} {h : List (Nat × R)} {nx : Nat} {cs : List Value}, SatX K X θ h nx w → DL.holds X w l cs →
    ∀ {k : List SV → List (Nat × R) → Nat → Prop}, instL l h nx k → ∃ s h' nx' θ', k s h' nx' ∧ AddsX K X θ θ' h h' nx nx' w ∧ VL θ' s cs
  | [], θ, h, nx, [], hs, _, k, hk => ⟨_, _, _, θ, hk, .refl hs, by simp [VL]⟩
  | [], _, _, _, _ :: _, _, h, _, _ => h.elim
  | _ :: _, _, _, _, [], _, h, _, _ => h.elim
  | d :: l, θ, h, nx, c :: cs, hs, hd, k, hk => by
    obtain ⟨s, h1, nx1, θ1, hk1, g1, v1⟩ := instD_soundX d hs hd.1 hk
    obtain ⟨ss, h2, nx2, θ2, hk2, g2, v2⟩ := instL_soundX g1.sat hd.2 hk1
    exact ⟨_, _, _, θ2, hk2, g1.trans g2, by simp only [VL]; exact ⟨V_mono g2.ext _ _ v1, v2⟩⟩

theorem instD_sound' {K : Ctx} {θ : Th} {h : List (Nat × R)} {nx : Nat} {w : World} (hs : SatH K θ h nx w) {d : D} {c : Value} (hd : d.holds (Free K θ h) w c)
    {k : SV → List (Nat × R) → Nat → Prop} (hk : instD d h nx k) : ∃ s h' nx' θ', k s h' nx' ∧ Grows K θ θ' nx nx' h' w ∧ V θ' s c ∧ (∀ b, Free K θ h b → Free K θ' h' b) := by
  obtain ⟨s, h', nx', θ', a1, a2, a3⟩ := instD_soundX d hs.toX hd hk
  exact ⟨s, h', nx', θ', a1, a2.grows, a3, a2.free⟩

theorem instL_sound {K : Ctx} {w : World} {l : List D} {θ : Th} {h : List (Nat × R)} {nx : Nat} {cs : List Value} (hs : SatH K θ h nx w) (hd : DL.holds (Free K θ h) w l cs)
    {k : List SV → List (Nat × R) → Nat → Prop} (hk : instL l h nx k) : ∃ s h' nx' θ', k s h' nx' ∧ Grows K θ θ' nx nx' h' w ∧ VL θ' s cs ∧ (∀ b, Free K θ h b → Free K θ' h' b) := by
  obtain ⟨s, h', nx', θ', a1, a2, a3⟩ := instL_soundX hs.toX hd hk
  exact ⟨s, h', nx', θ', a1, a2.grows, a3, a2.free⟩

def arrOf (h : List (Nat × R)) (n : Nat) : Option D :=
  match hfind h n with
  | some (.ro d) => some d
  | some (.own _ d) => some d
  | _ => none

theorem arrOf_sound {K : Ctx} {θ : Th} {h : List (Nat × R)} {nx : Nat} {w : World} (hs : SatH K θ h nx w) {n : Nat} {d : D} (ha : arrOf h n = some d) :
    ∃ L, θ n = some L ∧ d.at (Free K θ h) w L ∧ L.wf := by
  unfold arrOf at ha
  split at ha <;> cases ha
  · rename_i hf
    obtain ⟨L, h1, h2, h3, _⟩ := hs.res n _ hf
    exact ⟨L, h1, h2, h3⟩
  · rename_i hf
    obtain ⟨L, h1, h2, h3, _⟩ := hs.res n _ hf
    exact ⟨L, h1, h2, h3⟩

def fieldsD (f : Nat → Nat → D) (i o : Nat) : Nat → List D
  | 0 => []
  | s + 1 => f i o :: fieldsD f i (o + 1) s

def ldArr (P : Program) (T : Nat) (d : D) (es i o : Nat) (h : List (Nat × R)) (nx : Nat) (k : SV → List (Nat × R) → Nat → Prop) : Prop :=
  match kindT P T, d with
  | some (false, _), .ints kk xs => cond (Nat.beq es 1 && Nat.beq o 0) (k (.c (.int kk (xs.getD i 0))) h nx) False
  | some (false, _), .recs es' _ f => cond (Nat.beq es es' && Nat.blt o es) (instD (f i o) h nx k) False
  | some (true, s), .recs es' _ f => cond (Nat.beq es es' && Nat.ble (o + s) es && Nat.blt 0 es) (instL (fieldsD f i o s) h nx fun l => k (.agg l)) False
  | some (true, 1), .ints kk xs => cond (Nat.beq es 1 && Nat.beq o 0) (k (.agg [.c (.int kk (xs.getD i 0))]) h nx) False
  | _, _ => False

theorem nbeq {a b : Nat} (h : Nat.beq a b = true) : a = b := Nat.eq_of_beq_eq_true h
theorem nble {a b : Nat} (h : Nat.ble a b = true) : a ≤ b := Nat.le_of_ble_eq_true h
theorem nblt {a b : Nat} (h : Nat.blt a b = true) : a < b := Nat.le_of_ble_eq_true h
theorem cond_false {c : Bool} {p : Prop} (h : cond c p False) : c = true ∧ p := by
  cases c
  · exact h.elim
  · exact ⟨rfl, h⟩

theorem fieldsD_holds {X : Nat → Prop} {w : World} {b base : Nat} {f : Nat → Nat → D} {i es : Nat}
    (hc : ∀ j, j < es → ∃ c, w.cell? ⟨b, base + j, none⟩ = some c ∧ (f i j).holds X w c) : ∀ (s o : Nat), o + s ≤ es →
      ∃ cs : List Value, cs.length = s ∧ (∀ j v, cs[j]? = some v → w.cell? ⟨b, base + o + j, none⟩ = some v) ∧ DL.holds X w (fieldsD f i o s) cs
  | 0, _, _ => ⟨[], rfl, fun j v h => by simp at h, trivial⟩
  | s + 1, o, h => by
    obtain ⟨c, h1, h2⟩ := hc o (by omega)
    obtain ⟨cs, h3, h4, h5⟩ := fieldsD_holds hc s (o + 1) (by omega)
    refine ⟨c :: cs, by simp [h3], fun j v hv => ?_, h2, h5⟩
    cases j with
    | zero => simp at hv; subst hv; simpa using h1
    | succ j => simp at hv; rw [show base + o + (j + 1) = base + (o + 1) + j by omega]; exact h4 j v hv

theorem ldArr_sound {P : Program} {K : Ctx} {θ : Th} {h : List (Nat × R)} {nx : Nat} {w : World} (hs : SatH K θ h nx w) {n T : Nat} {d : D} {es i o : Nat}
    (ha : arrOf h n = some d) {u : Value} (hu : V θ (.e n es i o) u) {k : SV → List (Nat × R) → Nat → Prop} (hk : ldArr P T d es i o h nx k) :
    ∃ s h' nx' θ' v, k s h' nx' ∧ Grows K θ θ' nx nx' h' w ∧ V θ' s v ∧ ∃ b o', u = .pointer (some ⟨b, o', none⟩) ∧ b < w.heap.size ∧ ∀ w' : World, w'.heap[b]? = w.heap[b]? → (loadVar T ⟨b, o', none⟩).run P w' = .ok v w' := by
  obtain ⟨L, hL, hd, _⟩ := arrOf_sound hs ha
  simp only [V] at hu
  obtain ⟨L', hL', hi, rfl⟩ := hu
  obtain rfl := Option.some.inj (hL.symm.trans hL')
  unfold ldArr at hk
  split at hk
  · rename_i kk xs hT
    obtain ⟨hc, hk1⟩ := cond_false hk
    clear hk
    simp only [Bool.and_eq_true] at hc
    obtain ⟨hc1, hc2⟩ := hc
    obtain rfl := nbeq hc1
    obtain rfl := nbeq hc2
    obtain ⟨h1, h2, h3⟩ := hd
    have hlt : i < xs.length := by omega
    have h4 := h3 i _ (List.getElem?_eq_getElem hlt)
    refine ⟨_, _, _, θ, .int kk (xs.getD i 0), hk1, .refl hs, by simp [V], _, _, rfl, lt_of_cell h4, fun w' hw' => run_loadVar_one hT w' _ _ _ ?_⟩
    rw [cell_eq hw', show L.o + (i * 1 + 0) = L.o + i by omega, h4]
    simp [List.getD, List.getElem?_eq_getElem hlt]
  · rename_i es' n' f hT
    obtain ⟨hc, hk1⟩ := cond_false hk
    clear hk
    simp only [Bool.and_eq_true] at hc
    obtain ⟨hc1, hc2⟩ := hc
    obtain rfl := nbeq hc1
    have ho := nblt hc2
    obtain ⟨h1, h2, h3⟩ := hd
    obtain ⟨c, h4, h5⟩ := h3 i (by omega) o ho
    obtain ⟨s, h', nx', θ', a1, a2, a3, _⟩ := instD_sound' hs h5 hk1
    exact ⟨s, h', nx', θ', c, a1, a2, a3, _, _, rfl, lt_of_cell h4, fun w' hw' => run_loadVar_one hT w' _ _ _ (by rw [cell_eq hw']; exact h4)⟩
  · rename_i s es' n' f hT
    obtain ⟨hc, hk1⟩ := cond_false hk
    clear hk
    simp only [Bool.and_eq_true] at hc
    obtain ⟨⟨hc1, hc2⟩, hc3⟩ := hc
    obtain rfl := nbeq hc1
    have ho := nble hc2
    have he := nblt hc3
    obtain ⟨h1, h2, h3⟩ := hd
    obtain ⟨cs, c1, c2, c3⟩ := fieldsD_holds (X := Free K θ h) (w := w) (b := L.b) (base := L.o + i * es) (f := f) (i := i) (es := es)
      (fun j hj => by rw [show L.o + i * es + j = L.o + (i * es + j) by omega]; exact h3 i (by omega) j hj) s o ho
    obtain ⟨ss, h', nx', θ', a1, a2, a3, _⟩ := instL_sound hs c3 hk1
    refine ⟨.agg ss, h', nx', θ', .agg cs.toArray, a1, a2, by simp only [V]; exact ⟨cs, rfl, a3⟩, _, _, rfl, ?_, fun w' hw' => run_loadVar_agg hT w' _ _ cs c1 fun j v hv => ?_⟩
    · obtain ⟨c, h4, _⟩ := h3 i (by omega) 0 he
      exact lt_of_cell h4
    · rw [cell_eq hw', show L.o + (i * es + o) + j = L.o + i * es + o + j by omega]; exact c2 j v hv
  · rename_i kk xs hT
    obtain ⟨hc, hk1⟩ := cond_false hk
    clear hk
    simp only [Bool.and_eq_true] at hc
    obtain ⟨hc1, hc2⟩ := hc
    obtain rfl := nbeq hc1
    obtain rfl := nbeq hc2
    obtain ⟨h1, h2, h3⟩ := hd
    have hlt : i < xs.length := by omega
    have h4 := h3 i _ (List.getElem?_eq_getElem hlt)
    refine ⟨_, _, _, θ, .agg #[.int kk (xs.getD i 0)], hk1, .refl hs, by simp only [V]; exact ⟨[.int kk (xs.getD i 0)], rfl, by simp [VL, V]⟩, _, _, rfl, lt_of_cell h4,
      fun w' hw' => run_loadVar_agg hT w' _ _ [.int kk (xs.getD i 0)] rfl fun j v hv => ?_⟩
    cases j with
    | zero =>
      simp at hv; subst hv
      rw [cell_eq hw', show L.o + (i * 1 + 0) + 0 = L.o + i by omega, h4]
      simp [List.getElem?_eq_getElem hlt]
    | succ j => simp at hv
  · exact hk.elim
end Go.Z

namespace Go.Z
open Go.RowKit

def fldT (P : Program) (S f : Nat) : Option Nat :=
  match P.underlying S with
  | some (.struct fs) =>
    match fs[f]? with
    | some fl => match kindT P fl.type with
      | some (_, _ + 1) => some fl.offset
      | _ => none
    | none => none
  | _ => none

theorem run_fieldAt {P : Program} {S f off : Nat} (h : fldT P S f = some off) (w : World) (b o : Nat) :
    (Instr.fieldAt S (.pointer (some ⟨b, o, none⟩)) f).run P w = .ok (.pointer (some ⟨b, o + off, none⟩)) w := by
  unfold fldT at h
  split at h <;> try (cases h; done)
  rename_i fs hu
  split at h <;> try (cases h; done)
  rename_i fl hf
  split at h <;> cases h
  rename_i g n hk
  obtain ⟨_, h2⟩ := run_kind hk w
  simp [Instr.fieldAt, run_underlying hu, hf, Instr.sureAddr, fieldPlace, h2, add_mk]

def oneS : SV → Bool
  | .c v => v.oneCell'
  | .b _ | .p .. | .e .. | .a _ | .nil | .f .. | .m _ | .q _ | .sl .. | .g _ | .vw .. => true
  | _ => false

def cellsS : SV → Option (List SV)
  | .agg l => some l
  | s => cond (oneS s) (some [s]) none

theorem oneCell_of {θ : Th} {s : SV} {v : Value} (h : oneS s = true) (hv : V θ s v) : v.oneCell' = true := by
  cases s <;> simp only [oneS] at h <;> simp only [V] at hv <;> try (cases h; done)
  · subst hv; rfl
  · subst hv; exact h
  · obtain ⟨L, _, rfl⟩ := hv; rfl
  · obtain ⟨L, _, _, rfl⟩ := hv; rfl
  · obtain ⟨L, _, rfl⟩ := hv; rfl
  · subst hv; rfl
  · obtain ⟨L, rfl, _⟩ := hv; rfl
  · obtain ⟨L, _, _, rfl⟩ := hv; rfl
  · obtain ⟨L, _, rfl⟩ := hv; rfl
  · obtain ⟨L, _, rfl⟩ := hv; rfl
  · subst hv; rfl
  · obtain ⟨L, _, _, rfl⟩ := hv; rfl

theorem cells_of_one {v : Value} (h : v.oneCell' = true) : v.cells = #[v] := by
  cases v <;> simp [Value.oneCell'] at h <;> rfl

theorem V_cellsS {θ : Th} {s : SV} {l : List SV} {v : Value} (h : cellsS s = some l) (hv : V θ s v) : VL θ l v.cells.toList := by
  cases s with
  | agg l' =>
    simp [cellsS] at h; subst h
    simp only [V] at hv
    obtain ⟨cs, rfl, h2⟩ := hv
    simpa [Value.cells] using h2
  | _ =>
    simp only [cellsS] at h
    cases ho : oneS _ with
    | false => rw [ho] at h; cases h
    | true =>
      rw [ho] at h; cases h
      rw [cells_of_one (oneCell_of ho hv)]
      exact VL_cons.2 ⟨hv, VL_nil⟩

def bstr (xs : List Int) : ByteArray := ⟨(xs.map fun n => UInt8.ofNat n.toNat).toArray⟩

theorem foldl_push_bytes : ∀ (xs : List Int) (s : ByteArray), xs.foldl (fun r n => r.push (UInt8.ofNat n.toNat)) s = ⟨s.data ++ (xs.map fun n => UInt8.ofNat n.toNat).toArray⟩
  | [], s => by simp
  | x :: xs, s => by
    rw [List.foldl_cons, foldl_push_bytes xs]
    simp [ByteArray.push]

theorem loadCells_ints {P : Program} {w : World} {L : Loc} {k : IntKind} {xs : List Int} (hw : L.wf) (hlen : L.len = xs.length) (hcap : L.len ≤ L.cap)
    (hc : ∀ i z, xs[i]? = some z → w.cell? ⟨L.b, L.o + i, none⟩ = some (.int k z)) {a : Addr} (ha : L.a = some a) :
    (loadCells a L.len).run P w = .ok (xs.map (Value.int k)).toArray w := by
  rcases hw with h0 | h0
  · have : L.len = 0 := by omega
    have hx : xs = [] := List.eq_nil_of_length_eq_zero (by omega)
    subst hx
    rw [this]
    rfl
  · rw [h0] at ha; cases ha
    have := run_loadCells_list (P := P) w ⟨L.b, L.o, none⟩ (xs.map (Value.int k)) (fun j v hv => by
      rw [add_mk]
      rw [List.getElem?_map] at hv
      cases hx : xs[j]? with
      | none => rw [hx] at hv; simp at hv
      | some z => rw [hx] at hv; simp at hv; subst hv; exact hc j z hx)
    rw [List.length_map, ← hlen] at this
    exact this

theorem run_bytes_string {P : Program} {w : World} {L : Loc} {xs : List Int} (hw : L.wf) (hlen : L.len = xs.length) (hcap : L.len ≤ L.cap)
    (hc : ∀ i z, xs[i]? = some z → w.cell? ⟨L.b, L.o + i, none⟩ = some (.int .u8 z)) :
    (Conv.bytesToString L.val).run P w = .ok (.string (bstr xs)) w := by
  unfold Loc.val
  cases ha : L.a with
  | none =>
    rcases hw with h0 | h0
    · have hx : xs = [] := List.eq_nil_of_length_eq_zero (by omega)
      subst hx
      rfl
    · rw [ha] at h0; cases h0
  | some a =>
    rw [run_bytesToString w a L.len L.cap xs (loadCells_ints hw hlen hcap hc ha), foldl_push_bytes]
    simp [bstr, ByteArray.empty, ByteArray.emptyWithCapacity]
    rfl

def D.sub (l m : Nat) : D → D
  | .ints k xs => .ints k ((xs.drop l).take m)
  | .recs es _ f => .recs es m (fun i j => f (l + i) j)
  | d => d
def D.takeD (m : Nat) : D → D
  | .ints k xs => .ints k (xs.take m)
  | .recs es _ f => .recs es m f
  | d => d
def D.dropD (l : Nat) : D → D
  | .ints k xs => .ints k (xs.drop l)
  | .recs es n f => .recs es (n - l) (fun i j => f (l + i) j)
  | d => d

def Loc.sub (L : Loc) (l h m es : Nat) : Loc := { a := if m = l then L.a else L.a.map (·.add (l * es)), len := h - l, cap := m - l }

theorem Loc.sub_ne {L : Loc} (hw : L.wf) {l h m es : Nat} (hm : m ≤ L.cap) (hl : l < m) : (L.sub l h m es).a = some ⟨L.b, L.o + l * es, none⟩ ∧ (L.sub l h m es).b = L.b ∧ (L.sub l h m es).o = L.o + l * es := by
  have h0 : L.a = some ⟨L.b, L.o, none⟩ := hw.resolve_left (by omega)
  have h1 : (L.sub l h m es).a = some ⟨L.b, L.o + l * es, none⟩ := by
    simp only [Loc.sub]
    rw [if_neg (by omega), h0]
    simp [add_mk]
  refine ⟨h1, ?_, ?_⟩
  · show (match (L.sub l h m es).a with | some a => a.block | none => 0) = _; rw [h1]
  · show (match (L.sub l h m es).a with | some a => a.off | none => 0) = _; rw [h1]

theorem Loc.sub_wf {L : Loc} (hw : L.wf) {l h m es : Nat} (hm : m ≤ L.cap) : (L.sub l h m es).wf := by
  by_cases e : m ≤ l
  · exact .inl (by simp [Loc.sub]; omega)
  · obtain ⟨h1, h2, h3⟩ := Loc.sub_ne (h := h) (es := es) hw hm (show l < m by omega)
    exact .inr (by rw [h1, h2, h3])

theorem Loc.sub_inn {L : Loc} {X : Nat → Prop} {w : World} (hw : L.wf) (hi : L.inn X w) {l h m es : Nat} (hm : m ≤ L.cap) (hlm : h ≤ m) (hh : h ≤ L.len) : (L.sub l h m es).inn X w := fun hne => by
  have hne' : h - l ≠ 0 := hne
  obtain ⟨_, h2, _⟩ := Loc.sub_ne (h := h) (es := es) hw hm (show l < m by omega)
  rw [h2]
  exact hi (by omega)

theorem D.sub_at {X : Nat → Prop} {w : World} {L : Loc} {d : D} (hw : L.wf) (hd : d.at X w L) {l h m es : Nat} (hes : es = d.es) (hm : m ≤ L.cap) (hlh : l ≤ h) (hlm : h ≤ m) (hh : h ≤ L.len) :
    (d.sub l (h - l)).at X w (L.sub l h m es) := by
  cases d with
  | v x => exact hd.elim
  | ptr _ _ _ => exact hd.elim
  | fn _ _ _ _ => exact hd.elim
  | map _ _ => exact hd.elim
  | ints k xs =>
    obtain ⟨h1, h2, h3⟩ := hd
    refine ⟨by simp [Loc.sub]; omega, by simp [Loc.sub]; omega, fun i z hz => ?_⟩
    rw [List.getElem?_take] at hz
    split at hz <;> try (cases hz; done)
    rename_i hi
    rw [List.getElem?_drop] at hz
    obtain ⟨_, e2, e3⟩ := Loc.sub_ne (h := h) (es := es) hw hm (show l < m by omega)
    have := h3 _ _ hz
    have hes' : es = 1 := hes
    subst hes'
    rw [e2, e3, show L.o + l * 1 + i = L.o + (l + i) by omega]
    exact this
  | recs es' n f =>
    obtain ⟨h1, h2, h3⟩ := hd
    refine ⟨by simp [Loc.sub], by simp [Loc.sub]; omega, fun i hi j hj => ?_⟩
    obtain ⟨_, e2, e3⟩ := Loc.sub_ne (h := h) (es := es) hw hm (show l < m by omega)
    obtain ⟨c, h4, h5⟩ := h3 (l + i) (by omega) j hj
    have hes' : es = es' := hes
    subst hes'
    refine ⟨c, ?_, h5⟩
    rw [e2, e3, show L.o + l * es + (i * es + j) = L.o + ((l + i) * es + j) by rw [Nat.add_mul]; omega]
    exact h4

theorem D.takeD_at {X : Nat → Prop} {w : World} {L : Loc} {d : D} {m : Nat} (h : (d.sub 0 m).at X w L) : (d.takeD m).at X w L := by
  cases d with
  | v x => exact h
  | ptr _ _ _ => exact h
  | fn _ _ _ _ => exact h
  | map _ _ => exact h
  | ints k xs => simpa [D.sub, D.takeD, D.at] using h
  | recs es n f => simpa [D.sub, D.takeD, D.at] using h

theorem D.dropD_at {X : Nat → Prop} {w : World} {L : Loc} {d : D} {l m : Nat} (hm : m = d.len - l) (h : (d.sub l m).at X w L) : (d.dropD l).at X w L := by
  cases d with
  | v x => exact h
  | ptr _ _ _ => exact h
  | fn _ _ _ _ => exact h
  | map _ _ => exact h
  | ints k xs =>
    subst hm
    have : (List.take ((D.ints k xs).len - l) (List.drop l xs)) = List.drop l xs := List.take_of_length_le (by simp [D.len])
    simp only [D.sub, this] at h
    exact h
  | recs es n f => subst hm; simpa [D.sub, D.dropD, D.at, D.len] using h

theorem D.at_len {X : Nat → Prop} {w : World} {L : Loc} {d : D} (h : d.at X w L) : L.len = d.len ∧ L.len ≤ L.cap := by
  cases d with
  | v x => exact h.elim
  | ptr _ _ _ => exact h.elim
  | fn _ _ _ _ => exact h.elim
  | map _ _ => exact h.elim
  | ints k xs => exact ⟨h.1, h.2.1⟩
  | recs es n f => exact ⟨h.1, h.2.1⟩
end Go.Z

namespace Go.Z
open Go.RowKit

def midx {κ : Type} [DecidableEq κ] : List κ → κ → Option Nat
  | [], _ => none
  | k :: ks, x => if x = k then some 0 else match midx ks x with
    | some j => some (j + 1)
    | none => none
def oget {ν : Type} (m : List ν) (o : Option Nat) : Option ν := match o with
  | some j => m[j]?
  | none => none
def mputV {ν : Type} (m : List ν) (o : Option Nat) (v : ν) : List ν := match o with
  | some j => m.set j v
  | none => m ++ [v]
def mputK {κ : Type} (l : List κ) (o : Option Nat) (x : κ) : List κ := match o with
  | some _ => l
  | none => l ++ [x]
def mdel {ν : Type} (m : List ν) (o : Option Nat) : List ν := match o with
  | some j => m.eraseIdx j
  | none => m

theorem midx_lt {κ : Type} [DecidableEq κ] : ∀ {l : List κ} {x : κ} {j : Nat}, midx l x = some j → l[j]? = some x
  | [], _, _, h => by simp [midx] at h
  | k :: ks, x, j, h => by
    unfold midx at h
    split at h
    · cases h; rename_i e; simp [e]
    · split at h <;> cases h
      rename_i j' h'
      simpa using midx_lt h'

def Col.idx (ks : Col) (key : Value) : Option (Option Nat) :=
  match ks, key with
  | .ints k l, .int k' x => if k = k' then some (midx l x) else none
  | .bools l, .bool x => some (midx l x)
  | .strs l, .string x => some (midx l x)
  | _, _ => none
def keyKind (P : Program) (kt : Nat) (ks : Col) : Bool :=
  match P.underlying kt, ks with
  | some (.int _), .ints _ _ => true
  | some .bool, .bools _ => true
  | some .string, .strs _ => true
  | _, _ => false
def Col.getAt (vs : Col) (o : Option Nat) : Value :=
  match vs with
  | .ints k m => .int k ((oget m o).getD 0)
  | .bools m => .bool ((oget m o).getD false)
  | .strs m => .string ((oget m o).getD ⟨#[]⟩)
def zeroOk (P : Program) (vt : Nat) (vs : Col) : Bool :=
  match P.info? vt with
  | some i => match i.zero, vs with
    | some (.int k 0), .ints k' _ => decide (k = k')
    | some (.bool false), .bools _ => true
    | some (.string s), .strs _ => decide (s.data.toList = [])
    | _, _ => false
  | none => false

theorem findNow_list {κ : Type} [DecidableEq κ] {enc : κ → Value} {kind : TypeDesc} {x : κ} (hs : ∀ y, Instr.sameNow kind (enc x) (enc y) = some (decide (x = y))) :
    ∀ (l : List κ) (es : List MapEntry) (i : Nat), es.map (·.key) = l.map enc → Instr.findNow kind (enc x) es i = some (match midx l x with | some j => (match es[j]? with | some e => some (i + j, e.val) | none => none) | none => none)
  | [], [], i, _ => rfl
  | [], _ :: _, _, h => by simp at h
  | _ :: _, [], _, h => by simp at h
  | y :: l, e :: es, i, h => by
    simp only [List.map_cons, List.cons.injEq] at h
    unfold Instr.findNow midx
    rw [h.1, hs y]
    by_cases hxy : x = y
    · simp [hxy]
    · have ih := findNow_list hs l es (i + 1) h.2
      simp only [hxy, decide_false]
      rw [ih, if_neg (fun h => h)]
      cases midx l x with
      | none => rfl
      | some j =>
        simp only [List.getElem?_cons_succ]
        cases es[j]? with
        | none => rfl
        | some e' => simp only [Option.some.injEq, Prod.mk.injEq, and_true]; omega

theorem Col.keys_of {es : List MapEntry} {κ : Type} {l : List κ} {enc : κ → Value} (hl : es.length = l.length) (h : ∀ (i : Nat) (e : MapEntry), es[i]? = some e → (l[i]?).map enc = some e.key) :
    es.map (·.key) = l.map enc := by
  apply List.ext_getElem?
  intro i
  simp only [List.getElem?_map]
  cases he : es[i]? with
  | none =>
    have : l[i]? = none := by
      rw [List.getElem?_eq_none_iff] at he ⊢; omega
    simp [this]
  | some e =>
    have := h i e he
    cases hz : l[i]? with
    | none => rw [hz] at this; cases this
    | some z => rw [hz] at this; simpa using this.symm

def eget (es : Array MapEntry) (o : Option Nat) : Option (Nat × Value) :=
  match o with
  | some j => match es[j]? with
    | some e => some (j, e.val)
    | none => none
  | none => none
theorem beq_bytes (x y : ByteArray) : (x == y) = decide (x = y) := by
  cases h : decide (x = y) with
  | true =>
    have := of_decide_eq_true h
    subst this
    obtain ⟨a⟩ := x
    show (a == a) = true
    rw [beq_iff_eq]
  | false =>
    have := of_decide_eq_false h
    cases hb : x == y with
    | false => rfl
    | true =>
      obtain ⟨a⟩ := x
      obtain ⟨b⟩ := y
      have : a = b := eq_of_beq (a := a) (b := b) hb
      subst this
      exact absurd rfl ‹¬ (_ : ByteArray) = _›
theorem findNow_colK {P : Program} {kt : Nat} {d : TypeDesc} {ks : Col} {key : Value} {o : Option Nat} {es : Array MapEntry} {clock : Nat} (hd : P.underlying kt = some d) (hk : keyKind P kt ks = true) (ho : ks.idx key = some o) (hm : MapK es clock ks) :
    Instr.findNow d key es.toList 0 = some (eget es o) ∧ ∀ j, o = some j → ks.get? j = some key := by
  have hat : ∀ (i : Nat) (e : MapEntry), es.toList[i]? = some e → ks.get? i = some e.key := fun i e he => hm.key i e (by simpa using he)
  have hsz : es.toList.length = ks.len := by simpa using hm.size
  unfold keyKind at hk
  rw [hd] at hk
  unfold Col.idx at ho
  split at ho <;> try (cases ho; done)
  · rename_i k l k' x
    split at ho <;> cases ho
    rename_i e; subst e
    cases d <;> simp at hk
    rename_i kk
    have := findNow_list (κ := Int) (enc := Value.int k) (kind := .int kk) (x := x) (fun y => by simp [Instr.sameNow]; rw [Bool.eq_iff_iff]; simp) l es.toList 0 (Col.keys_of hsz hat)
    refine ⟨?_, fun j hj => by simp [Col.get?, midx_lt hj]⟩
    simpa [eget] using this
  · rename_i l x
    cases ho
    cases d <;> simp at hk
    have := findNow_list (κ := Bool) (enc := Value.bool) (kind := .bool) (x := x) (fun y => by simp [Instr.sameNow]; rw [Bool.eq_iff_iff]; simp) l es.toList 0 (Col.keys_of hsz hat)
    refine ⟨?_, fun j hj => by simp [Col.get?, midx_lt hj]⟩
    simpa [eget] using this
  · rename_i l x
    cases ho
    cases d <;> simp at hk
    have := findNow_list (κ := ByteArray) (enc := Value.string) (kind := .string) (x := x) (fun y => by simp [Instr.sameNow, beq_bytes]) l es.toList 0 (Col.keys_of hsz hat)
    refine ⟨?_, fun j hj => by simp [Col.get?, midx_lt hj]⟩
    simpa [eget] using this
theorem findNow_col {P : Program} {kt : Nat} {d : TypeDesc} {ks vs : Col} {key : Value} {o : Option Nat} {es : Array MapEntry} {clock : Nat} (hd : P.underlying kt = some d) (hk : keyKind P kt ks = true) (ho : ks.idx key = some o) (hm : MapIs es clock ks vs) :
    Instr.findNow d key es.toList 0 = some (eget es o) ∧ ∀ j, o = some j → ks.get? j = some key := findNow_colK hd hk ho hm.toK
end Go.Z
