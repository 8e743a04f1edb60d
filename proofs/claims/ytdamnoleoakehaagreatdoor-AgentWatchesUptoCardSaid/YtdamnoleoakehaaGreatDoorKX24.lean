/- Part 24 of what the closing text rests on. -/
import Derived.Test.YtdamnoleoakehaaGreatDoorKX22
set_option maxRecDepth 100000
namespace Go.Q
noncomputable section
open Go.RowKit Go.Proofs
open Go.Z hiding cond_false get resF
noncomputable section
inductive SaysIs (w : World) (Own : Nat → Prop) (L0 : Ln) : Value → Prop where
  | nil : SaysIs w Own L0 (.slice none 0 0)
  | at_ (b o c : Nat) (l : List Int) (hb : b = L0.b) (hoc : o + c ≤ L0.sz) (hlc : l.length ≤ c) (hby : ∀ n ∈ l, 0 ≤ n ∧ n < 256) (hw : l ≠ [] → LiesAt w b o l ∧ ¬ Own b) : SaysIs w Own L0 (.slice (some ⟨b, o, none⟩) l.length c)
def rhoR (n d r x : Int) (o c : Nat) (u v : List Int) (vs : Value) : Rh :=
  ⟨fun | 0 => n | 1 => d | 2 => r | 3 => x | 4 => o | 5 => c | _ => 0, fun | 0 => u | 1 => v | _ => [], fun _ => vs⟩
theorem bnds_r {Γ : Cx} {n d r x : Int} {o c : Nat} {u v : List Int} {vs : Value} (h : Γ.hi = [38, -1, -1, 255, -1, -1]) (hn : 0 ≤ n ∧ n ≤ 38) (hd : 0 ≤ d) (hr : 0 ≤ r) (hx : 0 ≤ x ∧ x ≤ 255) : Bnds Γ (rhoR n d r x o c u v vs).a := fun i => by
  unfold Cx.hiOf
  rw [h]
  match i with
  | 0 => exact ⟨hn.1, fun _ => hn.2⟩
  | 1 => exact ⟨hd, fun h => absurd (show (0 : Int) ≤ -1 from h) (by decide)⟩
  | 2 => exact ⟨hr, fun h => absurd (show (0 : Int) ≤ -1 from h) (by decide)⟩
  | 3 => exact ⟨hx.1, fun _ => hx.2⟩
  | 4 => exact ⟨Int.natCast_nonneg o, fun h => absurd (show (0 : Int) ≤ -1 from h) (by decide)⟩
  | 5 => exact ⟨Int.natCast_nonneg c, fun h => absurd (show (0 : Int) ≤ -1 from h) (by decide)⟩
  | n + 6 => exact ⟨Int.le_refl 0, fun _ => Int.le_refl 0⟩
theorem one_opI {Γ : Cx} {ρ : Rh} {op : BinOp} {k : IntKind} {x y q : Lin} {t : Bool} (h : Γ.ops = [(op, k, x, y, some q, t)]) (hv : intBin op k k (x.ev ρ.a) (y.ev ρ.a) = some (.int k (q.ev ρ.a))) :
    ∀ x ∈ Γ.ops, ∃ c, binV default x.1 0 (.int x.2.1 (x.2.2.1.ev ρ.a)) (.int x.2.1 (x.2.2.2.1.ev ρ.a)) = some (c, match x.2.2.2.2.1 with | some r => .int x.2.1 (r.ev ρ.a) | none => .bool x.2.2.2.2.2) ∧ c := fun z hz => by
  rw [h] at hz
  obtain rfl := List.mem_singleton.1 hz
  obtain ⟨c', w1, w2⟩ := intBin_sound (P := default) (T := 0) hv
  exact ⟨c', w1, w2⟩
theorem one_opB {Γ : Cx} {ρ : Rh} {op : BinOp} {k : IntKind} {x y : Lin} {t : Bool} (h : Γ.ops = [(op, k, x, y, none, t)]) (hv : intBin op k k (x.ev ρ.a) (y.ev ρ.a) = some (.bool t)) :
    ∀ x ∈ Γ.ops, ∃ c, binV default x.1 0 (.int x.2.1 (x.2.2.1.ev ρ.a)) (.int x.2.1 (x.2.2.2.1.ev ρ.a)) = some (c, match x.2.2.2.2.1 with | some r => .int x.2.1 (r.ev ρ.a) | none => .bool x.2.2.2.2.2) ∧ c := fun z hz => by
  rw [h] at hz
  obtain rfl := List.mem_singleton.1 hz
  obtain ⟨c', w1, w2⟩ := intBin_sound (P := default) (T := 0) hv
  exact ⟨c', w1, w2⟩
theorem cx_r {Γ : Cx} {rr : Nat} {n d r x : Int} {o c : Nat} {u v : List Int} {vs : Value} (h1 : Γ.hi = [38, -1, -1, 255, -1, -1]) (h2 : Γ.bl = [⟨0, [(0, 1)]⟩, ⟨0, [(2, 1)]⟩]) (h3 : Γ.ops = [(.rem, .u8, ⟨0, [(3, 1)]⟩, lit 4, some (lit rr), false)]) (h4 : Γ.cv = []) (h5 : Γ.sq = []) (h6 : Γ.zs = [])
    (hn : 0 ≤ n ∧ n ≤ 38) (hd : 0 ≤ d) (hr : 0 ≤ r) (hx : 0 ≤ x ∧ x ≤ 255) (hu : (u.length : Int) = n) (hv : (v.length : Int) = r) (hub : ∀ z ∈ u, 0 ≤ z ∧ z < 256) (hvb : ∀ z ∈ v, 0 ≤ z ∧ z < 256) (hm : x % 4 = rr) : CxOk Γ (rhoR n d r x o c u v vs) := by
  refine ⟨bnds_r h1 hn hd hr hx, fun i => ?_, fun i z hz => ?_, one_opI h3 ?_, fun z hz => (by rw [h4] at hz; cases hz), fun z hz => (by rw [h5] at hz; cases hz), fun z hz => (by rw [h6] at hz; cases hz)⟩
  · rw [h2]
    match i with
    | 0 => show (u.length : Int) = 0 + (1 * n + 0); omega
    | 1 => show (v.length : Int) = 0 + (1 * r + 0); omega
    | i + 2 => show (0 : Int) = (lit 0).ev _; rw [ev_lit]
  · match i, hz with
    | 0, hz => exact hub z hz
    | 1, hz => exact hvb z hz
    | _ + 2, hz => cases hz
  · show intBin .rem .u8 .u8 (0 + (1 * x + 0)) ((lit 4).ev _) = some (.int .u8 ((lit rr).ev _))
    rw [ev_lit, ev_lit, show (0 : Int) + (1 * x + 0) = x by omega]
    show (if IntKind.u8 = IntKind.u8 then (match BinOp.rem with | _ => (cond (intB 4 0) none (some (Value.int .u8 (x.tmod 4))))) else none) = _
    rw [if_pos rfl]
    show some (Value.int .u8 (x.tmod 4)) = _
    rw [Int.tmod_eq_emod_of_nonneg hx.1, hm]
theorem cx_b {n d len : Int} {o c : Nat} {vs : Value} (hn : 0 ≤ n ∧ n ≤ 38) (hd : 0 ≤ d) (hl : 0 ≤ len) (hle : len ≤ n) : CxOk gb (rhoR n d len 0 o c [] [] vs) := by
  refine ⟨bnds_r rfl hn hd hl ⟨Int.le_refl 0, by decide⟩, fun i => ?_, fun i z hz => ?_, one_opB rfl ?_, fun z hz => (by cases hz), fun z hz => (by cases hz), fun z hz => (by cases hz)⟩
  · match i with
    | 0 => show (0 : Int) = (lit 0).ev _; rw [ev_lit]
    | 1 => show (0 : Int) = (lit 0).ev _; rw [ev_lit]
    | i + 2 => show (0 : Int) = (lit 0).ev _; rw [ev_lit]
  · match i, hz with
    | 0, hz => cases hz
    | 1, hz => cases hz
    | _ + 2, hz => cases hz
  · show (if IntKind.i64 = IntKind.i64 then some (Value.bool (!intLe (0 + (1 * len + 0)) (0 + (1 * n + 0)))) else none) = some (Value.bool false)
    rw [if_pos rfl]
    have : intLe (0 + (1 * len + 0)) (0 + (1 * n + 0)) = true := intLe_iff.2 (by omega)
    rw [this]; rfl
theorem cx_z {n d : Int} {vs : Value} (hn : 0 ≤ n ∧ n ≤ 38) (hd : 0 ≤ d) : CxOk gz (rhoR n d 0 0 0 0 [] [] vs) := by
  refine ⟨bnds_r rfl hn hd (Int.le_refl 0) ⟨Int.le_refl 0, by decide⟩, fun i => ?_, fun i z hz => ?_, fun z hz => (by cases hz), fun z hz => (by cases hz), fun z hz => (by cases hz), fun z hz => (by cases hz)⟩
  · match i with
    | 0 => show (0 : Int) = (lit 0).ev _; rw [ev_lit]
    | 1 => show (0 : Int) = (lit 0).ev _; rw [ev_lit]
    | i + 2 => show (0 : Int) = (lit 0).ev _; rw [ev_lit]
  · match i, hz with
    | 0, hz => cases hz
    | 1, hz => cases hz
    | _ + 2, hz => cases hz
theorem cx_x {n d : Int} {vs : Value} (hn : n = 39) (hd : 0 ≤ d) : CxOk gxx (rhoR n d 0 0 0 0 [] [] vs) := by
  subst hn
  refine ⟨fun i => ?_, fun i => ?_, fun i z hz => ?_, one_opB rfl ?_, fun z hz => (by cases hz), fun z hz => (by cases hz), fun z hz => (by cases hz)⟩
  · match i with
    | 0 => exact ⟨show (0 : Int) ≤ 39 by decide, fun _ => Int.le_refl 39⟩
    | 1 => exact ⟨hd, fun h => absurd (show (0 : Int) ≤ -1 from h) (by decide)⟩
    | 2 => exact ⟨Int.le_refl 0, fun h => absurd (show (0 : Int) ≤ -1 from h) (by decide)⟩
    | 3 => exact ⟨Int.le_refl 0, fun _ => show (0 : Int) ≤ 255 by decide⟩
    | 4 => exact ⟨Int.le_refl 0, fun h => absurd (show (0 : Int) ≤ -1 from h) (by decide)⟩
    | 5 => exact ⟨Int.le_refl 0, fun h => absurd (show (0 : Int) ≤ -1 from h) (by decide)⟩
    | i + 6 => exact ⟨Int.le_refl 0, fun _ => Int.le_refl 0⟩
  · match i with
    | 0 => show (0 : Int) = (lit 0).ev _; rw [ev_lit]
    | 1 => show (0 : Int) = (lit 0).ev _; rw [ev_lit]
    | i + 2 => show (0 : Int) = (lit 0).ev _; rw [ev_lit]
  · match i, hz with
    | 0, hz => cases hz
    | 1, hz => cases hz
    | _ + 2, hz => cases hz
  · show (if IntKind.i64 = IntKind.i64 then some (Value.bool (intLe (2 + (1 * (39 : Int) + 0)) ((lit 40).ev _))) else none) = some (Value.bool false)
    rw [if_pos rfl, ev_lit]; rfl
theorem grd_get : ∀ m, grd.get m = match m with | 0 => some (Ob.win ⟨0, [(4, 1)]⟩ [.b 0, .v (.n .u8 ⟨0, [(3, 1)]⟩), .b 1]) | _ + 1 => none := by
  intro m
  have hp : Tr.put 64 (.nil : Tr Ob) 0 (Ob.win ⟨0, [(4, 1)]⟩ [.b 0, .v (.n .u8 ⟨0, [(3, 1)]⟩), .b 1]) = some grd := rfl
  obtain ⟨h1, h2⟩ := Tr.get_put _ _ _ _ _ hp
  cases m with
  | zero => exact h1
  | succ m => rw [h2 (m + 1) (by omega)]; exact Tr.get_nil _
theorem grd_ground : GroundOk grd 1 := fun m hm => by
  rw [grd_get]
  cases m with
  | zero => omega
  | succ m => rfl
theorem nil_ground1 : GroundOk (.nil : Tr Ob) 1 := fun m _ => Tr.get_nil m
section
variable {fn : Func} {vis0 : Vs} {N : Nat} {c : Code} {w : World} {Own : Nat → Prop} {L0 : Ln} {vs : Value} {n : Nat} {p : Bool} {A : Int} {a : Act} {w' : World}
def RndOk (vis0 : Vs) (N : Nat) (c : Code) (w : World) (Own : Nat → Prop) (L0 : Ln) (vs : Value) (n : Nat) (_p : Bool) (_A : Int) (a : Act) (w' : World) (p' : Bool) (A' : Int) : Prop :=
  ∀ Q : Exit → Act → World → Prop, (∀ a1 w1, WInv vis0 w Own L0 vs (n + 1) p' A' a1 w1 → SzOk N a1 → Q .normal a1 w1) → c.wp tP Q a w'
structure LpOk (fn : Func) (vis0 : Vs) (N : Nat) (c : Code) : Prop where
  vis : posOf vis0 0 = some 0
  uniq : ∀ t, posOf vis0 t = some 0 → t = 0
  body : ∀ Γ ρ, CxOk Γ ρ → Snd ρ tP fn vis0 N vis0 (bodyAt Γ 11 13) (fun Q a w => c.wp tP Q a w)
theorem rnd_z (hl : LpOk fn vis0 N c) (hown : ∀ b, w.heap.size ≤ b → Own b) {r : Rn} (hΓr : r.Γ = gz) (hbr : r.b = .nil) (hsr : r.sy = .c (.slice none 0 0)) (hcv : r.cv = true) (hgo : r.go = true) {d A' : Int} (hn : n ≤ 38) (hd : 0 ≤ d)
    (hA : r.A.ev (rhoR n d 0 0 0 0 [] [] (.slice none 0 0)).a = A) (hA' : r.A'.ev (rhoR n d 0 0 0 0 [] [] (.slice none 0 0)).a = A') (h : WInv vis0 w Own L0 (.slice none 0 0) n r.p A a w') (hN : SzOk N a) : RndOk vis0 N c w Own L0 (.slice none 0 0) n r.p A a w' r.p' A' := fun Q hQ => by
  have hΓ : CxOk r.Γ (rhoR n d 0 0 0 0 [] [] (.slice none 0 0)) := by rw [hΓr]; exact cx_z ⟨by omega, by omega⟩ hd
  exact w_round hl.vis hl.uniq (cS_ok hΓ) (hl.body _ _ hΓ) hown (by rw [hbr]; exact nil_ground1) hcv hgo rfl hA hA' (fun θ _ => by rw [hsr]; simp only [W]) (fun θ o ho => by rw [hbr, Tr.get_nil] at ho; cases ho) h hN hQ
theorem rnd_b (hl : LpOk fn vis0 N c) (hown : ∀ b, w.heap.size ≤ b → Own b) {r : Rn} (hΓr : r.Γ = gb) (hbr : r.b = .nil) (hsr : r.sy = .l 0 1 ⟨0, [(4, 1)]⟩ ⟨0, [(2, 1)]⟩ (some ⟨0, [(5, 1)]⟩) ⟨0, [(4, 1)]⟩) (hcv : r.cv = true) (hgo : r.go = true) {d A' : Int} {o len cp : Nat} (hn : n ≤ 38) (hd : 0 ≤ d)
    (hle : len ≤ n) (hoc : o + cp ≤ L0.sz) (hlc : len ≤ cp)
    (hA : r.A.ev (rhoR n d len 0 o cp [] [] (.slice (some ⟨L0.b, o, none⟩) len cp)).a = A) (hA' : r.A'.ev (rhoR n d len 0 o cp [] [] (.slice (some ⟨L0.b, o, none⟩) len cp)).a = A') (h : WInv vis0 w Own L0 (.slice (some ⟨L0.b, o, none⟩) len cp) n r.p A a w') (hN : SzOk N a) : RndOk vis0 N c w Own L0 (.slice (some ⟨L0.b, o, none⟩) len cp) n r.p A a w' r.p' A' := fun Q hQ => by
  have hΓ : CxOk r.Γ (rhoR n d len 0 o cp [] [] (.slice (some ⟨L0.b, o, none⟩) len cp)) := by rw [hΓr]; exact cx_b ⟨by omega, by omega⟩ hd (by omega) (by omega)
  refine w_round hl.vis hl.uniq (cS_ok hΓ) (hl.body _ _ hΓ) hown (by rw [hbr]; exact nil_ground1) hcv hgo rfl hA hA' (fun θ h0 => ?_) (fun θ o ho => by rw [hbr, Tr.get_nil] at ho; cases ho) h hN hQ
  rw [hsr]
  simp only [W]
  have e4 : (⟨0, [(4, 1)]⟩ : Lin).ev (rhoR n d len 0 o cp [] [] (.slice (some ⟨L0.b, o, none⟩) len cp)).a = o := by show (0 : Int) + (1 * (o : Int) + 0) = o; omega
  have e2 : (⟨0, [(2, 1)]⟩ : Lin).ev (rhoR n d len 0 o cp [] [] (.slice (some ⟨L0.b, o, none⟩) len cp)).a = len := by show (0 : Int) + (1 * (len : Int) + 0) = len; omega
  have e5 : (⟨0, [(5, 1)]⟩ : Lin).ev (rhoR n d len 0 o cp [] [] (.slice (some ⟨L0.b, o, none⟩) len cp)).a = cp := by show (0 : Int) + (1 * (cp : Int) + 0) = cp; omega
  rw [e4, e2, e5]
  refine ⟨L0, h0, Nat.one_pos, by omega, by omega, by omega, cp, ⟨rfl, by rw [Int.toNat_natCast]; omega⟩, by rw [Int.toNat_natCast]; exact hlc, ?_⟩
  rw [Int.toNat_natCast, Int.toNat_natCast, ite_self]
theorem rnd_r (hl : LpOk fn vis0 N c) (hown : ∀ b, w.heap.size ≤ b → Own b) {r : Rn} {g : Cx} {rr : Nat} (hΓr : r.Γ = g) (h1 : g.hi = [38, -1, -1, 255, -1, -1]) (h2 : g.bl = [⟨0, [(0, 1)]⟩, ⟨0, [(2, 1)]⟩]) (h3 : g.ops = [(.rem, .u8, ⟨0, [(3, 1)]⟩, lit 4, some (lit rr), false)]) (h4 : g.cv = []) (h5 : g.sq = []) (h6 : g.zs = [])
    (hbr : r.b = grd) (hsr : r.sy = .l 0 1 ⟨0, [(4, 1)]⟩ ⟨1, [(0, 1), (2, 1)]⟩ (some ⟨0, [(5, 1)]⟩) (lit 0)) (hcv : r.cv = true) (hgo : r.go = true) {d A' : Int} {o cp : Nat} {l : List Int} (hn : n ≤ 38) (hd : 0 ≤ d)
    (hlt : n < l.length) (hoc : o + cp ≤ L0.sz) (hlc : l.length ≤ cp) (hby : ∀ z ∈ l, 0 ≤ z ∧ z < 256) (hL : LiesAt w' L0.b o l) (hno : ¬ Own L0.b) (hm : l[n] % 4 = rr)
    (hA : r.A.ev (rhoR n d ((l.length - n - 1 : Nat) : Int) l[n] o cp (l.take n) (l.drop (n + 1)) (.slice (some ⟨L0.b, o, none⟩) l.length cp)).a = A) (hA' : r.A'.ev (rhoR n d ((l.length - n - 1 : Nat) : Int) l[n] o cp (l.take n) (l.drop (n + 1)) (.slice (some ⟨L0.b, o, none⟩) l.length cp)).a = A')
    (h : WInv vis0 w Own L0 (.slice (some ⟨L0.b, o, none⟩) l.length cp) n r.p A a w') (hN : SzOk N a) : RndOk vis0 N c w Own L0 (.slice (some ⟨L0.b, o, none⟩) l.length cp) n r.p A a w' r.p' A' := fun Q hQ => by
  have hx : 0 ≤ l[n] ∧ l[n] ≤ 255 := by have := hby l[n] (List.getElem_mem hlt); omega
  generalize hρ : rhoR n d ((l.length - n - 1 : Nat) : Int) l[n] o cp (l.take n) (l.drop (n + 1)) (.slice (some ⟨L0.b, o, none⟩) l.length cp) = ρ at hA hA'
  have hΓ : CxOk r.Γ ρ := by
    rw [hΓr, ← hρ]
    exact cx_r h1 h2 h3 h4 h5 h6 ⟨by omega, by omega⟩ hd (by omega) hx (by rw [List.length_take]; omega) (by rw [List.length_drop]; omega) (fun z hz => hby z (List.mem_of_mem_take hz)) (fun z hz => hby z (List.mem_of_mem_drop hz)) hm
  have a0 : ρ.a 0 = n := by rw [← hρ]; rfl
  have a2 : ρ.a 2 = ((l.length - n - 1 : Nat) : Int) := by rw [← hρ]; rfl
  have a3 : ρ.a 3 = l[n] := by rw [← hρ]; rfl
  have a4 : ρ.a 4 = o := by rw [← hρ]; rfl
  have a5 : ρ.a 5 = cp := by rw [← hρ]; rfl
  have e4 : (⟨0, [(4, 1)]⟩ : Lin).ev ρ.a = o := by simp only [Lin.ev, evT, a4]; omega
  have e3 : (⟨0, [(3, 1)]⟩ : Lin).ev ρ.a = l[n] := by simp only [Lin.ev, evT, a3]; omega
  refine w_round hl.vis hl.uniq (cS_ok hΓ) (hl.body _ _ hΓ) hown (by rw [hbr]; exact grd_ground) hcv hgo a0 hA hA' (fun θ h0 => ?_) (fun θ ob ho => ?_) h hN hQ
  · rw [hsr]
    simp only [W]
    have e2 : (⟨1, [(0, 1), (2, 1)]⟩ : Lin).ev ρ.a = l.length := by simp only [Lin.ev, evT, a0, a2]; omega
    have e5 : (⟨0, [(5, 1)]⟩ : Lin).ev ρ.a = cp := by simp only [Lin.ev, evT, a5]; omega
    rw [e4, e2, e5, ev_lit]
    refine ⟨L0, h0, Nat.one_pos, by omega, by omega, Int.le_refl 0, cp, ⟨rfl, by rw [Int.toNat_natCast]; omega⟩, by rw [Int.toNat_natCast]; exact hlc, ?_⟩
    rw [if_neg (by omega), Int.toNat_natCast, Int.toNat_natCast]
  · rw [hbr, grd_get] at ho
    obtain rfl := Option.some.inj ho
    refine ⟨?_, hno⟩
    obtain ⟨pre, post, T, fz, g1, g2⟩ := hL
    refine ⟨pre, l.map (Value.int .u8), post, T, fz, g1, ?_, by rw [e4, g2]⟩
    have hs : l = l.take n ++ (l[n] :: l.drop (n + 1)) := by rw [List.getElem_cons_drop, List.take_append_drop]
    have b0 : ρ.b 0 = l.take n := by rw [← hρ]; rfl
    have b1 : ρ.b 1 = l.drop (n + 1) := by rw [← hρ]; rfl
    refine ⟨(l[n] :: l.drop (n + 1)).map (Value.int .u8), ?_, _, _, rfl, ?_, rfl, [], ?_, rfl⟩
    · unfold blobV; rw [b0, ← List.map_append, ← hs]
    · simp only [W]; rw [e3]
    · unfold blobV; rw [b1, List.append_nil]
end
end
end
end Go.Q

set_option maxRecDepth 100000
namespace Go.Q
noncomputable section
open Go.RowKit Go.Proofs
open Go.Z hiding cond_false get resF
noncomputable section
def JW (n : Nat) (p : Bool) (A : Int) : Prop := 2 + (n : Int) ≤ A ∧ 21 ≤ A ∧ (p = true → 41 ≤ A ∧ 22 ≤ 2 + (n : Int))
section
variable {fn : Func} {vis0 : Vs} {N : Nat} {c : Code} {w : World} {Own : Nat → Prop} {L0 : Ln} {vs : Value} {n : Nat} {p : Bool} {A : Int} {a : Act} {w' : World}
theorem lies_on (h : KeptW w Own w') {b o : Nat} {l : List Int} (hL : LiesAt w b o l) (hno : ¬ Own b) : LiesAt w' b o l := by
  obtain ⟨pre, post, T, fz, h1, h2⟩ := hL
  exact ⟨pre, post, T, fz, by rw [h.still b (Array.getElem?_eq_some_iff.1 h1).1 hno]; exact h1, h2⟩
theorem stepW (hl : LpOk fn vis0 N c) (hown : ∀ b, w.heap.size ≤ b → Own b) (hs : SaysIs w Own L0 vs) (hn : n ≤ 38) (hJ : JW n p A) (h : WInv vis0 w Own L0 vs n p A a w') (hN : SzOk N a) :
    ∃ p' A', JW (n + 1) p' A' ∧ RndOk vis0 N c w Own L0 vs n p A a w' p' A' := by
  obtain ⟨j1, j2, j3⟩ := hJ
  have hpA : p = true → A ≠ 2 + (n : Int) := fun hp => by have := j3 hp; omega
  cases hs with
  | nil =>
    cases p with
    | true =>
      have := j3 rfl
      have := hpA rfl
      exact ⟨true, A, ⟨by push_cast; omega, j2, fun _ => ⟨by omega, by push_cast; omega⟩⟩, rnd_z (r := wt1z) (d := A - (3 + n)) hl hown rfl rfl rfl cv_t1z go_t1z hn (by omega) (by show (3 : Int) + (1 * (n : Int) + (1 * (A - (3 + n)) + 0)) = A; omega) (by show (3 : Int) + (1 * (n : Int) + (1 * (A - (3 + n)) + 0)) = A; omega) h hN⟩
    | false =>
      by_cases e : A = 2 + (n : Int)
      · exact ⟨true, 22 + n, ⟨by push_cast; omega, by omega, fun _ => ⟨by omega, by push_cast; omega⟩⟩, rnd_z (r := wf0z) (d := 0) hl hown rfl rfl rfl cv_f0z go_f0z hn (by omega) (by show (2 : Int) + (1 * (n : Int) + 0) = A; omega) (by show (22 : Int) + (1 * (n : Int) + 0) = 22 + n; omega) h hN⟩
      · exact ⟨false, A, ⟨by push_cast; omega, j2, fun h => by cases h⟩, rnd_z (r := wf1z) (d := A - (3 + n)) hl hown rfl rfl rfl cv_f1z go_f1z hn (by omega) (by show (3 : Int) + (1 * (n : Int) + (1 * (A - (3 + n)) + 0)) = A; omega) (by show (3 : Int) + (1 * (n : Int) + (1 * (A - (3 + n)) + 0)) = A; omega) h hN⟩
  | at_ b o cp l hb hoc hlc hby hw =>
    subst hb
    by_cases hlt : n < l.length
    · have hne : l ≠ [] := fun e => by subst e; simp at hlt
      obtain ⟨hL, hno⟩ := hw hne
      have hL' := lies_on h.kept hL hno
      have hr : l[n] % 4 = 0 ∨ l[n] % 4 = 1 ∨ l[n] % 4 = 2 ∨ l[n] % 4 = 3 := by omega
      rcases hr with hr | hr | hr | hr
      · cases p with
        | true =>
          have := j3 rfl
          have := hpA rfl
          exact ⟨true, 22 + n, ⟨by push_cast; omega, by omega, fun _ => ⟨by omega, by push_cast; omega⟩⟩, rnd_r (r := wt1r0) (g := gr0) (rr := 0) (d := A - (3 + n)) hl hown rfl rfl rfl rfl rfl rfl rfl rfl rfl cv_t1r0 go_t1r0 hn (by omega) hlt hoc hlc hby hL' hno hr (by show (3 : Int) + (1 * (n : Int) + (1 * (A - (3 + n)) + 0)) = A; omega) (by show (22 : Int) + (1 * (n : Int) + 0) = 22 + n; omega) h hN⟩
        | false =>
          by_cases e : A = 2 + (n : Int)
          · exact ⟨false, 22 + n, ⟨by push_cast; omega, by omega, fun h => by cases h⟩, rnd_r (r := wf0r0) (g := gr0) (rr := 0) (d := 0) hl hown rfl rfl rfl rfl rfl rfl rfl rfl rfl cv_f0r0 go_f0r0 hn (by omega) hlt hoc hlc hby hL' hno hr (by show (2 : Int) + (1 * (n : Int) + 0) = A; omega) (by show (22 : Int) + (1 * (n : Int) + 0) = 22 + n; omega) h hN⟩
          · exact ⟨false, 22 + n, ⟨by push_cast; omega, by omega, fun h => by cases h⟩, rnd_r (r := wf1r0) (g := gr0) (rr := 0) (d := A - (3 + n)) hl hown rfl rfl rfl rfl rfl rfl rfl rfl rfl cv_f1r0 go_f1r0 hn (by omega) hlt hoc hlc hby hL' hno hr (by show (3 : Int) + (1 * (n : Int) + (1 * (A - (3 + n)) + 0)) = A; omega) (by show (22 : Int) + (1 * (n : Int) + 0) = 22 + n; omega) h hN⟩
      · cases p with
        | true =>
          have := j3 rfl
          have := hpA rfl
          exact ⟨false, 22 + n, ⟨by push_cast; omega, by omega, fun h => by cases h⟩, rnd_r (r := wt1r1) (g := gr1) (rr := 1) (d := A - (3 + n)) hl hown rfl rfl rfl rfl rfl rfl rfl rfl rfl cv_t1r1 go_t1r1 hn (by omega) hlt hoc hlc hby hL' hno hr (by show (3 : Int) + (1 * (n : Int) + (1 * (A - (3 + n)) + 0)) = A; omega) (by show (22 : Int) + (1 * (n : Int) + 0) = 22 + n; omega) h hN⟩
        | false =>
          by_cases e : A = 2 + (n : Int)
          · exact ⟨false, 22 + n, ⟨by push_cast; omega, by omega, fun h => by cases h⟩, rnd_r (r := wf0r1) (g := gr1) (rr := 1) (d := 0) hl hown rfl rfl rfl rfl rfl rfl rfl rfl rfl cv_f0r1 go_f0r1 hn (by omega) hlt hoc hlc hby hL' hno hr (by show (2 : Int) + (1 * (n : Int) + 0) = A; omega) (by show (22 : Int) + (1 * (n : Int) + 0) = 22 + n; omega) h hN⟩
          · exact ⟨false, 22 + n, ⟨by push_cast; omega, by omega, fun h => by cases h⟩, rnd_r (r := wf1r1) (g := gr1) (rr := 1) (d := A - (3 + n)) hl hown rfl rfl rfl rfl rfl rfl rfl rfl rfl cv_f1r1 go_f1r1 hn (by omega) hlt hoc hlc hby hL' hno hr (by show (3 : Int) + (1 * (n : Int) + (1 * (A - (3 + n)) + 0)) = A; omega) (by show (22 : Int) + (1 * (n : Int) + 0) = 22 + n; omega) h hN⟩
      · cases p with
        | true =>
          have := j3 rfl
          have := hpA rfl
          exact ⟨true, A, ⟨by push_cast; omega, j2, fun _ => ⟨by omega, by push_cast; omega⟩⟩, rnd_r (r := wt1r2) (g := gr2) (rr := 2) (d := A - (3 + n)) hl hown rfl rfl rfl rfl rfl rfl rfl rfl rfl cv_t1r2 go_t1r2 hn (by omega) hlt hoc hlc hby hL' hno hr (by show (3 : Int) + (1 * (n : Int) + (1 * (A - (3 + n)) + 0)) = A; omega) (by show (3 : Int) + (1 * (n : Int) + (1 * (A - (3 + n)) + 0)) = A; omega) h hN⟩
        | false =>
          by_cases e : A = 2 + (n : Int)
          · exact ⟨true, 22 + n, ⟨by push_cast; omega, by omega, fun _ => ⟨by omega, by push_cast; omega⟩⟩, rnd_r (r := wf0r2) (g := gr2) (rr := 2) (d := 0) hl hown rfl rfl rfl rfl rfl rfl rfl rfl rfl cv_f0r2 go_f0r2 hn (by omega) hlt hoc hlc hby hL' hno hr (by show (2 : Int) + (1 * (n : Int) + 0) = A; omega) (by show (22 : Int) + (1 * (n : Int) + 0) = 22 + n; omega) h hN⟩
          · exact ⟨false, A, ⟨by push_cast; omega, j2, fun h => by cases h⟩, rnd_r (r := wf1r2) (g := gr2) (rr := 2) (d := A - (3 + n)) hl hown rfl rfl rfl rfl rfl rfl rfl rfl rfl cv_f1r2 go_f1r2 hn (by omega) hlt hoc hlc hby hL' hno hr (by show (3 : Int) + (1 * (n : Int) + (1 * (A - (3 + n)) + 0)) = A; omega) (by show (3 : Int) + (1 * (n : Int) + (1 * (A - (3 + n)) + 0)) = A; omega) h hN⟩
      · cases p with
        | true =>
          have := j3 rfl
          have := hpA rfl
          exact ⟨true, A, ⟨by push_cast; omega, j2, fun _ => ⟨by omega, by push_cast; omega⟩⟩, rnd_r (r := wt1r3) (g := gr3) (rr := 3) (d := A - (3 + n)) hl hown rfl rfl rfl rfl rfl rfl rfl rfl rfl cv_t1r3 go_t1r3 hn (by omega) hlt hoc hlc hby hL' hno hr (by show (3 : Int) + (1 * (n : Int) + (1 * (A - (3 + n)) + 0)) = A; omega) (by show (3 : Int) + (1 * (n : Int) + (1 * (A - (3 + n)) + 0)) = A; omega) h hN⟩
        | false =>
          by_cases e : A = 2 + (n : Int)
          · exact ⟨true, 22 + n, ⟨by push_cast; omega, by omega, fun _ => ⟨by omega, by push_cast; omega⟩⟩, rnd_r (r := wf0r3) (g := gr3) (rr := 3) (d := 0) hl hown rfl rfl rfl rfl rfl rfl rfl rfl rfl cv_f0r3 go_f0r3 hn (by omega) hlt hoc hlc hby hL' hno hr (by show (2 : Int) + (1 * (n : Int) + 0) = A; omega) (by show (22 : Int) + (1 * (n : Int) + 0) = 22 + n; omega) h hN⟩
          · exact ⟨false, A, ⟨by push_cast; omega, j2, fun h => by cases h⟩, rnd_r (r := wf1r3) (g := gr3) (rr := 3) (d := A - (3 + n)) hl hown rfl rfl rfl rfl rfl rfl rfl rfl rfl cv_f1r3 go_f1r3 hn (by omega) hlt hoc hlc hby hL' hno hr (by show (3 : Int) + (1 * (n : Int) + (1 * (A - (3 + n)) + 0)) = A; omega) (by show (3 : Int) + (1 * (n : Int) + (1 * (A - (3 + n)) + 0)) = A; omega) h hN⟩
    · have hle : l.length ≤ n := by omega
      cases p with
      | true =>
        have := j3 rfl
        have := hpA rfl
        exact ⟨true, A, ⟨by push_cast; omega, j2, fun _ => ⟨by omega, by push_cast; omega⟩⟩, rnd_b (r := wt1b) (d := A - (3 + n)) hl hown rfl rfl rfl cv_t1b go_t1b hn (by omega) hle hoc hlc (by show (3 : Int) + (1 * (n : Int) + (1 * (A - (3 + n)) + 0)) = A; omega) (by show (3 : Int) + (1 * (n : Int) + (1 * (A - (3 + n)) + 0)) = A; omega) h hN⟩
      | false =>
        by_cases e : A = 2 + (n : Int)
        · exact ⟨true, 22 + n, ⟨by push_cast; omega, by omega, fun _ => ⟨by omega, by push_cast; omega⟩⟩, rnd_b (r := wf0b) (d := 0) hl hown rfl rfl rfl cv_f0b go_f0b hn (by omega) hle hoc hlc (by show (2 : Int) + (1 * (n : Int) + 0) = A; omega) (by show (22 : Int) + (1 * (n : Int) + 0) = 22 + n; omega) h hN⟩
        · exact ⟨false, A, ⟨by push_cast; omega, j2, fun h => by cases h⟩, rnd_b (r := wf1b) (d := A - (3 + n)) hl hown rfl rfl rfl cv_f1b go_f1b hn (by omega) hle hoc hlc (by show (3 : Int) + (1 * (n : Int) + (1 * (A - (3 + n)) + 0)) = A; omega) (by show (3 : Int) + (1 * (n : Int) + (1 * (A - (3 + n)) + 0)) = A; omega) h hN⟩
theorem outW (hl : LpOk fn vis0 N c) (hown : ∀ b, w.heap.size ≤ b → Own b) (hn : n = 39) (hA0 : 0 ≤ A) (h : WInv vis0 w Own L0 vs n p A a w') (hN : SzOk N a) {Q : Exit → Act → World → Prop} (hQ : ∀ a1 w1, KeptW w Own w1 → SzOk N a1 → Q (.exit 0) a1 w1) : c.wp tP Q a w' := by
  have key : ∀ r : Rn, r.Γ = gxx → r.b = .nil → r.sy = .x 0 → r.A = alG → r.p = p → r.cv = true → r.out = true → c.wp tP Q a w' := by
    intro r e1 e2 e3 e4 e5 hcv hout
    subst e5
    have hΓ : CxOk r.Γ (rhoR n A 0 0 0 0 [] [] vs) := by rw [e1]; exact cx_x (by omega) hA0
    obtain ⟨θ, hz0, hs, he, ho⟩ := w_in (ρr := rhoR n A 0 0 0 0 [] [] vs) hl.vis hl.uniq (by rw [e2]; exact nil_ground1) hcv rfl (by rw [e4]; show (0 : Int) + (1 * A + 0) = A; omega) (fun θ _ => by rw [e3]; simp only [W]; rfl) (fun θ ob hob => by rw [e2, Tr.get_nil] at hob; cases hob) h
    unfold Rn.out at hout
    cases hr : (bodyAt r.Γ 11 13).r (cS r.Γ) r.k.e r.st with
    | x j e1 s1 =>
      rw [hr] at hout
      replace hout : Nat.beq 0 j = true := hout
      obtain rfl := nbeq hout
      refine hl.body _ _ hΓ (cS r.Γ) (cS_ok hΓ) r.k.e θ r.st a w' [.x 0 e1 s1] _ hs he hN (by rw [hr]; rfl) ⟨fun e2 s2 hin => (by simp at hin), fun i2 e2 s2 hin θ2 a2 w2 g2 he2 hN2 => ?_, fun d2 s2 hin => (by simp at hin)⟩
      simp only [List.mem_singleton, XK.x.injEq] at hin
      obtain ⟨rfl, rfl, rfl⟩ := hin
      exact hQ _ _ (kept_go h.kept hown g2 rfl ho).1 hN2
    | _ => rw [hr] at hout; cases hout
  cases p with
  | true => exact key wxt rfl rfl rfl rfl rfl cv_xt out_xt
  | false => exact key wxf rfl rfl rfl rfl rfl cv_xf out_xf
theorem loopW (hl : LpOk fn vis0 N c) (hown : ∀ b, w.heap.size ≤ b → Own b) (hs : SaysIs w Own L0 vs) (h : WInv vis0 w Own L0 vs 0 false 21 a w') (hN : SzOk N a) {Q : Exit → Act → World → Prop} (hQ : ∀ a1 w1, KeptW w Own w1 → SzOk N a1 → Q (.exit 0) a1 w1) : (Code.loop c).wp tP Q a w' := by
  refine wp_loop_ghost (fun m a' w' => ∃ n p A, n + m = 39 ∧ JW n p A ∧ WInv vis0 w Own L0 vs n p A a' w' ∧ SzOk N a') 39 ⟨0, false, 21, rfl, ⟨by decide, by decide, fun h => by cases h⟩, h, hN⟩ ?_
  rintro m a' w'' ⟨n, p, A, hm, hJ, hI, hN'⟩
  cases m with
  | zero => exact outW hl hown (by omega) (by have := hJ.2.1; omega) hI hN' hQ
  | succ m =>
    obtain ⟨p', A', hJ', hR⟩ := stepW hl hown hs (by omega) hJ hI hN'
    exact hR _ fun a1 w1 h1 h2 => ⟨m, Nat.lt_succ_self m, n + 1, p', A', by omega, hJ', h1, h2⟩
end
end
end
end Go.Q

