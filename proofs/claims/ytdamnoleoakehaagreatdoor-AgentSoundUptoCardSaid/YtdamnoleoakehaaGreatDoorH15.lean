/- Part 15 of what the closing text rests on. -/
import Derived.Test.YtdamnoleoakehaaGreatDoorH14
import Derived.ProofKit
import Derived.Lib.EndianBits
namespace Go.Z
open Go.ChangeShapes Go.WideShapes Go.ChangeAt Go.RowKit

section
variable {H : Type} {enc : TypeId × Value → H} {P : Program}

def readables (P : Program) (ts : List TypeId) : Bool := ts.all fun t => P.readableRec t && decide (t < P.types.size)

theorem trodAll_below (hl : laidOutB P = true) {W W' : World} (hb : Below W.heap.size W W') {sp : Nat → Bool} : ∀ {ts : List TypeId} {vs : List Value} {ds : List (DataW H)} {ps : List MemPlace},
    readables P ts = true → DataW.TrodAll enc P W 0 (fun _ => true) true ts vs ds ps → (∀ x ∈ ps, x.block < W.heap.size) → (∀ x ∈ ps, sp x.block = true) → DataW.TrodAll enc P W' 0 sp true ts vs ds ps
  | [], [], [], _, _, h, _, _ => h
  | [], [], _ :: _, _, _, h, _, _ => h.elim
  | [], _ :: _, _, _, _, h, _, _ => h.elim
  | _ :: _, [], _, _, _, h, _, _ => h.elim
  | _ :: _, _ :: _, [], _, _, h, _, _ => h.elim
  | t :: ts, v :: vs, d :: ds, ps, hr, h, hlt, hsp => by
    obtain ⟨p, q, h1, h2, rfl⟩ := h
    simp only [readables, List.all_cons, Bool.and_eq_true, decide_eq_true_eq] at hr
    refine ⟨p, q, WideElems.Trod_stays hl hr.1.1 hr.1.2 h1 (fun x hx => hb.same (hlt x (List.mem_append.2 (.inl hx)))) (fun x hx => hsp x (List.mem_append.2 (.inl hx))),
      trodAll_below hl hb (by simpa [readables] using hr.2) h2 (fun x hx => hlt x (List.mem_append.2 (.inr hx))) (fun x hx => hsp x (List.mem_append.2 (.inr hx))), rfl⟩

theorem post_true {f : Func} {s : ChangeSpec} {apart fresh handsOn again : Bool} {W W' : World} {args : Array Value} {ds gs : List (DataW H)} {before : List MemPlace} {t : TypeId}
    (hl : laidOutB P = true) (hrd : readables P f.params.toList = true) (hvs : s.vars = []) (hrt : f.resultTypes = #[t]) (ht : P.underlying t = some .bool)
    (hW : DataW.Whole enc P f.params.toList s.vars apart W args.toList ds gs before)
    (hfn : (s.fn H (ds ++ gs)).results = [.lit (.bool true)] ∧ (s.fn H (ds ++ gs)).args = ds ∧ (s.fn H (ds ++ gs)).vars = [])
    (hb : Below W.heap.size W W') : s.post enc P f apart fresh handsOn again W args (.bool true) W' := by
  have hlt := hW.lt
  have hW' := hW
  obtain ⟨p, q, hA, hV, rfl, hz, hn⟩ := hW
  rw [hvs] at hV
  have hq : q = [] := by
    cases gs with
    | nil => exact hV
    | cons _ _ => exact hV.elim
  subst hq
  have hargs : ∀ sp : Nat → Bool, (∀ x ∈ p ++ [], sp x.block = true) → DataW.TrodAll enc P W' 0 sp true f.params.toList args.toList (s.fn H (ds ++ gs)).args p := fun sp hsp => by
    rw [hfn.2.1]
    exact trodAll_below hl hb hrd hA (fun x hx => hlt x (by simpa using hx)) (fun x hx => hsp x (by simpa using hx))
  have hvars : ∀ sp : Nat → Bool, DataW.TrodVars enc P W' sp s.vars (s.fn H (ds ++ gs)).vars [] := fun sp => by rw [hvs, hfn.2.2]; rfl
  have hres : ∀ (b : Nat) (sp : Nat → Bool) (hd : Bool), DataW.TrodAll enc P W' b sp hd f.resultTypes.toList ((Value.bool true).resultList f.resultTypes.size) (s.fn H (ds ++ gs)).results [] := fun b sp hd => by
    rw [hrt, hfn.1]
    exact trodAll_mk1 (shut_bool ht true)
  have hold : ∀ x ∈ p ++ [], (fun b => decide (b < W.heap.size)) x.block = true := fun x hx => by simpa using hlt x hx
  refine ⟨ds, gs, p ++ [], [], p, [], hW', hres _ _ _, hargs _ hold, hvars _, hb.frame _, fun _ => ?_⟩
  refine ⟨ok_one hrt rfl (okWide_bool_mk ht true), _, _, ([] ++ p) ++ [], ⟨[] ++ p, [], trodAll_append (hargs _ (fun _ _ => rfl)) (hres _ _ _), hvars _, rfl, ?_, ?_⟩, ?_⟩
  · intro b off hp
    have hp' : MemPlace.cell b off ∈ p ++ [] := by simpa using hp
    rw [hb.frozen (p := ⟨b, off, none⟩) (hlt _ hp')]
    exact hz b off hp'
  · intro ha
    have := hn ha
    simpa using this
  · intro x hx _
    simpa using hx

theorem ol_nil {X : Nat → Prop} {w : World} : OL.holds X w [] [] [] := by simp only [OL.holds]
theorem ol_cons {X : Nat → Prop} {w : World} {x : D} {v : Value} {l : List O} {vs : List Value} (h : x.holds X w v) (t : OL.holds X w l vs []) : OL.holds X w (.d x :: l) (v :: vs) [] := by
  simp only [OL.holds, O.holds]; exact ⟨[], [], rfl, ⟨h, rfl⟩, t⟩
theorem ol_ds {X : Nat → Prop} {w : World} : ∀ {ds : List D} {us : List Value}, DL.holds X w ds us → OL.holds X w (ds.map .d) us []
  | [], [], _ => ol_nil
  | [], _ :: _, h => h.elim
  | _ :: _, [], h => h.elim
  | _ :: _, _ :: _, h => ol_cons h.1 (ol_ds h.2)
theorem FnIs.law {f : Nat} {c : Ctr} (h : FnIs P f c) {ads : List O} {vs : List Value} {W : World} {A : Nat → Prop} (hA : OL.holds A W ads vs []) (hp : c.pre ads) (hr : c.res ads = [.d (.v (.bool true))]) (hg : GOK c.gl A W [] := by intro x hx; cases hx) :
    Calls P f vs.toArray W fun e W' => e = .returned (.bool true) ∧ Below W.heap.size W W' := by
  have hA' : OL.holds (fun b => A b ∧ b ∉ ([] : List Nat)) W ads vs [] := by simpa using hA
  refine (h.1 W A ads vs [] hA' List.nodup_nil (fun b hb => by cases hb) hp hg).mono ?_
  rintro e W' ⟨rs, fu, fr, rfl, hfr, _, _, _, hres⟩
  refine ⟨?_, hfr.os, hfr.tape, hfr.output, hfr.size, fun b hb => hfr.block b hb (by simp)⟩
  rw [hr] at hres
  have := scalars_holds (rs := [.d (.v (.bool true))]) rfl hres
  subst this
  rfl
end
end Go.Z

namespace Go.Z
open Go.ChangeShapes Go.WideShapes Go.ChangeAt Go.RowKit

section
variable {H : Type} {enc : TypeId × Value → H} {P : Program}

theorem spot_none {w : World} {a : Addr} {v : Value} (h : w.cell? a = some v) : a = ⟨a.block, a.off, none⟩ := by
  obtain ⟨b, o, s⟩ := a
  cases s with
  | none => rfl
  | some s =>
    unfold World.cell? at h
    split at h
    · simp at h
    · cases h

theorem add_spot (b o i : Nat) : Addr.add ⟨b, o, none⟩ i = ⟨b, o + i, none⟩ := by
  unfold Addr.add
  split
  · rename_i h; subst h; rfl
  · rfl

end
end Go.Z

namespace Go.ZM
open Go.Z

def be (n : Int) : Nat → List Int
  | 0 => []
  | k + 1 => (n / 256 ^ k) % 256 :: be n k
def valF (l : List Int) : Int := l.foldl (fun a x => a * 256 + x) 0
def padN (n : Nat) : Nat := (4 - n % 4) % 4
def padF (v : List Int) : List Int := v ++ List.replicate (padN v.length) 0
def okB (l : List Int) : Prop := ∀ x, x ∈ l → 0 ≤ x ∧ x ≤ 255

theorem be_len (n : Int) : ∀ k, (be n k).length = k
  | 0 => rfl
  | k + 1 => by simp [be, be_len n k]
theorem be_get (n : Int) : ∀ {k j : Nat}, j < k → (be n k).getD j 0 = (n / 256 ^ (k - 1 - j)) % 256
  | 0, _, h => absurd h (Nat.not_lt_zero _)
  | k + 1, 0, _ => by simp [be]
  | k + 1, j + 1, h => by
    have := be_get n (k := k) (j := j) (by omega)
    simp only [be, List.getD_cons_succ]
    rw [this, show k + 1 - 1 - (j + 1) = k - 1 - j by omega]
theorem take_succ_getD {l : List Int} {j : Nat} (h : j < l.length) : l.take (j + 1) = l.take j ++ [l.getD j 0] := by
  rw [List.take_succ_eq_append_getElem h, show l.getD j 0 = l[j] by simp [List.getD, List.getElem?_eq_getElem h]]

theorem padN_le (n : Nat) : padN n ≤ 3 := by unfold padN; omega
end Go.ZM
namespace Go.ZR
open Go.Z Go.ZM

theorem shr_byte {n : Int} (m : Nat) (hm : m ≤ 7) : IntKind.u8.wrap (n.fdiv (2 ^ min (((8 * m : Nat) : Int)).toNat (IntKind.bits .u64))) = (n / 256 ^ m) % 256 := by
  rw [IntKind.wrap_u8, Int.toNat_natCast, show min (8 * m) (IntKind.bits .u64) = 8 * m from Nat.min_eq_left (by show 8 * m ≤ 64; omega), Int.fdiv_eq_ediv_of_nonneg _ (Int.le_of_lt (Int.pow_pos (by decide))), Int.pow_mul]
  rfl
theorem and_three {n : Nat} : bits .and .i64 (IntKind.i64.wrap (0 - (n : Int))) 3 = (padN n : Nat) := by
  have h2 : (BitVec.ofInt 64 3).toNat = 3 := by decide
  have h3 : ∀ a : Nat, a &&& 3 = a % 4 := fun a => Nat.and_two_pow_sub_one_eq_mod a 2
  show IntKind.i64.wrap ((BitVec.ofInt 64 _ &&& BitVec.ofInt 64 3).toNat : Int) = _
  rw [BitVec.toNat_and, h2, h3, BitVec.toNat_ofInt, IntKind.wrap_i64, IntKind.wrap_i64]
  unfold padN
  omega
theorem wrap_i64_id {n : Int} (h0 : -9223372036854775808 ≤ n) (h1 : n ≤ 9223372036854775807) : IntKind.i64.wrap n = n := by
  rw [IntKind.wrap_i64]; omega
end Go.ZR

namespace Go.Z
open Go.RowKit

def readsTo (d d' : D) : Prop := ∀ X w c, d.holds X w c → d'.holds X w c
theorem readsTo_refl (d : D) : readsTo d d := fun _ _ _ h => h
theorem reads_recs {es n : Nat} {f g : Nat → Nat → D} (h : ∀ i, i < n → ∀ j, j < es → f i j = g i j) : readsTo (.recs es n f) (.recs es n g) := fun X w c hc => by
  obtain ⟨L, h1, h2, h3, h4, h5, h6⟩ := hc
  exact ⟨L, h1, h2, h3, h4, h5, fun i hi j hj => by rw [← h i hi j hj]; exact h6 i hi j hj⟩

def toO (o o' : O) : Prop := ∀ X w v f, O.holds X w o v f → O.holds X w o' v f
def toL (l l' : List O) : Prop := ∀ X w vs f, OL.holds X w l vs f → OL.holds X w l' vs f
theorem toO_refl (o : O) : toO o o := fun _ _ _ _ h => h
theorem toL_refl (l : List O) : toL l l := fun _ _ _ _ h => h
theorem toO_d {d d' : D} (h : readsTo d d') : toO (.d d) (.d d') := fun X w v f ho => by
  simp only [O.holds] at ho ⊢
  exact ⟨h _ _ _ ho.1, ho.2⟩
theorem toL_cons {o o' : O} {l l' : List O} (h : toO o o') (t : toL l l') : toL (o :: l) (o' :: l') := fun X w vs f ho => by
  cases vs with
  | nil => simp [OL.holds] at ho
  | cons v vs =>
    simp only [OL.holds] at ho ⊢
    obtain ⟨a, b, e, h1, h2⟩ := ho
    exact ⟨a, b, e, h _ _ _ _ h1, t _ _ _ _ h2⟩
theorem toO_agg {l l' : List O} (t : toL l l') : toO (.agg l) (.agg l') := fun X w v f ho => by
  simp only [O.holds] at ho ⊢
  obtain ⟨us, e, h⟩ := ho
  exact ⟨us, e, t _ _ _ _ h⟩

theorem FnIs.weak {P : Program} {f : Nat} {c c' : Ctr} (h : FnIs P f c) (hw : ∀ a, c'.pre a → ∃ a', c.pre a' ∧ toL a a' ∧ c.res a' = c'.res a ∧ c.upd a' = c'.upd a) (hg : c.gl = c'.gl := by rfl) : FnIs P f c' := by
  refine ⟨fun w A as vs fp h1 h2 h3 h4 h5 => ?_, h.2⟩
  obtain ⟨a', p1, p2, p3, p4⟩ := hw as h4
  have := h.1 w A a' vs fp (p2 _ _ _ _ h1) h2 h3 p1 (hg ▸ h5)
  rw [p3, p4] at this
  exact this
end Go.Z
