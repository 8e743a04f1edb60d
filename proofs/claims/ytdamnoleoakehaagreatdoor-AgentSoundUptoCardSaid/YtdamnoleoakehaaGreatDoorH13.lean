/- Part 13 of what the closing text rests on. -/
import Derived.Test.YtdamnoleoakehaaGreatDoorH12
namespace Go.Z
open Go.RowKit

def hidA (h : List (Nat × R)) (n : Nat) : Option (Nat × R) :=
  match hfind h n with
  | some (.own T d) => some (n, .own T d)
  | some (.pown T S m bs len f) => some (n, .pown T S m bs len f)
  | _ => none
def hid1 (h : List (Nat × R)) (s : SV) : Option (Nat × R) :=
  match s with
  | .p n _ => match hfind h n with
    | some (.blk T c) => some (n, .blk T c)
    | _ => none
  | .m n => match hfind h n with
    | some (.map ks vs) => some (n, .map ks vs)
    | some (.mapR ks m f) => some (n, .mapR ks m f)
    | some (.mapS ks l bn c) => some (n, .mapS ks l bn c)
    | _ => none
  | .q n => hidA h n
  | .e n _ _ _ => hidA h n
  | .a n => hidA h n
  | .px S _ _ _ => match pfind h S h with
    | some (q, T, m, bs, n, f) => some (q, .pown T S m bs n f)
    | none => none
  | _ => none
def hid (h : List (Nat × R)) : List SV → List (Nat × R)
  | [] => []
  | s :: l => match hid1 h s with
    | some x => x :: hid h l
    | none => hid h l
def deadOf : List (Nat × R) → List (Nat × R)
  | [] => []
  | (n, _) :: l => (n, .dead) :: deadOf l

def okSV (h : List (Nat × R)) : SV → Bool
  | .p n _ => match hfind h n with
    | some (.blk _ _) => true
    | some (.rblk _ _) => true
    | _ => false
  | .m n => match hfind h n with
    | some (.map _ _) => true
    | some (.rmap _ _) => true
    | some (.mapR _ _ _) => true
    | some (.mapS _ _ _ _) => true
    | _ => false
  | .q n => match hfind h n with
    | some (.own _ d) => Nat.blt 0 d.len
    | _ => false
  | .e n _ _ _ => match hfind h n with
    | some (.own _ _) => true
    | some (.ro _) => true
    | some (.pown ..) => true
    | _ => false
  | .a n => match hfind h n with
    | some (.own _ _) => true
    | some (.ro _) => true
    | some (.pown ..) => true
    | _ => false
  | _ => true
def okSVs (h : List (Nat × R)) : List SV → Bool
  | [] => true
  | s :: l => okSV h s && okSVs h l

def okPx (h : List (Nat × R)) : List SV → Prop → Prop
  | [], k => k
  | s :: l, k => match s with
    | .px S i b _ => match pfind h S h with
      | some (_, _, _, bs, _, _) => bs[i]? = some b ∧ okPx h l k
      | none => False
    | _ => okPx h l k

def protOf (ops : Array Oper) (j : Nat) : List (Nat × List SV) → List SV
  | [] => []
  | (i, l) :: pr => cond (anc ops ops.size j i) (protOf ops j pr) (l ++ protOf ops j pr)

def stillK : Op → Bool
  | .pick .. => false
  | .call c => match c.callee with
    | .value _ => false
    | _ => true
  | _ => true

def runs (ops : Array Oper) (env : List (Nat × SV)) (g : Option (Nat × Bool)) : Bool := match guardM ops env g with
  | some .run => true
  | _ => false
def pickStill (P : Program) (C : CE) (ops : Array Oper) (listed : Array Bool) (env : List (Nat × SV)) : List Nat → Option (Nat × Oper)
  | [] => none
  | i :: is => match ops[i]? with
    | some o => cond (runs ops env o.guard && stillK o.op && isQuiet P C o.op env && Region.free .any ops listed i) (some (i, o)) (pickStill P C ops listed env is)
    | none => pickStill P C ops listed env is

def allL : List Nat → (Nat → Prop) → Prop
  | [], _ => True
  | j :: js, p => p j ∧ allL js p

def anyOp1 (P : Program) (C : CE) (N : Nat) (ops : Array Oper) (pr : List (Nat × List SV)) (j : Nat) (o : Oper) (env : List (Nat × SV)) (h : List (Nat × R)) (nx : Nat)
    (K : List (Nat × SV) → List (Nat × R) → Nat → Prop) : Prop :=
  cond (isQuiet P C o.op env)
    (stepOQ P C [] o.op env h nx fun r h' nx' => putS N o.dst r env fun env' => K env' h' nx')
    (cond (okSVs h (protOf ops j pr))
      (okPx h (protOf ops j pr) <| resolveL env [] o.op.operands.toList fun vs => stepL P C o.op vs (deadOf (hid h (protOf ops j pr)) ++ h) nx fun r h' nx' =>
        putS N o.dst r env fun env' => K env' (hid h (protOf ops j pr) ++ h') nx') False)

def stepAny (P : Program) (C : CE) (N : Nat) (ops : Array Oper) : Nat → Array Bool → List (Nat × List SV) → List (Nat × SV) → List (Nat × R) → Nat →
    (List (Nat × SV) → List (Nat × R) → Nat → Prop) → Prop
  | 0, listed, _, env, h, nx, k => cond (Region.ready .any ops listed).isEmpty (k env h nx) False
  | f + 1, listed, pr, env, h, nx, k =>
    match pickStill P C ops listed env (Region.ready .any ops listed) with
    | some (i, o) => resolveL env [] o.op.operands.toList fun vs => stepQ P o.op vs h nx fun r h' nx' =>
        putS N o.dst r env fun env' => stepAny P C N ops f (listed.setIfInBounds i true) ((i, readsOf o.op vs) :: pr) env' h' nx' k
    | none => cond (Region.ready .any ops listed).isEmpty False
        (allL (Region.ready .any ops listed) fun j => match ops[j]? with
          | none => False
          | some o => match guardM ops env o.guard with
            | some .run => anyOp1 P C N ops pr j o env h nx fun env' h' nx' => stepAny P C N ops f (listed.setIfInBounds j true) pr env' h' nx' k
            | some .skip => putS N o.dst (.c undef) env fun env' => stepAny P C N ops f (listed.setIfInBounds j true) pr env' h nx k
            | some (.split d t want) => swc want t (anyOp1 P C N ops pr j o ((d, .b want) :: env) h nx fun env' h' nx' => stepAny P C N ops f (listed.setIfInBounds j true) pr env' h' nx' k)
                (putS N o.dst (.c undef) ((d, .b (!want)) :: env) fun env' => stepAny P C N ops f (listed.setIfInBounds j true) pr env' h nx k)
            | _ => False)

section
variable {K : Ctx} {θ : Th} {h : List (Nat × R)} {nx : Nat} {w : World}

theorem hid1_spec {n : Nat} {r : R} {s : SV} (h1 : hid1 h s = some (n, r)) : hfind h n = some r := by
  have ar : ∀ {m : Nat}, hidA h m = some (n, r) → hfind h n = some r := by
    intro m hm
    unfold hidA at hm
    split at hm <;> cases hm <;> assumption
  unfold hid1 at h1
  split at h1
  · split at h1 <;> cases h1
    assumption
  · split at h1 <;> cases h1 <;> assumption
  · exact ar h1
  · exact ar h1
  · exact ar h1
  · split at h1 <;> cases h1
    rename_i hp
    exact pfind_mem hp
  · cases h1
theorem hid_mem {n : Nat} {r : R} : ∀ {l : List SV}, (n, r) ∈ hid h l → hfind h n = some r
  | [], hm => by cases hm
  | s :: l, hm => by
    unfold hid at hm
    split at hm
    · rename_i x hx
      rcases List.mem_cons.1 hm with e | hm
      · subst e; exact hid1_spec hx
      · exact hid_mem hm
    · exact hid_mem hm

def isHid (h : List (Nat × R)) (l : List SV) (n : Nat) : Prop := ∃ r, (n, r) ∈ hid h l

theorem hfind_append {a b : List (Nat × R)} {n : Nat} : hfind (a ++ b) n = match hfind a n with | some r => some r | none => hfind b n := by
  induction a with
  | nil => rfl
  | cons x a ih =>
    obtain ⟨m, r⟩ := x
    simp only [List.cons_append, hfind_cons]
    split
    · rfl
    · exact ih

theorem hfind_hid {l : List SV} {n : Nat} {r : R} (hm : (n, r) ∈ hid h l) (h' : List (Nat × R)) : hfind (hid h l ++ h') n = some r := by
  rw [hfind_append]
  cases hc : hfind (hid h l) n with
  | some r' =>
    have := hid_mem (mem_of_hfind' hc)
    rw [hid_mem hm] at this
    exact this.symm
  | none => exact absurd hc (hfind_ne hm)
where
  mem_of_hfind' {t : Nat} {s : R} : ∀ {l : List (Nat × R)}, hfind l t = some s → (t, s) ∈ l
    | [], h => by simp [hfind] at h
    | (m, r) :: l, h => by
      rw [hfind_cons] at h
      split at h
      · rename_i e; subst e; cases h; exact .head _
      · exact .tail _ (mem_of_hfind' h)
  hfind_ne {t : Nat} {s : R} : ∀ {l : List (Nat × R)}, (t, s) ∈ l → hfind l t ≠ none
    | [], h => by cases h
    | (m, r) :: l, h => by
      rw [hfind_cons]
      split
      · simp
      · rename_i e
        rcases List.mem_cons.1 h with e' | h
        · cases e'; exact absurd rfl e
        · exact hfind_ne h

theorem hfind_not_hid {l : List SV} {n : Nat} (hn : ¬ isHid h l n) (h' : List (Nat × R)) : hfind (hid h l ++ h') n = hfind h' n := by
  rw [hfind_append]
  cases hc : hfind (hid h l) n with
  | some r' => exact absurd ⟨r', hfind_hid.mem_of_hfind' hc⟩ hn
  | none => rfl

theorem hfind_dead {a : List (Nat × R)} {b : List (Nat × R)} {n : Nat} : hfind (deadOf a ++ b) n = match hfind a n with | some _ => some .dead | none => hfind b n := by
  induction a with
  | nil => rfl
  | cons x a ih =>
    obtain ⟨m, r⟩ := x
    simp only [deadOf, List.cons_append, hfind_cons]
    by_cases e : m = n
    · rw [if_pos e, if_pos e]
    · rw [if_neg e, if_neg e]; exact ih

theorem owns_dead {l : List SV} {n b : Nat} : OwnsAt θ (deadOf (hid h l) ++ h) n b ↔ OwnsAt θ h n b ∧ ¬ isHid h l n := by
  constructor
  · rintro ⟨r, L, h1, h2, h3⟩
    rw [hfind_dead] at h1
    cases hc : hfind (hid h l) n with
    | some r' => rw [hc] at h1; cases h1; exact h3.elim
    | none =>
      rw [hc] at h1
      refine ⟨⟨r, L, h1, h2, h3⟩, ?_⟩
      rintro ⟨r', hr'⟩
      exact hfind_hid.hfind_ne hr' hc
  · rintro ⟨⟨r, L, h1, h2, h3⟩, hn⟩
    refine ⟨r, L, ?_, h2, h3⟩
    rw [hfind_dead]
    cases hc : hfind (hid h l) n with
    | some r' => exact absurd ⟨r', hfind_hid.mem_of_hfind' hc⟩ hn
    | none => exact h1

def Ctx.sub (K : Ctx) (θ : Th) (h hj : List (Nat × R)) (w : World) : Ctx where
  w0 := w
  M b := ∃ n, OwnsAt θ hj n b
  A b := Free K θ h b ∨ ∃ n, OwnsAt θ hj n b
  N := K.N
  ma _ hb := .inr hb

theorem SatH.hide (hs : SatH K θ h nx w) (l : List SV) : SatH (K.sub θ h (deadOf (hid h l) ++ h) w) θ (deadOf (hid h l) ++ h) nx w := by
  have hF : ∀ b, Free K θ h b → Free (K.sub θ h (deadOf (hid h l) ++ h) w) θ (deadOf (hid h l) ++ h) b := fun b hb => ⟨fun n hn => hb.1 n (owns_dead.1 hn).1, .inr (.inl hb)⟩
  refine ⟨hs.fresh, fun n r hr => ?_, fun n m b hn hm => hs.dis n m b (owns_dead.1 hn).1 (owns_dead.1 hm).1, fun n b hn => .inr ⟨n, hn⟩, .refl _ _⟩
  rw [hfind_dead] at hr
  cases hc : hfind (hid h l) n with
  | some r' =>
    rw [hc] at hr; cases hr
    obtain ⟨L, hL, _⟩ := hs.res n _ (hid_mem (hfind_hid.mem_of_hfind' hc))
    exact ⟨L, hL, trivial⟩
  | none =>
    rw [hc] at hr
    obtain ⟨L, hL, h1⟩ := hs.res n r hr
    exact ⟨L, hL, R.holds_mono (Th.ext_refl _) (fun b _ hb => ⟨hF b hb, rfl⟩) (fun _ _ => rfl) h1⟩

theorem SatH.unhide (hs : SatH K θ h nx w) {l : List SV} {θ' : Th} {h' : List (Nat × R)} {nx' : Nat} {w' : World}
    (hs' : SatH (K.sub θ h (deadOf (hid h l) ++ h) w) θ' h' nx' w') (hx : θ.ext θ') : SatH K θ' (hid h l ++ h') nx' w' ∧
      ∀ b, b < w.heap.size → (∀ n, OwnsAt θ h n b → isHid h l n) → w'.heap[b]? = w.heap[b]? := by
  have hfr := hs'.frame
  -- a block that is hidden, or that nobody owns, is as it was
  have keep : ∀ b, b < w.heap.size → (∀ n, OwnsAt θ h n b → isHid h l n) → w'.heap[b]? = w.heap[b]? := fun b hb hn =>
    hfr.block b hb fun ⟨n, ho⟩ => (owns_dead.1 ho).2 (hn n (owns_dead.1 ho).1)
  have src : ∀ {n b}, OwnsAt θ' (hid h l ++ h') n b → (isHid h l n ∧ OwnsAt θ h n b) ∨ (¬ isHid h l n ∧ OwnsAt θ' h' n b ∧ (w.heap.size ≤ b ∨ ∃ m, OwnsAt θ h m b ∧ ¬ isHid h l m)) := by
    rintro n b ⟨r, L, h1, h2, h3⟩
    by_cases hn : isHid h l n
    · obtain ⟨r', hr'⟩ := hn
      rw [hfind_hid hr'] at h1; cases h1
      obtain ⟨L', hL', _⟩ := hs.res n _ (hid_mem hr')
      obtain rfl := Option.some.inj (h2.symm.trans (hx _ _ hL'))
      exact .inl ⟨⟨r, hr'⟩, r, L, hid_mem hr', hL', h3⟩
    · rw [hfind_not_hid hn] at h1
      have ho : OwnsAt θ' h' n b := ⟨r, L, h1, h2, h3⟩
      refine .inr ⟨hn, ho, (hs'.new n b ho).imp id ?_⟩
      rintro ⟨m, hm⟩
      exact ⟨m, owns_dead.1 hm⟩
  have clash : ∀ {n b}, isHid h l n → OwnsAt θ h n b → (w.heap.size ≤ b ∨ ∃ m, OwnsAt θ h m b ∧ ¬ isHid h l m) → False := by
    intro n b h1 h2 h3
    rcases h3 with h3 | ⟨m, h3, h4⟩
    · have := OwnsAt.lt hs h2; omega
    · exact h4 (hs.dis _ _ _ h2 h3 ▸ h1)
  have hF1 : ∀ b, b < w.heap.size → Free K θ h b → Free K θ' (hid h l ++ h') b := fun b hb hf => ⟨fun n hn => by
    rcases src hn with ⟨_, h1⟩ | ⟨_, _, h1 | ⟨m, h1, _⟩⟩
    · exact hf.1 _ h1
    · omega
    · exact hf.1 _ h1, hf.2⟩
  have hF2 : ∀ b, Free (K.sub θ h (deadOf (hid h l) ++ h) w) θ' h' b → Free K θ' (hid h l ++ h') b := fun b hf => by
    have hall : w.heap.size ≤ b ∨ Free K θ h b ∨ ∃ m, OwnsAt θ h m b ∧ ¬ isHid h l m := by
      rcases hf.2 with h1 | h1 | ⟨m, h1⟩
      · exact .inl h1
      · exact .inr (.inl h1)
      · exact .inr (.inr ⟨m, owns_dead.1 h1⟩)
    refine ⟨fun n hn => ?_, ?_⟩
    · rcases src hn with ⟨h1, h2⟩ | ⟨_, h1, _⟩
      · rcases hall with h3 | h3 | h3
        · have := OwnsAt.lt hs h2; omega
        · exact h3.1 _ h2
        · exact clash h1 h2 (.inr h3)
      · exact hf.1 _ h1
    · rcases hall with h3 | h3 | ⟨m, h3, _⟩
      · exact .inl (Nat.le_trans hs.frame.size h3)
      · exact h3.2
      · exact (hs.new m b h3).imp id (K.ma _)
  refine ⟨⟨hs'.fresh, fun n r hr => ?_, fun n m b hn hm => ?_, fun n b hn => ?_, ?_⟩, keep⟩
  · by_cases hn : isHid h l n
    · obtain ⟨r', hr'⟩ := hn
      rw [hfind_hid hr'] at hr; cases hr
      obtain ⟨L, hL, h1⟩ := hs.res n _ (hid_mem hr')
      refine ⟨L, hx _ _ hL, R.holds_mono hx (fun b hb hf => ⟨hF1 b hb hf, keep b hb fun n hn => absurd hn (hf.1 n)⟩) (fun b ho => ?_) h1⟩
      have ow : OwnsAt θ h n b := ⟨r, L, hid_mem hr', hL, ho⟩
      exact keep b (OwnsAt.lt hs ow) fun m hm => hs.dis _ _ _ ow hm ▸ ⟨r, hr'⟩
    · rw [hfind_not_hid hn] at hr
      obtain ⟨L, hL, h1⟩ := hs'.res n r hr
      exact ⟨L, hL, R.holds_mono (Th.ext_refl _) (fun b _ hf => ⟨hF2 b hf, rfl⟩) (fun _ _ => rfl) h1⟩
  · rcases src hn with ⟨h1, h2⟩ | ⟨_, h2, h2'⟩ <;> rcases src hm with ⟨g1, g2⟩ | ⟨_, g2, g2'⟩
    · exact hs.dis _ _ _ h2 g2
    · exact (clash h1 h2 g2').elim
    · exact (clash g1 g2 h2').elim
    · exact hs'.dis _ _ _ h2 g2
  · rcases src hn with ⟨_, h2⟩ | ⟨_, _, h2 | ⟨m, h2, _⟩⟩
    · exact hs.new n b h2
    · exact .inl (Nat.le_trans hs.frame.size h2)
    · exact hs.new m b h2
  · refine ⟨hfr.os.trans hs.frame.os, hfr.tape.trans hs.frame.tape, hfr.output.trans hs.frame.output, Nat.le_trans hs.frame.size hfr.size, fun b hb hM => ?_⟩
    have hbw := Nat.lt_of_lt_of_le hb hs.frame.size
    rw [hfr.block b hbw ?_]
    · exact hs.frame.block b hb hM
    · rintro ⟨n, hn⟩
      rcases hs.new n b (owns_dead.1 hn).1 with h1 | h1
      · omega
      · exact hM h1
end
end Go.Z

namespace Go.Z
open Go.RowKit

section
variable {P : Program} {C : CE} {K : Ctx} {θ0 : Th} {ops : Array Oper}

def ProtOk (θ : Th) (pr : List (Nat × List SV)) (prB : Prot) : Prop := ∀ x ∈ prB, ∃ rds, (x.1, rds) ∈ pr ∧ ∀ b, x.2 b → ∃ s, s ∈ rds ∧ rdB θ s b

theorem rdB_mono {θ θ' : Th} (hx : θ.ext θ') {s : SV} {b : Nat} (h : rdB θ s b) : rdB θ' s b := by
  cases s <;> simp only [rdB] at h ⊢ <;> first | exact h | (obtain ⟨L, h1, h2⟩ := h; exact ⟨L, hx _ _ h1, h2⟩)

theorem ProtOk.mono {θ θ' : Th} (hx : θ.ext θ') {pr : List (Nat × List SV)} {prB : Prot} (h : ProtOk θ pr prB) : ProtOk θ' pr prB := fun x hm => by
  obtain ⟨rds, h1, h2⟩ := h x hm
  refine ⟨rds, h1, fun b hb => ?_⟩
  obtain ⟨s, h3, h4⟩ := h2 b hb
  exact ⟨s, h3, rdB_mono hx h4⟩

theorem mem_protOf {j i : Nat} {l : List SV} (ha : anc ops ops.size j i = false) : ∀ {pr : List (Nat × List SV)}, (i, l) ∈ pr → ∀ s, s ∈ l → s ∈ protOf ops j pr
  | [], h, _, _ => by cases h
  | (i', l') :: pr, h, s, hs => by
    unfold protOf
    rcases List.mem_cons.1 h with e | h
    · cases e
      rw [ha]
      exact List.mem_append.2 (.inl hs)
    · have := mem_protOf ha h s hs
      cases anc ops ops.size j i' with
      | true => exact this
      | false => exact List.mem_append.2 (.inr this)

theorem okSVs_mem {h : List (Nat × R)} {s : SV} : ∀ {l : List SV}, okSVs h l = true → s ∈ l → okSV h s = true
  | [], _, hm => by cases hm
  | t :: l, hk, hm => by
    simp only [okSVs, Bool.and_eq_true] at hk
    rcases List.mem_cons.1 hm with rfl | hm
    · exact hk.1
    · exact okSVs_mem hk.2 hm

theorem hid_of {h : List (Nat × R)} {n : Nat} {r : R} {s : SV} (h1 : hid1 h s = some (n, r)) : ∀ {l : List SV}, s ∈ l → isHid h l n
  | [], hm => by cases hm
  | t :: l, hm => by
    rcases List.mem_cons.1 hm with rfl | hm
    · refine ⟨r, ?_⟩
      unfold hid
      rw [h1]
      exact .head _
    · obtain ⟨r', hr⟩ := hid_of h1 hm
      refine ⟨r', ?_⟩
      unfold hid
      split
      · exact .tail _ hr
      · exact hr
theorem okPx_spec {h : List (Nat × R)} {k : Prop} : ∀ {l : List SV}, okPx h l k → k ∧ ∀ S i b o, SV.px S i b o ∈ l → ∃ q T m bs n f, pfind h S h = some (q, T, m, bs, n, f) ∧ bs[i]? = some b
  | [], hk => ⟨hk, fun _ _ _ _ hm => by cases hm⟩
  | s :: l, hk => by
    have other : (∀ S i b o, s ≠ .px S i b o) → okPx h l k → k ∧ ∀ S i b o, SV.px S i b o ∈ s :: l → ∃ q T m bs n f, pfind h S h = some (q, T, m, bs, n, f) ∧ bs[i]? = some b := fun hs hk => by
      obtain ⟨h1, h2⟩ := okPx_spec hk
      exact ⟨h1, fun S i b o hm => (List.mem_cons.1 hm).elim (fun e => absurd e.symm (hs S i b o)) (h2 S i b o)⟩
    cases s <;> simp only [okPx] at hk <;> first
      | exact other (fun _ _ _ _ e => by cases e) hk
      | skip
    rename_i S i b o
    split at hk <;> try exact hk.elim
    rename_i q T m bs n f hp
    obtain ⟨h1, h2⟩ := okPx_spec hk.2
    refine ⟨h1, fun S' i' b' o' hm => ?_⟩
    rcases List.mem_cons.1 hm with e | hm
    · cases e; exact ⟨q, T, m, bs, n, f, hp, hk.1⟩
    · exact h2 S' i' b' o' hm

theorem prot_block {θ : Th} {h : List (Nat × R)} {nx : Nat} {w : World} (hs : SatH K θ h nx w) {l : List SV} (hk : okSVs h l = true) (hpx : ∀ S i b o, SV.px S i b o ∈ l → ∃ q T m bs n f, pfind h S h = some (q, T, m, bs, n, f) ∧ bs[i]? = some b) {s : SV} (hm : s ∈ l) {b : Nat} (hb : rdB θ s b) :
    ∀ n, OwnsAt θ h n b → isHid h l n := by
  intro n hn
  have h1 := okSVs_mem hk hm
  have arr : ∀ {m : Nat}, (s = .a m ∨ s = .q m ∨ ∃ es i o, s = .e m es i o) → (∃ L, θ m = some L ∧ L.len ≠ 0 ∧ L.b = b) →
      (match hfind h m with | some (.own _ _) => true | some (.ro _) => true | some (.pown ..) => true | _ => false) = true → isHid h l n := by
    rintro m hsm ⟨L, g1, g2, rfl⟩ hk'
    have h1s : hid1 h s = hidA h m := by rcases hsm with rfl | rfl | ⟨_, _, _, rfl⟩ <;> rfl
    split at hk' <;> try (cases hk'; done)
    · rename_i T d hf
      obtain ⟨L', l1, l2, _⟩ := hs.res m _ hf
      obtain rfl := Option.some.inj (g1.symm.trans l1)
      have hcap : L.cap ≠ 0 := by have := D.at_len l2; omega
      obtain rfl := hs.dis n m _ hn ⟨_, L, hf, g1, hcap, rfl⟩
      exact hid_of (by rw [h1s]; simp only [hidA, hf]; rfl) hm
    · rename_i d hf
      obtain ⟨L', l1, l2, l3, l4⟩ := hs.res m _ hf
      obtain rfl := Option.some.inj (g1.symm.trans l1)
      exact absurd hn ((l4 g2).1.1 n)
    · rename_i T S' m' bs len f hf
      obtain ⟨L', l1, p1, p2, p3, _⟩ := hs.res m _ hf
      obtain rfl := Option.some.inj (g1.symm.trans l1)
      obtain rfl := hs.dis n m _ hn ⟨_, L, hf, g1, .inl ⟨by omega, rfl⟩⟩
      exact hid_of (by rw [h1s]; simp only [hidA, hf]; rfl) hm
  cases s <;> simp only [rdB] at hb
  · rename_i m o
    obtain ⟨L, g1, rfl⟩ := hb
    simp only [okSV] at h1
    split at h1 <;> try (cases h1; done)
    · rename_i T c hf
      obtain rfl := hs.dis n m _ hn ⟨_, L, hf, g1, rfl⟩
      exact hid_of (by simp only [hid1, hf]; rfl) hm
    · rename_i T c hf
      obtain ⟨L', l1, cs, l2, l3, _⟩ := hs.res m _ hf
      obtain rfl := Option.some.inj (g1.symm.trans l1)
      exact absurd hn (l3.1 n)
  · exact arr (.inr (.inr ⟨_, _, _, rfl⟩)) hb h1
  · exact arr (.inl rfl) hb h1
  · rename_i m
    obtain ⟨L, g1, rfl⟩ := hb
    simp only [okSV] at h1
    split at h1 <;> try (cases h1; done)
    rename_i T d hf
    have hlt := nblt h1
    obtain ⟨L', l1, l2, _⟩ := hs.res m _ hf
    obtain rfl := Option.some.inj (g1.symm.trans l1)
    have hcap : L.cap ≠ 0 := by have := D.at_len l2; omega
    obtain rfl := hs.dis n m _ hn ⟨_, L, hf, g1, hcap, rfl⟩
    exact hid_of (by simp only [hid1, hidA, hf]; rfl) hm
  · rename_i m
    obtain ⟨L, g1, rfl⟩ := hb
    simp only [okSV] at h1
    split at h1 <;> try (cases h1; done)
    · rename_i ks vs hf
      obtain rfl := hs.dis n m _ hn ⟨_, L, hf, g1, rfl⟩
      exact hid_of (by simp only [hid1, hf]; rfl) hm
    · rename_i ks vs hf
      obtain ⟨L', l1, l2, l3, _⟩ := hs.res m _ hf
      obtain rfl := Option.some.inj (g1.symm.trans l1)
      exact absurd hn (l3.1 n)
    · rename_i ks c f hf
      obtain rfl := hs.dis n m _ hn ⟨_, L, hf, g1, rfl⟩
      exact hid_of (by simp only [hid1, hf]; rfl) hm
    · rename_i ks l bn c hf
      obtain rfl := hs.dis n m _ hn ⟨_, L, hf, g1, rfl⟩
      exact hid_of (by simp only [hid1, hf]; rfl) hm
  · rename_i S i b' o
    subst hb
    obtain ⟨q, T, m, bs, len, f, hp, hbi⟩ := hpx S i b' o hm
    obtain ⟨hf, L, hL, hpo⟩ := pfind_sound hs hp
    obtain rfl := hs.dis n q _ hn ⟨_, L, hf, hL, .inr (List.mem_of_getElem? hbi)⟩
    exact hid_of (by simp only [hid1, hp]; rfl) hm

theorem allL_mem {p : Nat → Prop} {j : Nat} : ∀ {l : List Nat}, allL l p → j ∈ l → p j
  | [], _, h => by cases h
  | _ :: _, hp, h => by
    rcases List.mem_cons.1 h with rfl | h
    · exact hp.1
    · exact allL_mem hp.2 h

theorem pickStill_spec {listed : Array Bool} {env : List (Nat × SV)} {i : Nat} {o : Oper} : ∀ {l : List Nat}, pickStill P C ops listed env l = some (i, o) →
    i ∈ l ∧ ops[i]? = some o ∧ runs ops env o.guard = true ∧ Region.free .any ops listed i = true
  | [], h => by simp [pickStill] at h
  | j :: js, h => by
    unfold pickStill at h
    split at h
    · rename_i oj hoj
      cases hc : (runs ops env oj.guard && stillK oj.op && isQuiet P C oj.op env && Region.free .any ops listed j) with
      | true =>
        rw [hc] at h
        cases h
        simp only [Bool.and_eq_true] at hc
        exact ⟨.head _, hoj, hc.1.1.1, hc.2⟩
      | false =>
        rw [hc] at h
        obtain ⟨h1, h2⟩ := pickStill_spec (l := js) h
        exact ⟨.tail _ h1, h2⟩
    · obtain ⟨h1, h2⟩ := pickStill_spec (l := js) h
      exact ⟨.tail _ h1, h2⟩

theorem runs_spec {θ : Th} {env : List (Nat × SV)} {a : Act} (he : SatE K θ env a) {o : Oper} (hr : runs ops env o.guard = true) : Region.wanted o (yielded ops a.tmps) = true := by
  unfold runs at hr
  split at hr
  · rename_i hg
    exact guardM_sound he hg
  · cases hr
theorem stepAny_sound (hC : COk P C) (hsel : Region.noSelect ops = true) {Q : Act → World → Prop} : ∀ (f : Nat) {listed : Array Bool} {pr : List (Nat × List SV)} {prB : Prot} {θ : Th}
    {env : List (Nat × SV)} {h : List (Nat × R)} {nx : Nat} {a : Act} {w : World} {k : List (Nat × SV) → List (Nat × R) → Nat → Prop},
    θ0.ext θ → SatH K θ h nx w → SatE K θ env a → ClosedL ops listed → ProtOk θ pr prB → stepAny P C K.N ops f listed pr env h nx k →
    (∀ env' h' nx' θ' a' w', k env' h' nx' → θ0.ext θ' → SatH K θ' h' nx' w' → SatE K θ' env' a' → Q a' w') → wpAnyC P ops prB Q f listed a w
  | 0, listed, pr, prB, θ, env, h, nx, a, w, k, hx, hs, he, hcl, hpr, hq, hk => by
    obtain ⟨h1, h2⟩ := cond_false hq
    exact ⟨by simpa using h1, hk _ _ _ _ _ _ h2 hx hs he⟩
  | f + 1, listed, pr, prB, θ, env, h, nx, a, w, k, hx, hs, he, hcl, hpr, hq, hk => by
    unfold stepAny at hq
    split at hq
    · rename_i i o hpick
      obtain ⟨p1, p2, p3, p4⟩ := pickStill_spec hpick
      obtain ⟨vs, h1, h2⟩ := resolveL_sound he (fun t ht => by cases ht) hq
      obtain ⟨r, h', nx', θ', v', e1, e2, e3, e4⟩ := stepQ_sound hs h2 h1
      obtain ⟨env', c1, c2⟩ := putS_sound (he.mono e2.ext) e3 e1
      refine wpAnyC_first (B := fun b => ∃ s, s ∈ readsOf o.op vs ∧ rdB θ s b) p2 (Region.noSelect_spec hsel) f listed a w hcl (Region.free_spec p2 p4) p1 (runs_spec he p3)
        (fun w' hw' => e4 w' fun s hsm b hb hr => hw'.2 b hb ⟨s, hsm, hr⟩) ?_
      refine stepAny_sound hC hsel f (Th.ext_trans hx e2.ext) e2.sat c2 (hcl.set p1) ?_ c1 hk
      intro x hxm
      rcases List.mem_cons.1 hxm with rfl | hxm
      · exact ⟨_, .head _, fun b hb => let ⟨s, g1, g2⟩ := hb; ⟨s, g1, rdB_mono e2.ext g2⟩⟩
      · obtain ⟨rds, g1, g2⟩ := hpr.mono e2.ext x hxm
        exact ⟨rds, .tail _ g1, g2⟩
    · obtain ⟨hne, hq⟩ := (cond_cases hq).elim (fun h => h.2.elim) id
      refine ⟨by simpa using hne, fun j hj => ?_⟩
      have hqj := allL_mem hq hj
      split at hqj <;> try exact hqj.elim
      rename_i o hoj
      have carry : ∀ {env : List (Nat × SV)}, SatE K θ env a → anyOp1 P C K.N ops pr j o env h nx (fun env' h' nx' => stepAny P C K.N ops f (listed.setIfInBounds j true) pr env' h' nx' k) →
          o.wp P a w (fun a' w' => (∀ x ∈ prB, anc ops ops.size j x.1 = false → KeepB x.2 w w') ∧ wpAnyC P ops prB Q f (listed.setIfInBounds j true) a' w') Q0 := by
        intro env he hqj
        rcases cond_cases hqj with ⟨_, hqj⟩ | ⟨_, hqj⟩
        · obtain ⟨r, h', nx', θ', v', e1, e2, e3, e4⟩ := stepOQ_sound hC hs he (fun t ht => by cases ht) hqj
          refine Oper.wp_of_quiet (C := Below w.heap.size w) (K := fun a' => ∃ env', stepAny P C K.N ops f (listed.setIfInBounds j true) pr env' h' nx' k ∧ SatE K θ' env' a') (Below.refl _ _) ?_
            ⟨v', e4, putS_sound (he.mono e2.ext) e3 e1⟩
          rintro a' w' hb ⟨env', c1, c2⟩
          exact ⟨fun x _ _ => ⟨hb.size, fun b hb' _ => hb.block b hb'⟩, stepAny_sound hC hsel f (Th.ext_trans hx e2.ext) (e2.sat.below hb) c2 (hcl.set hj) (hpr.mono e2.ext) c1 hk⟩
        · obtain ⟨hok, hqj⟩ := cond_false hqj
          obtain ⟨hqj, hpx⟩ := okPx_spec hqj
          obtain ⟨vs, h1, h2⟩ := resolveL_sound he (fun t ht => by cases ht) hqj
          refine stepL_sound hC (hs.hide (protOf ops j pr)) h2 h1 fun r h' nx' θ' v w' k1 k2 k3 k4 => ?_
          obtain ⟨env', e1, e2⟩ := putS_sound (he.mono k3) k4 k1
          obtain ⟨u1, u2⟩ := hs.unhide k2 k3
          refine ⟨fun x hxm hanc => ⟨k2.frame.size, fun b hb hB => u2 b hb ?_⟩, stepAny_sound hC hsel f (Th.ext_trans hx k3) u1 e2 (hcl.set hj) (hpr.mono k3) e1 hk⟩
          obtain ⟨rds, g1, g2⟩ := hpr x hxm
          obtain ⟨s, g3, g4⟩ := g2 b hB
          exact prot_block hs hok hpx (mem_protOf hanc g1 s g3) g4
      have skip : ∀ {env : List (Nat × SV)}, SatE K θ env a → (putS K.N o.dst (.c undef) env fun env' => stepAny P C K.N ops f (listed.setIfInBounds j true) pr env' h nx k) →
          (∀ x ∈ prB, anc ops ops.size j x.1 = false → KeepB x.2 w w) ∧ wpAnyC P ops prB Q f (listed.setIfInBounds j true) (a.put o.dst undef) w := by
        intro env he hp
        obtain ⟨env', e1, e2⟩ := putS_sound he (V_c θ undef) hp
        exact ⟨fun x _ _ => .refl _ _, stepAny_sound hC hsel f hx hs e2 (hcl.set hj) hpr e1 hk⟩
      unfold wpOp
      simp only [hoj]
      split at hqj <;> try exact hqj.elim
      · rename_i hg
        have hw := guardM_sound he hg
        simp only [GM.ok] at hw
        rw [if_pos hw]
        exact .inl (carry he hqj)
      · rename_i hg
        have hw := guardM_sound he hg
        simp only [GM.ok] at hw
        rw [hw, if_neg (by simp)]
        exact skip he hqj
      · rename_i d t want hg
        have hw := guardM_sound he hg
        simp only [GM.ok] at hw
        by_cases ht : t = want
        · rw [hw.2, show (t == want) = true by simp [ht], if_pos rfl]
          exact .inl (carry (he.known hw.1 ht) ((swc_spec hqj).1 ht))
        · have ht' : t = !want := ne_not ht
          rw [hw.2, show (t == want) = false by simp [ht], if_neg (by simp)]
          exact skip (he.known hw.1 ht') ((swc_spec hqj).2 ht')

theorem wp_region_anyC (hP : P.follows .mixedOrders = true) (hC : COk P C) (hsel : Region.noSelect ops = true) {id : Nat} {Q : Exit → Act → World → Prop} {θ : Th} {env : List (Nat × SV)} {h : List (Nat × R)} {nx : Nat} {a : Act} {w : World}
    {k : List (Nat × SV) → List (Nat × R) → Nat → Prop} (hx : θ0.ext θ) (hs : SatH K θ h nx w) (he : SatE K θ env a)
    (hq : stepAny P C K.N ops ops.size (Array.replicate ops.size false) [] env h nx k)
    (hk : ∀ env' h' nx' θ' a' w', k env' h' nx' → θ0.ext θ' → SatH K θ' h' nx' w' → SatE K θ' env' a' → Q .normal a' w') : (Code.region id ops true).wp P Q a w := by
  have hb : Below w.heap.size w { w with drawn := w.drawn + 1 } := ⟨rfl, rfl, rfl, Nat.le_refl _, fun _ _ => rfl⟩
  refine wp_region_any hP (wpAny_of_C (Q := fun a w => Q .normal a w) (pr := []) (fun a w h => h) _ _ _ _ ?_)
  refine stepAny_sound hC hsel _ hx (hs.below hb) he ?_ (fun x hx => by cases hx) hq fun env' h' nx' θ' a' w' g1 g2 g3 g4 => hk _ _ _ _ _ _ g1 g2 g3 g4
  intro j oj _ hl
  rcases Nat.lt_or_ge j ops.size with h' | h'
  · simp [h'] at hl
  · simp [h'] at hl
end
end Go.Z

namespace Go.Z
open Go.RowKit

inductive OI where
  | o (x : O)
  | same
inductive G where
  | c (x : O)
  | blk (l : List OI)
  | pw (f : Nat → Nat → D)
  | it (seen : List Nat)
  | ow (x : D)
  | mu (j : Nat)
abbrev Item := Nat × G

structure LoopAnn where
  γ : Type
  pre : γ → Prop
  μ : γ → Nat
  items : γ → List Item

inductive LoopF where
  | one (A : LoopAnn)
  | fam (π : Type) (A : π → LoopAnn)
instance : Coe LoopAnn LoopF := ⟨.one⟩

structure Ann where
  loop : Nat → Option LoopF
  split : Nat → Bool
  unroll : Nat → Nat
  drop : Nat → List Nat

inductive Ex where
  | normal
  | exit (id : Nat)
  | ret

def dstsOps : List Oper → List Nat
  | [] => []
  | o :: l => match o.dst with
    | some d => d :: dstsOps l
    | none => dstsOps l

def dsts : Code → List Nat
  | .region _ ops _ => dstsOps ops.toList
  | .seq a b => dsts a ++ dsts b
  | .cond _ a b => dsts a ++ dsts b
  | .block _ c => dsts c
  | .loop c => dsts c
  | .scope c => dsts c
  | _ => []

def firstRegion : Code → Option Nat
  | .region id _ _ => some id
  | .seq a b => match firstRegion a with
    | some i => some i
    | none => firstRegion b
  | .cond _ a b => match firstRegion a with
    | some i => some i
    | none => firstRegion b
  | .block _ c => firstRegion c
  | .loop c => firstRegion c
  | .scope c => firstRegion c
  | _ => none

def filterEnv : List Nat → List (Nat × SV) → List (Nat × SV)
  | _, [] => []
  | W, (t, s) :: l => cond (memB t W) (filterEnv W l) ((t, s) :: filterEnv (t :: W) l)
def filterH : List Nat → List (Nat × R) → List (Nat × R)
  | _, [] => []
  | W, (t, s) :: l => cond (memB t W) (filterH W l) ((t, s) :: filterH (t :: W) l)

def ptrS (s : SV) : Option Nat :=
  match s with
  | .p m 0 => some m
  | .i _ (.p m 0) => some m
  | _ => none
def blkAt (env : List (Nat × SV)) (h : List (Nat × R)) (t : Nat) : Option (Nat × Nat × List SV) :=
  match efind env t with
  | some s => match ptrS s with
    | some m => match hfind h m with
      | some (.blk T cs) => some (m, T, cs)
      | _ => none
    | none => none
  | none => none
def pwAt (env : List (Nat × SV)) (t : Nat) : Option Nat :=
  match efind env t with
  | some (.a n) => some n
  | some (.hv n _) => some n
  | _ => none

def itAt (env : List (Nat × SV)) (t : Nat) : Option Nat :=
  match efind env t with
  | some (.p m 0) => some m
  | _ => none

def muAt (env : List (Nat × SV)) (h : List (Nat × R)) (t j : Nat) : Option Nat :=
  match blkAt env h t with
  | some (_, _, cs) => match cs[j]? with
    | some (.m q) => some q
    | _ => none
  | none => none

def instOIs : List OI → List SV → List (Nat × R) → Nat → (List SV → List (Nat × R) → Nat → Prop) → Prop
  | [], [], h, nx, k => k [] h nx
  | x :: l, s0 :: ss0, h, nx, k =>
    match x with
    | .o x => instO x h nx fun s h' nx' => instOIs l ss0 h' nx' fun ss h'' nx'' => k (s :: ss) h'' nx''
    | .same => instOIs l ss0 h nx fun ss h'' nx'' => k (s0 :: ss) h'' nx''
  | _, _, _, _, _ => False

def instIt (env1 : List (Nat × SV)) (h1 : List (Nat × R)) : List Item → List (Nat × R) → Nat → (List (Nat × SV) → List (Nat × R) → Nat → Prop) → Prop
  | [], h, nx, k => k [] h nx
  | (t, g) :: is, h, nx, k =>
    match g with
    | .c x => instO x h nx fun s h' nx' => instIt env1 h1 is h' nx' fun es h'' nx'' => k ((t, s) :: es) h'' nx''
    | .blk l => match blkAt env1 h1 t with
      | some (m, T, cs) => instOIs l cs h nx fun ss h' nx' => instIt env1 h1 is ((m, .blk T ss) :: h') nx' k
      | none => False
    | .pw f => match pwAt env1 t with
      | some n => match hfind h1 n with
        | some (.pown T S m bs len _) => instIt env1 h1 is ((n, .pown T S m bs len f) :: h) nx k
        | _ => False
      | none => False
    | .it sn => match itAt env1 t with
      | some m => match hfind h1 m with
        | some (.mit n s _ l) => instIt env1 h1 is ((m, .mit n s sn l) :: h) nx k
        | _ => False
      | none => False
    | .ow x => match pwAt env1 t with
      | some n => match hfind h1 n with
        | some (.own T _) => instIt env1 h1 is ((n, .own T x) :: h) nx k
        | _ => False
      | none => match efind env1 t with
        | some .nil => instIt env1 h1 is h nx k
        | _ => False
    | .mu j => match muAt env1 h1 t j with
      | some q => match hfind h1 q with
        | some (.mapS (.ints kk _) _ _ _) => ∀ (ks : List Int) (bn : List Nat) (clock : Nat), instIt env1 h1 is ((q, .mapS (.ints kk ks) (ks.map fun _ => .unk) bn clock) :: h) nx k
        | _ => False
      | none => False

def matchOIs (h : List (Nat × R)) : List OI → List SV → List SV → NK → Prop
  | [], [], [], k => k [] []
  | x :: l, s0 :: ss0, s :: ss, k =>
    match x with
    | .o x => matchO h x s fun on rn => matchOIs h l ss0 ss fun on' rn' => k (on ++ on') (rn ++ rn')
    | .same => s = s0 ∧ matchOIs h l ss0 ss k
  | _, _, _, _ => False

def matchIt (env1 : List (Nat × SV)) (h1 : List (Nat × R)) (env : List (Nat × SV)) (h : List (Nat × R)) : List Item → NK → Prop
  | [], k => k [] []
  | (t, g) :: is, k =>
    match g with
    | .c x => match efind env t with
      | some s => matchO h x s fun on rn => matchIt env1 h1 env h is fun on' rn' => k (on ++ on') (rn ++ rn')
      | none => False
    | .blk l => match blkAt env1 h1 t with
      | some (m, T, cs0) => match hfind h m with
        | some (.blk T' cs) => cond (Nat.beq T T') (matchOIs h l cs0 cs fun on rn => matchIt env1 h1 env h is fun on' rn' => k ((m :: on) ++ on') (rn ++ rn')) False
        | _ => False
      | none => False
    | .pw f => match pwAt env1 t with
      | some n => match hfind h1 n, hfind h n with
        | some (.pown T S m bs len _), some (.pown T' S' m' bs' len' f') => cond (Nat.beq T T' && Nat.beq S S' && Nat.beq m m')
          ((bs' = bs ∧ len' = len ∧ ∀ i, i < len → ∀ j, j < m → f' i j = f i j) ∧ matchIt env1 h1 env h is fun on' rn' => k (n :: on') rn') False
        | _, _ => False
      | none => False
    | .it sn => match itAt env1 t with
      | some m => match hfind h1 m, hfind h m with
        | some (.mit n s _ l), some (.mit n' s' sn' l') => cond (Nat.beq n' n && Nat.beq s' s && Nat.beq l' l)
          (sn' = sn ∧ matchIt env1 h1 env h is fun on' rn' => k (m :: on') rn') False
        | _, _ => False
      | none => False
    | .ow x => match pwAt env1 t with
      | some n => match hfind h1 n, hfind h n with
        | some (.own T _), some (.own T' d) => cond (Nat.beq T' T) (d.eqv x ∧ matchIt env1 h1 env h is fun on' rn' => k (n :: on') rn') False
        | _, _ => False
      | none => match efind env1 t with
        | some .nil => matchIt env1 h1 env h is k
        | _ => False
    | .mu j => match muAt env1 h1 t j with
      | some q => match hfind h1 q, hfind h q with
        | some (.mapS (.ints kk _) _ _ _), some (.mapS (.ints kk' _) _ _ _) => kk' = kk ∧ matchIt env1 h1 env h is fun on' rn' => k (q :: on') rn'
        | _, _ => False
      | none => False

def okMs (base : Nat) (drops : List Nat) : List Nat → Bool
  | [] => true
  | m :: l => (Nat.ble base m || memB m drops) && okMs base drops l

def slotsI : List Item → List Nat
  | [] => []
  | (t, .c _) :: is => t :: slotsI is
  | _ :: is => slotsI is

def keptE (env : List (Nat × SV)) : List (Nat × SV) → Prop
  | [] => True
  | (t, s) :: l => efind env t = some s ∧ keptE env l
def keptH (h : List (Nat × R)) : List (Nat × R) → Prop
  | [] => True
  | (t, s) :: l => hfind h t = some s ∧ keptH h l

def quietsK (P : Program) (C : CE) : List Oper → Bool
  | [] => true
  | o :: l => isQuiet P C o.op [] && quietsK P C l

abbrev EK := Ex → List (Nat × SV) → List (Nat × R) → Nat → Prop

def rounds (body : List (Nat × SV) → List (Nat × R) → Nat → EK → Prop) : Nat → List (Nat × SV) → List (Nat × R) → Nat → EK → Prop
  | 0, _, _, _, _ => False
  | n + 1, env, h, nx, k => body env h nx fun e env' h' nx' => match e with
    | .normal => rounds body n env' h' nx' k
    | e => k e env' h' nx'

def seqN (n : Nat) (k : Nat → Prop) : Prop := match n with
  | 0 => k 0
  | m + 1 => k (m + 1)
def seqR (r : R) (k : R → Prop) : Prop := match r with
  | .dead => k .dead
  | .ro d => k (.ro d)
  | .own T d => k (.own T d)
  | .blk T l => k (.blk T l)
  | .rblk T l => k (.rblk T l)
  | .map a b => k (.map a b)
  | .mapE a b c => k (.mapE a b c)
  | .mapR a b c => k (.mapR a b c)
  | .mapS a b c d => k (.mapS a b c d)
  | .mit a b c d => k (.mit a b c d)
  | .rmap a b => k (.rmap a b)
  | .gl b T kk xs => k (.gl b T kk xs)
  | .pown T S m bs n f => k (.pown T S m bs n f)
def seqH : List (Nat × R) → (List (Nat × R) → Prop) → Prop
  | [], k => k []
  | (n, r) :: t, k => seqN n fun n' => seqR r fun r' => seqH t fun t' => k ((n', r') :: t')
def seqS (s : SV) (k : SV → Prop) : Prop := match s with
  | .unk => k .unk
  | .b t => k (.b t)
  | .c v => k (.c v)
  | .p n o => k (.p n o)
  | .e n es i o => k (.e n es i o)
  | .a n => k (.a n)
  | .nil => k .nil
  | .agg l => k (.agg l)
  | .tup l => k (.tup l)
  | .f fn nf l => k (.f fn nf l)
  | .arr kk xs => k (.arr kk xs)
  | .q n => k (.q n)
  | .m n => k (.m n)
  | .sl n m => k (.sl n m)
  | .g n => k (.g n)
  | .vw n l => k (.vw n l)
  | .px S i b o => k (.px S i b o)
  | .hv n l => k (.hv n l)
  | .i t s => k (.i t s)
  | .w ts v => k (.w ts v)
def seqE : List (Nat × SV) → (List (Nat × SV) → Prop) → Prop
  | [], k => k []
  | (n, s) :: t, k => seqS s fun s' => seqE t fun t' => k ((n, s') :: t')
theorem seqN_iff {n : Nat} {k : Nat → Prop} : seqN n k ↔ k n := by cases n <;> exact Iff.rfl
theorem seqR_iff {r : R} {k : R → Prop} : seqR r k ↔ k r := by cases r <;> exact Iff.rfl
theorem seqS_iff {s : SV} {k : SV → Prop} : seqS s k ↔ k s := by cases s <;> exact Iff.rfl
theorem seqH_iff : ∀ {h : List (Nat × R)} {k : List (Nat × R) → Prop}, seqH h k ↔ k h
  | [], _ => Iff.rfl
  | (n, r) :: t, k => by simp only [seqH, seqN_iff, seqR_iff, seqH_iff (h := t)]
theorem seqE_iff : ∀ {h : List (Nat × SV)} {k : List (Nat × SV) → Prop}, seqE h k ↔ k h
  | [], _ => Iff.rfl
  | (n, r) :: t, k => by simp only [seqE, seqS_iff, seqE_iff (h := t)]
def doneK (k : EK) (env : List (Nat × SV)) (h : List (Nat × R)) (nx : Nat) : Prop := seqE env fun env' => seqH h fun h' => seqN nx fun nx' => k .normal env' h' nx'
theorem doneK_iff {k : EK} {env : List (Nat × SV)} {h : List (Nat × R)} {nx : Nat} : doneK k env h nx ↔ k .normal env h nx := by
  simp only [doneK, seqE_iff, seqH_iff, seqN_iff]

def loopX (_P : Program) (body : List (Nat × SV) → List (Nat × R) → Nat → EK → Prop) (A : LoopAnn) (D : List Nat) (env : List (Nat × SV)) (h : List (Nat × R)) (nx : Nat) (k : EK) : Prop :=
  ∃ g0 : A.γ, A.pre g0 ∧ matchIt env h env h (A.items g0) fun on rn => (nodupB on && disjB rn on) = true ∧ ∀ g : A.γ, A.pre g →
    instIt env h (A.items g) (deads (on ++ rn) h) nx fun es h2 nx2 =>
      body (es ++ filterEnv (slotsI (A.items g) ++ D) env) h2 nx2 fun e env' h' nx' => match e with
        | .normal => ∃ g' : A.γ, A.pre g' ∧ A.μ g' < A.μ g ∧ (matchIt env h env' h' (A.items g') fun on' rn' => (nodupB on' && disjB rn' on' && okMs nx (on ++ rn) (on' ++ rn')) = true) ∧
            keptE env' (filterEnv (slotsI (A.items g') ++ D) env) ∧ keptH h' (filterH (on ++ rn) h)
        | e => k e env' h' nx'

def exec (P : Program) (C : CE) (N : Nat) (ann : Ann) : Code → List (Nat × SV) → List (Nat × R) → Nat → EK → Prop
  | .skip, env, h, nx, k => k .normal env h nx
  | .label _, env, h, nx, k => k .normal env h nx
  | .ret, env, h, nx, k => k .ret env h nx
  | .exit id, env, h, nx, k => k (.exit id) env h nx
  | .region id ops draw, env, h, nx, k =>
    cond draw
      (cond (quietsK P C ops.toList)
        (cond (Region.lexB .any ops) (execOps P C N (ann.split id) true ops ops.toList env h nx (doneK k)) False)
        (cond (Region.noSelect ops) (stepAny P C N ops ops.size (Array.replicate ops.size false) [] env h nx (doneK k)) False))
      (execOps P C N (ann.split id) false ops ops.toList env h nx (doneK k))
  | .seq a b, env, h, nx, k => exec P C N ann a env h nx fun e env' h' nx' => match e with
    | .normal => exec P C N ann b env' h' nx' k
    | e => k e env' h' nx'
  | .cond c x y, env, h, nx, k =>
    match get env c with
    | some (.b true) => exec P C N ann x env h nx k
    | some (.b false) => exec P C N ann y env h nx k
    | some (.c (.bool t)) => sw t (exec P C N ann x env h nx k) (exec P C N ann y env h nx k)
    | _ => False
  | .block id c, env, h, nx, k => exec P C N ann c env h nx fun e env' h' nx' => match e with
    | .exit i => cond (Nat.beq i id) (k .normal env' h' nx') (k (.exit i) env' h' nx')
    | e => k e env' h' nx'
  | .loop c, env, h, nx, k =>
    match firstRegion c with
    | none => False
    | some r => match ann.loop r with
      | none => rounds (exec P C N ann c) (ann.unroll r) env h nx k
      | some (.one A) => loopX P (exec P C N ann c) A (dsts c ++ ann.drop r) env h nx k
      | some (.fam _ F) => ∃ p, loopX P (exec P C N ann c) (F p) (dsts c ++ ann.drop r) env h nx k
  | _, _, _, _, _ => False
end Go.Z
