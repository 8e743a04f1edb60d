/- Regions that draw their order and write: the executor; what is hidden from an operation, and known again behind it. -/
import Derived.Test.YtonfaeenoifomaaZ20a
namespace Go.Z
open Go.RowKit

/-- What is hidden from an operation: the variables and arrays that another one is still to read. -/
def hid (h : List (Nat × R)) : List SV → List (Nat × R)
  | [] => []
  | s :: l => match s with
    | .p n _ => match hfind h n with
      | some (.blk T c) => (n, .blk T c) :: hid h l
      | _ => hid h l
    | .m n => match hfind h n with
      | some (.map ks vs) => (n, .map ks vs) :: hid h l
      | _ => hid h l
    | .q n => match hfind h n with
      | some (.own T d) => (n, .own T d) :: hid h l
      | _ => hid h l
    | .e n _ _ _ => match hfind h n with
      | some (.own T d) => (n, .own T d) :: hid h l
      | _ => hid h l
    | .a n => match hfind h n with
      | some (.own T d) => (n, .own T d) :: hid h l
      | _ => hid h l
    | _ => hid h l
def deadOf : List (Nat × R) → List (Nat × R)
  | [] => []
  | (n, _) :: l => (n, .dead) :: deadOf l

def okSV (h : List (Nat × R)) : SV → Bool
  | .p n _ => match hfind h n with
    | some (.blk _ _) => true
    | some (.rblk _ _) => true
    | _ => false
  | .m n => match hfind h n with
    | some (.map _ _) => true
    | some (.rmap _ _) => true
    | _ => false
  | .q n => match hfind h n with
    | some (.own _ d) => Nat.blt 0 d.len
    | _ => false
  | .e n _ _ _ => match hfind h n with
    | some (.own _ _) => true
    | some (.ro _) => true
    | _ => false
  | .a n => match hfind h n with
    | some (.own _ _) => true
    | some (.ro _) => true
    | _ => false
  | _ => true
def okSVs (h : List (Nat × R)) : List SV → Bool
  | [] => true
  | s :: l => okSV h s && okSVs h l

/-- What those are still to read that need not have come ahead of j. -/
def protOf (ops : Array Oper) (j : Nat) : List (Nat × List SV) → List SV
  | [] => []
  | (i, l) :: pr => cond (anc ops ops.size j i) (protOf ops j pr) (l ++ protOf ops j pr)

def stillK : Op → Bool
  | .pick .. => false
  | .call c => match c.callee with
    | .value _ => false
    | _ => true
  | _ => true

/-- The first operation that only reads, and may come now. -/
def pickStill (P : Program) (C : CE) (ops : Array Oper) (listed : Array Bool) (env : List (Nat × SV)) : List Nat → Option (Nat × Oper)
  | [] => none
  | i :: is => match ops[i]? with
    | some o => cond (o.guard.isNone && stillK o.op && isQuiet P C o.op env && Region.free .any ops listed i) (some (i, o)) (pickStill P C ops listed env is)
    | none => pickStill P C ops listed env is

def allL : List Nat → (Nat → Prop) → Prop
  | [], _ => True
  | j :: js, p => p j ∧ allL js p

/-- One operation, carried out; 'K': what follows. -/
def anyOp1 (P : Program) (C : CE) (N : Nat) (ops : Array Oper) (pr : List (Nat × List SV)) (j : Nat) (o : Oper) (env : List (Nat × SV)) (h : List (Nat × R)) (nx : Nat)
    (K : List (Nat × SV) → List (Nat × R) → Nat → Prop) : Prop :=
  cond (isQuiet P C o.op env)
    (stepOQ P C [] o.op env h nx fun r h' nx' => putS N o.dst r env fun env' => K env' h' nx')
    (cond (okSVs h (protOf ops j pr))
      (resolveL env [] o.op.operands.toList fun vs => stepL P C o.op vs (deadOf (hid h (protOf ops j pr)) ++ h) nx fun r h' nx' =>
        putS N o.dst r env fun env' => K env' (hid h (protOf ops j pr) ++ h') nx') False)

def stepAny (P : Program) (C : CE) (N : Nat) (ops : Array Oper) : Nat → Array Bool → List (Nat × List SV) → List (Nat × SV) → List (Nat × R) → Nat →
    (List (Nat × SV) → List (Nat × R) → Nat → Prop) → Prop
  | 0, listed, _, env, h, nx, k => cond (Region.ready .any ops listed).isEmpty (k env h nx) False
  | f + 1, listed, pr, env, h, nx, k =>
    match pickStill P C ops listed env (Region.ready .any ops listed) with
    | some (i, o) => resolveL env [] o.op.operands.toList fun vs => stepQ P o.op vs h nx fun r h' nx' =>
        putS N o.dst r env fun env' => stepAny P C N ops f (listed.setIfInBounds i true) ((i, readsOf o.op vs) :: pr) env' h' nx' k
    | none => cond (Region.ready .any ops listed).isEmpty False
        (allL (Region.ready .any ops listed) fun j => match ops[j]? with
          | none => False
          | some o => match guardM ops env o.guard with
            | some .run => anyOp1 P C N ops pr j o env h nx fun env' h' nx' => stepAny P C N ops f (listed.setIfInBounds j true) pr env' h' nx' k
            | some .skip => putS N o.dst (.c undef) env fun env' => stepAny P C N ops f (listed.setIfInBounds j true) pr env' h nx k
            | some (.split d t want) => (t = want → anyOp1 P C N ops pr j o ((d, .b want) :: env) h nx fun env' h' nx' => stepAny P C N ops f (listed.setIfInBounds j true) pr env' h' nx' k) ∧
                (t = (!want) → putS N o.dst (.c undef) ((d, .b (!want)) :: env) fun env' => stepAny P C N ops f (listed.setIfInBounds j true) pr env' h nx k)
            | _ => False)

section
variable {K : Ctx} {θ : Th} {h : List (Nat × R)} {nx : Nat} {w : World}

theorem hid_mem {n : Nat} {r : R} : ∀ {l : List SV}, (n, r) ∈ hid h l → hfind h n = some r
  | [], hm => by cases hm
  | s :: l, hm => by
    have go : (n, r) ∈ hid h l → hfind h n = some r := fun h' => hid_mem h'
    cases s <;> simp only [hid] at hm <;> first
      | exact go hm
      | (split at hm
         · rename_i hf
           rcases List.mem_cons.1 hm with e | hm
           · cases e; exact hf
           · exact go hm
         · exact go hm)

def isHid (h : List (Nat × R)) (l : List SV) (n : Nat) : Prop := ∃ r, (n, r) ∈ hid h l

theorem hfind_append {a b : List (Nat × R)} {n : Nat} : hfind (a ++ b) n = match hfind a n with | some r => some r | none => hfind b n := by
  induction a with
  | nil => rfl
  | cons x a ih =>
    obtain ⟨m, r⟩ := x
    simp only [List.cons_append, hfind_cons]
    split
    · rfl
    · exact ih

theorem hfind_hid {l : List SV} {n : Nat} {r : R} (hm : (n, r) ∈ hid h l) (h' : List (Nat × R)) : hfind (hid h l ++ h') n = some r := by
  rw [hfind_append]
  cases hc : hfind (hid h l) n with
  | some r' =>
    have := hid_mem (mem_of_hfind' hc)
    rw [hid_mem hm] at this
    exact this.symm
  | none => exact absurd hc (hfind_ne hm)
where
  mem_of_hfind' {t : Nat} {s : R} : ∀ {l : List (Nat × R)}, hfind l t = some s → (t, s) ∈ l
    | [], h => by simp [hfind] at h
    | (m, r) :: l, h => by
      rw [hfind_cons] at h
      split at h
      · rename_i e; subst e; cases h; exact .head _
      · exact .tail _ (mem_of_hfind' h)
  hfind_ne {t : Nat} {s : R} : ∀ {l : List (Nat × R)}, (t, s) ∈ l → hfind l t ≠ none
    | [], h => by cases h
    | (m, r) :: l, h => by
      rw [hfind_cons]
      split
      · simp
      · rename_i e
        rcases List.mem_cons.1 h with e' | h
        · cases e'; exact absurd rfl e
        · exact hfind_ne h

theorem hfind_not_hid {l : List SV} {n : Nat} (hn : ¬ isHid h l n) (h' : List (Nat × R)) : hfind (hid h l ++ h') n = hfind h' n := by
  rw [hfind_append]
  cases hc : hfind (hid h l) n with
  | some r' => exact absurd ⟨r', hfind_hid.mem_of_hfind' hc⟩ hn
  | none => rfl

theorem hfind_dead {a : List (Nat × R)} {b : List (Nat × R)} {n : Nat} : hfind (deadOf a ++ b) n = match hfind a n with | some _ => some .dead | none => hfind b n := by
  induction a with
  | nil => rfl
  | cons x a ih =>
    obtain ⟨m, r⟩ := x
    simp only [deadOf, List.cons_append, hfind_cons]
    by_cases e : m = n
    · rw [if_pos e, if_pos e]
    · rw [if_neg e, if_neg e]; exact ih

/-- Who owns what, with some hidden. -/
theorem owns_dead {l : List SV} {n b : Nat} : OwnsAt θ (deadOf (hid h l) ++ h) n b ↔ OwnsAt θ h n b ∧ ¬ isHid h l n := by
  constructor
  · rintro ⟨r, L, h1, h2, h3, h4⟩
    rw [hfind_dead] at h1
    cases hc : hfind (hid h l) n with
    | some r' => rw [hc] at h1; cases h1; exact h3.elim
    | none =>
      rw [hc] at h1
      refine ⟨⟨r, L, h1, h2, h3, h4⟩, ?_⟩
      rintro ⟨r', hr'⟩
      exact hfind_hid.hfind_ne hr' hc
  · rintro ⟨⟨r, L, h1, h2, h3, h4⟩, hn⟩
    refine ⟨r, L, ?_, h2, h3, h4⟩
    rw [hfind_dead]
    cases hc : hfind (hid h l) n with
    | some r' => exact absurd ⟨r', hfind_hid.mem_of_hfind' hc⟩ hn
    | none => exact h1

/-- The circumstances of one operation from which some things are hidden. -/
def Ctx.sub (K : Ctx) (θ : Th) (h hj : List (Nat × R)) (w : World) : Ctx where
  w0 := w
  M b := ∃ n, OwnsAt θ hj n b
  A b := Free K θ h b ∨ ∃ n, OwnsAt θ hj n b
  N := K.N
  ma _ hb := .inr hb

theorem SatH.hide (hs : SatH K θ h nx w) (l : List SV) : SatH (K.sub θ h (deadOf (hid h l) ++ h) w) θ (deadOf (hid h l) ++ h) nx w := by
  have hF : ∀ b, Free K θ h b → Free (K.sub θ h (deadOf (hid h l) ++ h) w) θ (deadOf (hid h l) ++ h) b := fun b hb => ⟨fun n hn => hb.1 n (owns_dead.1 hn).1, .inr (.inl hb)⟩
  refine ⟨hs.fresh, fun n r hr => ?_, fun n m b hn hm => hs.dis n m b (owns_dead.1 hn).1 (owns_dead.1 hm).1, fun n b hn => .inr ⟨n, hn⟩, .refl _ _⟩
  rw [hfind_dead] at hr
  cases hc : hfind (hid h l) n with
  | some r' =>
    rw [hc] at hr; cases hr
    obtain ⟨L, hL, _⟩ := hs.res n _ (hid_mem (hfind_hid.mem_of_hfind' hc))
    exact ⟨L, hL, trivial⟩
  | none =>
    rw [hc] at hr
    obtain ⟨L, hL, h1⟩ := hs.res n r hr
    exact ⟨L, hL, R.holds_mono (Th.ext_refl _) (fun b _ hb => ⟨hF b hb, rfl⟩) (fun _ => rfl) h1⟩

theorem SatH.unhide (hs : SatH K θ h nx w) {l : List SV} {θ' : Th} {h' : List (Nat × R)} {nx' : Nat} {w' : World}
    (hs' : SatH (K.sub θ h (deadOf (hid h l) ++ h) w) θ' h' nx' w') (hx : θ.ext θ') : SatH K θ' (hid h l ++ h') nx' w' ∧
      ∀ b, b < w.heap.size → (∀ n, OwnsAt θ h n b → isHid h l n) → w'.heap[b]? = w.heap[b]? := by
  have hfr := hs'.frame
  -- a block that is hidden, or that nobody owns, is as it was
  have keep : ∀ b, b < w.heap.size → (∀ n, OwnsAt θ h n b → isHid h l n) → w'.heap[b]? = w.heap[b]? := fun b hb hn =>
    hfr.block b hb fun ⟨n, ho⟩ => (owns_dead.1 ho).2 (hn n (owns_dead.1 ho).1)
  have src : ∀ {n b}, OwnsAt θ' (hid h l ++ h') n b → (isHid h l n ∧ OwnsAt θ h n b) ∨ (¬ isHid h l n ∧ OwnsAt θ' h' n b ∧ (w.heap.size ≤ b ∨ ∃ m, OwnsAt θ h m b ∧ ¬ isHid h l m)) := by
    rintro n b ⟨r, L, h1, h2, h3, h4⟩
    by_cases hn : isHid h l n
    · obtain ⟨r', hr'⟩ := hn
      rw [hfind_hid hr'] at h1; cases h1
      obtain ⟨L', hL', _⟩ := hs.res n _ (hid_mem hr')
      obtain rfl := Option.some.inj (h2.symm.trans (hx _ _ hL'))
      exact .inl ⟨⟨r, hr'⟩, r, L, hid_mem hr', hL', h3, h4⟩
    · rw [hfind_not_hid hn] at h1
      have ho : OwnsAt θ' h' n b := ⟨r, L, h1, h2, h3, h4⟩
      refine .inr ⟨hn, ho, (hs'.new n b ho).imp id ?_⟩
      rintro ⟨m, hm⟩
      exact ⟨m, owns_dead.1 hm⟩
  have clash : ∀ {n b}, isHid h l n → OwnsAt θ h n b → (w.heap.size ≤ b ∨ ∃ m, OwnsAt θ h m b ∧ ¬ isHid h l m) → False := by
    intro n b h1 h2 h3
    rcases h3 with h3 | ⟨m, h3, h4⟩
    · have := OwnsAt.lt hs h2; omega
    · exact h4 (hs.dis _ _ _ h2 h3 ▸ h1)
  have hF1 : ∀ b, b < w.heap.size → Free K θ h b → Free K θ' (hid h l ++ h') b := fun b hb hf => ⟨fun n hn => by
    rcases src hn with ⟨_, h1⟩ | ⟨_, _, h1 | ⟨m, h1, _⟩⟩
    · exact hf.1 _ h1
    · omega
    · exact hf.1 _ h1, hf.2⟩
  have hF2 : ∀ b, Free (K.sub θ h (deadOf (hid h l) ++ h) w) θ' h' b → Free K θ' (hid h l ++ h') b := fun b hf => by
    have hall : w.heap.size ≤ b ∨ Free K θ h b ∨ ∃ m, OwnsAt θ h m b ∧ ¬ isHid h l m := by
      rcases hf.2 with h1 | h1 | ⟨m, h1⟩
      · exact .inl h1
      · exact .inr (.inl h1)
      · exact .inr (.inr ⟨m, owns_dead.1 h1⟩)
    refine ⟨fun n hn => ?_, ?_⟩
    · rcases src hn with ⟨h1, h2⟩ | ⟨_, h1, _⟩
      · rcases hall with h3 | h3 | h3
        · have := OwnsAt.lt hs h2; omega
        · exact h3.1 _ h2
        · exact clash h1 h2 (.inr h3)
      · exact hf.1 _ h1
    · rcases hall with h3 | h3 | ⟨m, h3, _⟩
      · exact .inl (Nat.le_trans hs.frame.size h3)
      · exact h3.2
      · exact (hs.new m b h3).imp id (K.ma _)
  refine ⟨⟨hs'.fresh, fun n r hr => ?_, fun n m b hn hm => ?_, fun n b hn => ?_, ?_⟩, keep⟩
  · by_cases hn : isHid h l n
    · obtain ⟨r', hr'⟩ := hn
      rw [hfind_hid hr'] at hr; cases hr
      obtain ⟨L, hL, h1⟩ := hs.res n _ (hid_mem hr')
      refine ⟨L, hx _ _ hL, R.holds_mono hx (fun b hb hf => ⟨hF1 b hb hf, keep b hb fun n hn => absurd hn (hf.1 n)⟩) (fun ho => ?_) h1⟩
      have ow : OwnsAt θ h n L.b := ⟨r, L, hid_mem hr', hL, ho, rfl⟩
      exact keep L.b (OwnsAt.lt hs ow) fun m hm => hs.dis _ _ _ ow hm ▸ ⟨r, hr'⟩
    · rw [hfind_not_hid hn] at hr
      obtain ⟨L, hL, h1⟩ := hs'.res n r hr
      exact ⟨L, hL, R.holds_mono (Th.ext_refl _) (fun b _ hf => ⟨hF2 b hf, rfl⟩) (fun _ => rfl) h1⟩
  · rcases src hn with ⟨h1, h2⟩ | ⟨_, h2, h2'⟩ <;> rcases src hm with ⟨g1, g2⟩ | ⟨_, g2, g2'⟩
    · exact hs.dis _ _ _ h2 g2
    · exact (clash h1 h2 g2').elim
    · exact (clash g1 g2 h2').elim
    · exact hs'.dis _ _ _ h2 g2
  · rcases src hn with ⟨_, h2⟩ | ⟨_, _, h2 | ⟨m, h2, _⟩⟩
    · exact hs.new n b h2
    · exact .inl (Nat.le_trans hs.frame.size h2)
    · exact hs.new m b h2
  · refine ⟨hfr.os.trans hs.frame.os, hfr.tape.trans hs.frame.tape, hfr.output.trans hs.frame.output, Nat.le_trans hs.frame.size hfr.size, fun b hb hM => ?_⟩
    have hbw := Nat.lt_of_lt_of_le hb hs.frame.size
    rw [hfr.block b hbw ?_]
    · exact hs.frame.block b hb hM
    · rintro ⟨n, hn⟩
      rcases hs.new n b (owns_dead.1 hn).1 with h1 | h1
      · omega
      · exact hM h1
end
end Go.Z
