/- Chunks: what is written is read; what is read, written again, is the same. Contracts of the statements. -/
import Derived.Test.YtonfaeenoifomaaC4
namespace Go.ZM
open Go.Z Go.ZR
def okCB (l : List ChR) : Prop := ∀ c, c ∈ l → (0 ≤ c.t ∧ c.t ≤ 255) ∧ (0 ≤ c.f ∧ c.f ≤ 255) ∧ okB c.v
theorem chB_ok {c : ChR} (h1 : 0 ≤ c.t ∧ c.t ≤ 255) (h2 : 0 ≤ c.f ∧ c.f ≤ 255) (h3 : okB c.v) : okB (chB c) := by
  refine okB_append (fun x hx => ?_) (okB_append (be_ok _ _) (okB_padF h3))
  simp only [List.mem_cons, List.not_mem_nil, or_false] at hx
  rcases hx with rfl | rfl
  · exact h1
  · exact h2
theorem putB_ok {l : List ChR} (h : okCB l) : okB (putB l) := fun x hx => by
  obtain ⟨c, hc, hx⟩ := List.mem_flatMap.1 hx
  obtain ⟨h1, h2, h3⟩ := h c hc
  exact chB_ok h1 h2 h3 x hx
theorem putB_cons (c : ChR) (l : List ChR) : putB (c :: l) = chB c ++ putB l := by simp [putB]
theorem putB_append (l m : List ChR) : putB (l ++ m) = putB l ++ putB m := by simp [putB]
theorem numF_put (c : ChR) (r : List Int) (h : c.v.length ≤ 65531) : numF (chB c ++ r) = 4 + c.v.length := by
  have : ((chB c ++ r).drop 2).take 2 = be (4 + (c.v.length : Int)) 2 := by
    have e : chB c ++ r = [c.t, c.f] ++ (be (4 + (c.v.length : Int)) 2 ++ (padF c.v ++ r)) := by simp [chB]
    rw [e, List.drop_append_of_le_length (by simp), List.drop_of_length_le (by simp), List.nil_append, List.take_append_of_le_length (by simp [be_len]), List.take_of_length_le (by simp [be_len])]
  unfold numF
  rw [this, val_be]
  have : (256 : Int) ^ 2 = 65536 := rfl
  omega
theorem first_put (c : ChR) (r : List Int) (h : c.v.length ≤ 65531) : firstF (chB c ++ r) = (c, (chB c).length, 0) := by
  have hl := chB_len c
  have hn := numF_put c r h
  have hp : padN (4 + c.v.length) = padN c.v.length := by unfold padN; omega
  have e : chB c ++ r = [c.t, c.f] ++ (be (4 + (c.v.length : Int)) 2 ++ (c.v ++ (List.replicate (padN c.v.length) 0 ++ r))) := by simp [chB, padF]
  have hd : ∀ k, (chB c ++ r).drop (4 + k) = (c.v ++ (List.replicate (padN c.v.length) 0 ++ r)).drop k := fun k => by
    rw [← List.drop_drop]
    congr 1
    rw [e, ← List.append_assoc, List.drop_append_of_le_length (by simp [be_len]), List.drop_of_length_le (by simp [be_len]), List.nil_append]
  have hz : someNZ (((chB c ++ r).drop (numF (chB c ++ r))).take (padN (numF (chB c ++ r)))) = false := by
    rw [hn, hp, hd, List.drop_append_of_le_length (Nat.le_refl _), List.drop_of_length_le (Nat.le_refl _), List.nil_append, List.take_append_of_le_length (by simp), List.take_of_length_le (by simp), someNZ, List.any_eq_false]
    intro x hx
    have := List.eq_of_mem_replicate hx
    simp [this]
  rw [first_ok (by simp; omega) (by omega) (by rw [hn, hp]; simp; omega) hz, hn, hp]
  have h4 := hd 0
  rw [Nat.add_zero, List.drop_zero] at h4
  rw [h4, show 4 + c.v.length - 4 = c.v.length by omega, List.take_append_of_le_length (Nat.le_refl _), List.take_of_length_le (Nat.le_refl _)]
  refine Prod.ext ?_ (Prod.ext ?_ rfl)
  · have e0 : (chB c ++ r).getD 0 0 = c.t := by rw [e]; rfl
    have e1 : (chB c ++ r).getD 1 0 = c.f := by rw [e]; rfl
    simp only [e0, e1]
  · simp only; omega
theorem getG_put : ∀ (l : List ChR) (acc : List ChR) (f : Nat), acc.length + l.length ≤ 32 → f = 33 - acc.length → (∀ c, c ∈ l → c.v.length ≤ 65531) → getG f acc (putB l) = (acc ++ l, 0)
  | [], acc, f, h, hf, _ => by
    obtain ⟨k, rfl⟩ : ∃ k, f = k + 1 := ⟨f - 1, by simp at h; omega⟩
    show getG (k + 1) acc [] = _
    rw [getG_nil, List.append_nil]
  | c :: l, acc, f, h, hf, hv => by
    simp only [List.length_cons] at h
    obtain ⟨k, rfl⟩ : ∃ k, f = k + 1 := ⟨f - 1, by omega⟩
    have hfi := first_put c (putB l) (hv c (List.mem_cons_self ..))
    have hl := chB_len c
    rw [putB_cons, getG_step (by rw [List.length_append]; omega) (by omega) (by rw [hfi]), hfi]
    simp only
    rw [List.drop_append_of_le_length (Nat.le_refl _), List.drop_of_length_le (Nat.le_refl _), List.nil_append, getG_put l (acc ++ [c]) k (by simp; omega) (by simp; omega) (fun d hd => hv d (List.mem_cons_of_mem _ hd))]
    simp
theorem put_small {l : List ChR} (h : (putB l).length ≤ 4096) : ∀ c, c ∈ l → c.v.length ≤ 65531 := fun c hc => by
  have : (chB c).length ≤ (putB l).length := by
    obtain ⟨a, b, rfl⟩ := List.append_of_mem hc
    rw [putB_append, putB_cons]; simp; omega
  rw [chB_len] at this; omega
theorem get_put {l : List ChR} (h : l.length ≤ 32) (h' : (putB l).length ≤ 4096) : getR (putB l) = (l, 0) := by
  rw [getR_eq (by omega), getG_put l [] 33 (by simpa using h) rfl (put_small h')]; rfl
/-- What a first chunk is made of. -/
theorem first_bytes {b : List Int} (hb : okB b) (h : (firstF b).2.2 = 0) : b = chB (firstF b).1 ++ b.drop (firstF b).2.1 ∧ (firstF b).1.v.length ≤ 65531 := by
  by_cases h0 : b.length < 4
  · rw [first_short h0] at h; cases h
  by_cases h1 : numF b < 4
  · rw [first_form h0 h1] at h; cases h
  by_cases h2 : b.length < numF b + padN (numF b)
  · rw [first_short2 h0 h1 h2] at h; cases h
  cases h3 : someNZ ((b.drop (numF b)).take (padN (numF b))) with
  | true => rw [first_form2 h0 h1 h2 h3] at h; cases h
  | false =>
    rw [first_ok h0 h1 h2 h3]
    simp only
    obtain ⟨n0, n1⟩ := num_lt hb
    have hn : (numF b : Int) = valF ((b.drop 2).take 2) := by unfold numF; omega
    have hlv : ((b.drop 4).take (numF b - 4)).length = numF b - 4 := by rw [List.length_take, List.length_drop]; omega
    have hpp : padN (numF b - 4) = padN (numF b) := by unfold padN; omega
    refine ⟨?_, by rw [hlv]; omega⟩
    have s1 : b = b.take 2 ++ b.drop 2 := (List.take_append_drop 2 b).symm
    have s2 : b.drop 2 = (b.drop 2).take 2 ++ b.drop 4 := by
      have := (List.take_append_drop 2 (b.drop 2)).symm
      rw [List.drop_drop] at this; exact this
    have s3 : b.drop 4 = (b.drop 4).take (numF b - 4) ++ b.drop (numF b) := by
      have := (List.take_append_drop (numF b - 4) (b.drop 4)).symm
      rw [List.drop_drop, show 4 + (numF b - 4) = numF b by omega] at this; exact this
    have s4 : b.drop (numF b) = (b.drop (numF b)).take (padN (numF b)) ++ b.drop (numF b + padN (numF b)) := by
      have := (List.take_append_drop (padN (numF b)) (b.drop (numF b))).symm
      rw [List.drop_drop] at this; exact this
    have t1 : b.take 2 = [b.getD 0 0, b.getD 1 0] := by
      match b, h0 with
      | x :: y :: _, _ => rfl
      | [_], h0 => simp at h0
      | [], h0 => simp at h0
    have t2 : (b.drop 2).take 2 = be (4 + (((b.drop 4).take (numF b - 4)).length : Int)) 2 := by
      rw [hlv, show (4 : Int) + ((numF b - 4 : Nat) : Int) = (numF b : Int) by omega, hn]
      have := be_val (okB_take (okB_drop hb 2) 2)
      rw [show ((b.drop 2).take 2).length = 2 by rw [List.length_take, List.length_drop]; omega] at this
      exact this.symm
    have t3 : (b.drop (numF b)).take (padN (numF b)) = List.replicate (padN (numF b)) 0 := by
      rw [List.eq_replicate_iff]
      refine ⟨by rw [List.length_take, List.length_drop]; omega, fun x hx => ?_⟩
      rw [someNZ, List.any_eq_false] at h3
      have a1 := h3 x hx
      have a2 := okB_take (okB_drop hb (numF b)) _ x hx
      have a3 : ¬ 0 < x := by simpa using a1
      omega
    have hc : chB ⟨b.getD 0 0, b.getD 1 0, (b.drop 4).take (numF b - 4)⟩ = b.take 2 ++ ((b.drop 2).take 2 ++ ((b.drop 4).take (numF b - 4) ++ (b.drop (numF b)).take (padN (numF b)))) := by
      unfold chB padF
      simp only
      rw [t1, t2, t3, hlv, hpp]
    rw [hc]
    simp only [List.append_assoc]
    rw [← s4, ← s3, ← s2, ← s1]
theorem put_get : ∀ (f : Nat) (acc : List ChR) (b : List Int) (l : List ChR), okB b → acc.length ≤ 32 → getG f acc b = (l, 0) → ∃ m, l = acc ++ m ∧ putB m = b ∧ l.length ≤ 32
  | 0, acc, b, l, _, _, h => by rw [getG] at h; cases h
  | f + 1, acc, b, l, hb, ha, h => by
    by_cases h0 : b.length = 0
    · have : b = [] := List.length_eq_zero_iff.1 h0
      subst this
      rw [getG_nil] at h
      cases h
      exact ⟨[], by simp, rfl, ha⟩
    by_cases h1 : 32 ≤ acc.length
    · rw [getG_full h0 h1] at h; cases h
    by_cases h2 : (firstF b).2.2 = 0
    · rw [getG_step h0 h1 h2] at h
      obtain ⟨m, h3, h4, h5⟩ := put_get f _ _ l (okB_drop hb _) (by simp; omega) h
      refine ⟨(firstF b).1 :: m, by rw [h3]; simp, ?_, h5⟩
      rw [putB_cons, h4, ← (first_bytes hb h2).1]
    · rw [getG_err h0 h1 h2] at h
      exact absurd (congrArg Prod.snd h) h2
theorem getG_len : ∀ (f : Nat) (acc : List ChR) (b : List Int), okB b → acc.length ≤ 32 → (∀ c, c ∈ acc → c.v.length ≤ 65531) → (getG f acc b).1.length ≤ 32 ∧ ∀ c, c ∈ (getG f acc b).1 → c.v.length ≤ 65531
  | 0, acc, b, _, _, _ => by rw [getG]; exact ⟨Nat.zero_le _, fun c hc => by cases hc⟩
  | f + 1, acc, b, hb, ha, hv => by
    by_cases h0 : b.length = 0
    · have : b = [] := List.length_eq_zero_iff.1 h0
      subst this
      rw [getG_nil]; exact ⟨ha, hv⟩
    by_cases h1 : 32 ≤ acc.length
    · rw [getG_full h0 h1]; exact ⟨Nat.zero_le _, fun c hc => by cases hc⟩
    by_cases h2 : (firstF b).2.2 = 0
    · rw [getG_step h0 h1 h2]
      refine getG_len f _ _ (okB_drop hb _) (by simp; omega) fun c hc => ?_
      rcases List.mem_append.1 hc with hc | hc
      · exact hv c hc
      · rw [List.mem_singleton.1 hc]; exact (first_bytes hb h2).2
    · rw [getG_err h0 h1 h2]; exact ⟨Nat.zero_le _, fun c hc => by cases hc⟩
theorem getR_ok {b : List Int} (hb : okB b) : okChs (getR b).1 := by
  by_cases h : 4096 < b.length
  · rw [getR_big h]; exact ⟨Nat.zero_le _, fun c hc => by cases hc⟩
  · rw [getR_eq h]
    obtain ⟨h1, h2⟩ := getG_len 33 [] b hb (Nat.zero_le _) (fun c hc => by cases hc)
    exact ⟨by omega, fun c hc => by have := h2 c hc; unfold sm; omega⟩
theorem getG_err_nil : ∀ (f : Nat) (acc : List ChR) (b : List Int), (getG f acc b).2 ≠ 0 → (getG f acc b).1 = []
  | 0, acc, b, _ => by rw [getG]
  | f + 1, acc, b, h => by
    by_cases h0 : b.length = 0
    · have : b = [] := List.length_eq_zero_iff.1 h0
      subst this
      rw [getG_nil] at h; exact absurd rfl h
    by_cases h1 : 32 ≤ acc.length
    · rw [getG_full h0 h1]
    by_cases h2 : (firstF b).2.2 = 0
    · rw [getG_step h0 h1 h2] at h ⊢
      exact getG_err_nil f _ _ h
    · rw [getG_err h0 h1 h2]
theorem getR_err {b : List Int} (h : (getR b).2 ≠ 0) : (getR b).1 = [] := by
  by_cases hb : 4096 < b.length
  · rw [getR_big hb]
  · rw [getR_eq hb] at h ⊢; exact getG_err_nil _ _ _ h
theorem getR_put {b : List Int} (hb : okB b) (h : (getR b).2 = 0) : putR (getR b).1 = (b, 0) := by
  by_cases h1 : 4096 < b.length
  · rw [getR_big h1] at h; cases h
  · rw [getR_eq h1] at h ⊢
    obtain ⟨m, e1, e2, e3⟩ := put_get 33 [] b (getG 33 [] b).1 hb (Nat.zero_le _) (Prod.ext rfl h)
    rw [List.nil_append] at e1
    rw [e1, put_ok (by rw [← e1]; exact e3) (by rw [e2]; omega), e2]
theorem sameCh_refl (c : ChR) : sameCh c c = true := by simp [sameCh]
theorem sames_refl (l : List ChR) : sameChs l l = true := by
  have : ((List.range (min l.length l.length)).all fun i => sameCh (l.getD i noCh) (l.getD i noCh)) = true := by
    rw [List.all_eq_true]; intro x _; exact sameCh_refl _
  unfold sameChs; rw [this]; simp
theorem putR_zero {l : List ChR} (h : (putR l).2 = 0) : l.length ≤ 32 ∧ (putB l).length ≤ 4096 ∧ (putR l).1 = putB l := by
  unfold putR at h ⊢
  split at h
  · cases h
  · rename_i hc
    rw [if_neg hc]; exact ⟨by omega, by omega, rfl⟩
theorem putR_len (l : List ChR) : (putR l).1.length ≤ 4096 := by
  unfold putR
  split
  · exact Nat.zero_le _
  · simp only; omega
theorem putR_ok {l : List ChR} (h : okCB l) : okB (putR l).1 := by
  unfold putR
  split
  · exact fun x hx => by cases hx
  · exact putB_ok h
/-- A list of chunks, however it was laid. -/
def asCh (A : D) (l : List ChR) : Prop := chsOf A = l ∧ readsTo A (.recs 3 l.length (chCell l))
end Go.ZM
namespace Go.ZR
open Go.Z Go.ZM Go.Proofs
def trueC (n : Nat) (pre : List O → Prop) : Ctr := nC n false pre fun _ => [bO true]
theorem asCh_self (l : List ChR) : asCh (.recs 3 l.length (chCell l)) l := ⟨chsOf_chs l, readsTo_refl _⟩
def samesWC : Ctr := nC 2 true (fun a => ∃ l m A B, a = [.d A, .d B] ∧ okChs l ∧ okChs m ∧ asCh A l ∧ asCh B m) fun a => [bO (sameChs (chsOf (dO (at_ a 0))) (chsOf (dO (at_ a 1))))]
theorem ok22w : FnIs Try.prog 22 samesWC := by
  refine ok22.weak fun a hp => ?_
  obtain ⟨l, m, A, B, rfl, h1, h2, ⟨r1, r2⟩, ⟨s1, s2⟩⟩ := hp
  refine ⟨[.d (chsD l), .d (chsD m)], ⟨l, m, rfl, h1, h2⟩, ?_, ?_, rfl⟩
  · exact toL_cons (toO_d r2) (toL_cons (toO_d s2) (toL_refl _))
  · show [bO (sameChs (chsOf (chsD l)) (chsOf (chsD m)))] = [bO (sameChs (chsOf A) (chsOf B))]
    rw [r1, s1, chsD, chsD, chsOf_chs, chsOf_chs]
theorem asCh_app (l m : List ChR) : asCh (.recs 3 (l.length + m.length) (fun i j => bif i.blt l.length then chCell l i j else chCell m (i - l.length) j)) (l ++ m) := by
  have hr : readsTo (.recs 3 (l.length + m.length) (fun i j => bif i.blt l.length then chCell l i j else chCell m (i - l.length) j)) (chsD (l ++ m)) := by
    unfold chsD
    rw [List.length_append]
    refine reads_recs fun i hi j hj => ?_
    by_cases h : i < l.length
    · have e : (l ++ m).getD i noCh = l.getD i noCh := by simp [List.getD, List.getElem?_append_left h]
      rw [blt_t h, _root_.cond_true]; unfold chCell; rw [e]
    · have e : (l ++ m).getD i noCh = m.getD (i - l.length) noCh := by simp [List.getD, List.getElem?_append_right (by omega : l.length ≤ i)]
      rw [blt_f h, _root_.cond_false]; unfold chCell; rw [e]
  refine ⟨?_, hr⟩
  have e : (List.range (l.length + m.length)).map (fun i => chAt fun j => bif i.blt l.length then chCell l i j else chCell m (i - l.length) j) = (List.range (l ++ m).length).map (fun i => (l ++ m).getD i noCh) := by
    rw [List.length_append]
    apply List.map_congr_left
    intro i hi
    have hi := List.mem_range.1 hi
    by_cases h : i < l.length
    · have e : (l ++ m).getD i noCh = l.getD i noCh := by simp [List.getD, List.getElem?_append_left h]
      rw [e, blt_t h]; rfl
    · have e : (l ++ m).getD i noCh = m.getD (i - l.length) noCh := by simp [List.getD, List.getElem?_append_right (by omega : l.length ≤ i)]
      rw [e, blt_f h]; rfl
  exact e.trans (range_getD (l ++ m) noCh)
def putLawC : Ctr := trueC 1 fun a => ∃ l, a = [.d (chsD l)] ∧ okChs l
def getLawC : Ctr := trueC 1 fun a => ∃ b, a = [bsO b] ∧ sm b.length ∧ okB b
def backLawC : Ctr := trueC 3 fun a => ∃ l m b, a = [.d (chsD l), .d (chsD m), bsO b] ∧ okChs l ∧ okChs m ∧ okCB l ∧ okCB m ∧ sm b.length ∧ okB b
def c11 : List (Nat × Ctr) := [(15, ownC), (14, putsC), (16, putsC), (17, ansC), (20, getsC), (21, getsC), (22, samesWC)]
theorem c11_ok : COk Try.prog (ctrs c11) := cok_cons ok15 (cok_cons ok14 (cok_cons ok16 (cok_cons ok17 (cok_cons ok20 (cok_cons ok21 (cok_cons ok22w cok_nil))))))
end Go.ZR
