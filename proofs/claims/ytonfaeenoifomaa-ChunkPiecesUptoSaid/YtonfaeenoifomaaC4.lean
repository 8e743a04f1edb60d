/- Chunks: walks -/
import Derived.Test.YtonfaeenoifomaaRows
import Derived.Test.YtonfaeenoifomaaC3
namespace Go.ZR
open Go.Proofs
open Go.Z Go.ZM Go.RowKit
set_option maxRecDepth 100000
theorem bytes45 : Try.prog.types[(45 : Nat)].bytes = 32 := by kernel_rfl
theorem size45 : Try.prog.types[(45 : Nat)].size = 3 := by kernel_rfl
theorem chB_len (c : ChR) : (chB c).length = 4 + c.v.length + padN c.v.length := by simp [chB, be_len, padF_len]; omega
theorem putB_take {l : List ChR} {i : Nat} (h : i < l.length) : putB (l.take (i + 1)) = putB (l.take i) ++ chB (l.getD i noCh) := by
  unfold putB
  rw [List.take_succ_eq_append_getElem h, List.flatMap_append, show l.getD i noCh = l[i] by simp [List.getD, List.getElem?_eq_getElem h]]
  simp
theorem getD_mem {α : Type} {l : List α} {d : α} {i : Nat} (h : i < l.length) : l.getD i d ∈ l := by
  rw [show l.getD i d = l[i] by simp [List.getD, List.getElem?_eq_getElem h]]; exact List.getElem_mem h
theorem ch_cell {l : List ChR} {i : Nat} {c : ChR} (h : l.getD i noCh = c) {j : Nat} (hj : j < 3) : [D.v (.int .u8 c.t), D.v (.int .u8 c.f), D.ints .u8 c.v].getD j (D.v undef) = chCell l i j := by
  subst h
  match j, hj with
  | 0, _ => rfl
  | 1, _ => rfl
  | 2, _ => rfl
theorem blt_t {a b : Nat} (h : a < b) : a.blt b = true := by simpa [Nat.blt_eq] using h
theorem blt_f {a b : Nat} (h : ¬ a < b) : a.blt b = false := by
  cases e : a.blt b with
  | false => rfl
  | true => exact absurd (by simpa [Nat.blt_eq] using e) h
theorem app_ch (l : List ChR) (c : ChR) {i j : Nat} (hi : i < l.length + 1) (hj : j < 3) :
    (bif i.blt l.length then chCell l i j else [D.v (.int .u8 c.t), D.v (.int .u8 c.f), D.ints .u8 c.v].getD ((i - l.length) * 3 + j) (D.v undef)) = chCell (l ++ [c]) i j := by
  by_cases h : i < l.length
  · have e : (l ++ [c]).getD i noCh = l.getD i noCh := by simp [List.getD, List.getElem?_append_left h]
    rw [blt_t h, _root_.cond_true]
    unfold chCell
    rw [e]
  · have hi' : i = l.length := by omega
    have e : (l ++ [c]).getD i noCh = c := by subst hi'; simp [List.getD]
    rw [blt_f h, _root_.cond_false, show (i - l.length) * 3 + j = j by omega]
    exact ch_cell e hj
theorem take_ch {l : List ChR} {i : Nat} (h : i < l.length) : l.take (i + 1) = l.take i ++ [l.getD i noCh] := by
  rw [List.take_succ_eq_append_getElem h, show l.getD i noCh = l[i] by simp [List.getD, List.getElem?_eq_getElem h]]
theorem bytes_dec (a b : ByteArray) : decide (a.data.toList = b.data.toList) = decide (a = b) := by
  rw [decide_eq_decide]
  constructor
  · intro h
    cases a; cases b
    simp only [ByteArray.mk.injEq]
    exact Array.ext' h
  · rintro rfl; rfl
theorem toNat2 : Int.toNat 2 = 2 := rfl
theorem toNat4 : Int.toNat 4 = 4 := rfl
theorem toNat0 : Int.toNat 0 = 0 := rfl
theorem toNat1 : Int.toNat 1 = 1 := rfl
theorem chB_eta (c : ChR) : chB ⟨c.t, c.f, c.v⟩ = chB c := rfl
theorem putB_mono (l : List ChR) (i : Nat) : (putB (l.take i)).length ≤ (putB l).length := by
  have : putB l = putB (l.take i) ++ putB (l.drop i) := by
    unfold putB; rw [← List.flatMap_append, List.take_append_drop]
  rw [this, List.length_append]; omega
theorem put_err1 {l : List ChR} (h : 32 < l.length) : putR l = ([], 4) := by unfold putR; rw [if_pos (.inl h)]
theorem put_err2 {l : List ChR} {i : Nat} (h : 4096 < (putB (l.take i)).length) : putR l = ([], 4) := by
  have := putB_mono l i
  unfold putR; rw [if_pos (.inr (by omega))]
theorem put_ok {l : List ChR} (h : l.length ≤ 32) (h' : (putB l).length ≤ 4096) : putR l = (putB l, 0) := by
  unfold putR; rw [if_neg (by omega)]
theorem wrap_len {n : Nat} (h : n ≤ 1099511627776) : IntKind.u64.wrap (IntKind.i64.wrap (4 + (n : Int))) = 4 + (n : Int) := by
  rw [wrap_i64_id (by omega) (by omega), IntKind.wrap_u64]; omega
theorem putB_step {l : List ChR} {g : Nat} (h : g < l.length) : putB (l.take g) ++ [(l.getD g noCh).t, (l.getD g noCh).f] ++ be (4 + ((l.getD g noCh).v.length : Int)) 2 ++ padF (l.getD g noCh).v = putB (l.take (g + 1)) := by
  rw [putB_take h]; simp [chB]
theorem first_short {b : List Int} (h : b.length < 4) : firstF b = (noCh, 0, 3) := by unfold firstF; rw [if_pos h]
theorem first_form {b : List Int} (h : ¬ b.length < 4) (h1 : numF b < 4) : firstF b = (noCh, 0, 2) := by unfold firstF; rw [if_neg h, if_pos h1]
theorem first_short2 {b : List Int} (h : ¬ b.length < 4) (h1 : ¬ numF b < 4) (h2 : b.length < numF b + padN (numF b)) : firstF b = (noCh, 0, 3) := by
  unfold firstF; rw [if_neg h, if_neg h1, if_pos h2]
theorem first_form2 {b : List Int} (h : ¬ b.length < 4) (h1 : ¬ numF b < 4) (h2 : ¬ b.length < numF b + padN (numF b)) (h3 : someNZ ((b.drop (numF b)).take (padN (numF b))) = true) : firstF b = (noCh, 0, 2) := by
  unfold firstF; rw [if_neg h, if_neg h1, if_neg h2, if_pos h3]
theorem first_ok {b : List Int} (h : ¬ b.length < 4) (h1 : ¬ numF b < 4) (h2 : ¬ b.length < numF b + padN (numF b)) (h3 : someNZ ((b.drop (numF b)).take (padN (numF b))) = false) :
    firstF b = (⟨b.getD 0 0, b.getD 1 0, (b.drop 4).take (numF b - 4)⟩, numF b + padN (numF b), 0) := by
  unfold firstF; rw [if_neg h, if_neg h1, if_neg h2, if_neg (by rw [h3]; simp)]
theorem num_lt {b : List Int} (hb : okB b) : 0 ≤ valF ((b.drop 2).take 2) ∧ valF ((b.drop 2).take 2) < 65536 := by
  have h := okB_take (okB_drop hb 2) 2
  have h1 := val_lt h
  have h2 : ((b.drop 2).take 2).length ≤ 2 := List.length_take_le _ _
  have h3 : ∀ k : Nat, k ≤ 2 → (256 : Int) ^ k ≤ 65536 := by decide
  have := h3 _ h2
  exact ⟨val_nonneg h, by omega⟩
theorem first_all {b : List Int} (h : (firstF b).2.2 = 0) : (firstF b).2.1 ≤ b.length ∧ 4 ≤ (firstF b).2.1 := by
  by_cases h0 : b.length < 4
  · rw [first_short h0] at h; cases h
  by_cases h1 : numF b < 4
  · rw [first_form h0 h1] at h; cases h
  by_cases h2 : b.length < numF b + padN (numF b)
  · rw [first_short2 h0 h1 h2] at h; cases h
  cases h3 : someNZ ((b.drop (numF b)).take (padN (numF b))) with
  | true => rw [first_form2 h0 h1 h2 h3] at h; cases h
  | false => rw [first_ok h0 h1 h2 h3]; simp only; omega
theorem getG_nil {f : Nat} {l : List ChR} : getG (f + 1) l [] = (l, 0) := by rw [getG, if_pos List.length_nil]
theorem getG_full {f : Nat} {l : List ChR} {b : List Int} (hb : b.length ≠ 0) (h : 32 ≤ l.length) : getG (f + 1) l b = ([], 4) := by rw [getG, if_neg hb, if_pos h]
theorem getG_err {f : Nat} {l : List ChR} {b : List Int} (hb : b.length ≠ 0) (h : ¬ 32 ≤ l.length) (he : ¬ (firstF b).2.2 = 0) : getG (f + 1) l b = ([], (firstF b).2.2) := by rw [getG, if_neg hb, if_neg h, if_neg he]
theorem getG_step {f : Nat} {l : List ChR} {b : List Int} (hb : b.length ≠ 0) (h : ¬ 32 ≤ l.length) (he : (firstF b).2.2 = 0) : getG (f + 1) l b = getG f (l ++ [(firstF b).1]) (b.drop (firstF b).2.1) := by
  rw [getG, if_neg hb, if_neg h, if_pos he]
theorem getR_big {b : List Int} (h : 4096 < b.length) : getR b = ([], 4) := by unfold getR; rw [if_pos h]
theorem getR_eq {b : List Int} (h : ¬ 4096 < b.length) : getR b = getG 33 [] b := by unfold getR; rw [if_neg h]
theorem getD_drop {α : Type} (l : List α) (n i : Nat) (d : α) : (l.drop n).getD i d = l.getD (n + i) d := by simp [List.getD, List.getElem?_drop]
theorem nz_true {b : List Int} (hb : okB b) {n k j : Nat} (h1 : n ≤ j) (h2 : j < n + k) (h3 : j < b.length) (h : ¬ b.getD j 0 = 0) : someNZ ((b.drop n).take k) = true := by
  rw [someNZ, List.any_eq_true]
  have := okB_getD hb j
  refine ⟨b.getD j 0, ?_, decide_eq_true (by omega)⟩
  have hl : j - n < ((b.drop n).take k).length := by rw [List.length_take, List.length_drop]; omega
  have e : ((b.drop n).take k).getD (j - n) 0 = b.getD j 0 := by
    simp only [List.getD, List.getElem?_take, List.getElem?_drop]
    rw [if_pos (by omega), show n + (j - n) = j by omega]
  rw [← e]; exact getD_mem hl
theorem nz_false {b : List Int} {n k : Nat} (h : ∀ j, n ≤ j → j < n + k → b.getD j 0 = 0) : someNZ ((b.drop n).take k) = false := by
  rw [someNZ, List.any_eq_false]
  intro x hx
  obtain ⟨i, hi, rfl⟩ := List.mem_iff_getElem.1 hx
  have hl : i < k ∧ i < b.length - n := by rw [List.length_take, List.length_drop] at hi; omega
  have := h (n + i) (by omega) (by omega)
  have e : ((b.drop n).take k)[i] = b.getD (n + i) 0 := by
    rw [List.getElem_take, List.getElem_drop]
    simp [List.getD, List.getElem?_eq_getElem (show n + i < b.length by omega)]
  rw [e, this]; simp
theorem sames_false {l m : List ChR} {g : Nat} (h1 : g < l.length) (h2 : g < m.length) (h : sameCh (l.getD g noCh) (m.getD g noCh) = false) : sameChs l m = false := by
  have : ((List.range (min l.length m.length)).all fun i => sameCh (l.getD i noCh) (m.getD i noCh)) = false := by
    rw [List.all_eq_false]
    exact ⟨g, List.mem_range.2 (by omega), by simpa using h⟩
  unfold sameChs; rw [this]; rfl
theorem sames_end {l m : List ChR} {g : Nat} (hg : min l.length m.length ≤ g) (h : ∀ j, j < g → sameCh (l.getD j noCh) (m.getD j noCh) = true) : decide ((l.length : Int) = (m.length : Int)) = sameChs l m := by
  have : ((List.range (min l.length m.length)).all fun i => sameCh (l.getD i noCh) (m.getD i noCh)) = true := by
    rw [List.all_eq_true]
    intro x hx
    exact h x (by have := List.mem_range.1 hx; omega)
  unfold sameChs; rw [this, Bool.true_and]
  congr 1; apply propext; omega
noncomputable def i68c75 : Code := match Try.f75.body with | some c => c | none => .skip
noncomputable def i68_75 : InlF := ⟨i68c75, Try.f75.ntmps, Try.f75.results.toList, anns [(2, firstAnn)]⟩
noncomputable def i68c69 : Code := match Try.f69.body with | some c => c | none => .skip
noncomputable def i68_69 : InlF := ⟨i68c69, Try.f69.ntmps, Try.f69.results.toList, anns []⟩
noncomputable def i68 : List (Nat × InlF) := [(75, i68_75), (69, i68_69)]
theorem i68_ok : InlsOk Try.prog i68 := ⟨inlOk Try.func75 (by kernel_rfl) (by kernel_rfl), inlOk Try.func69 (by kernel_rfl) (by kernel_rfl), trivial⟩
noncomputable def i17c14 : Code := match Try.f14.body with | some c => c | none => .skip
noncomputable def i17_14 : InlF := ⟨i17c14, Try.f14.ntmps, Try.f14.results.toList, anns [] [] [(5, 3), (13, 3)]⟩
noncomputable def i17c44 : Code := match Try.f44.body with | some c => c | none => .skip
noncomputable def i17_44 : InlF := ⟨i17c44, Try.f44.ntmps, Try.f44.results.toList, anns []⟩
noncomputable def i17c45 : Code := match Try.f45.body with | some c => c | none => .skip
noncomputable def i17_45 : InlF := ⟨i17c45, Try.f45.ntmps, Try.f45.results.toList, anns [] [] [(5, 3)]⟩
noncomputable def i17c46 : Code := match Try.f46.body with | some c => c | none => .skip
noncomputable def i17_46 : InlF := ⟨i17c46, Try.f46.ntmps, Try.f46.results.toList, anns []⟩
noncomputable def i17c54 : Code := match Try.f54.body with | some c => c | none => .skip
noncomputable def i17_54 : InlF := ⟨i17c54, Try.f54.ntmps, Try.f54.results.toList, anns []⟩
noncomputable def i17c67 : Code := match Try.f67.body with | some c => c | none => .skip
noncomputable def i17_67 : InlF := ⟨i17c67, Try.f67.ntmps, Try.f67.results.toList, anns []⟩
noncomputable def i17 : List (Nat × InlF) := [(14, i17_14), (44, i17_44), (45, i17_45), (46, i17_46), (54, i17_54), (67, i17_67)]
theorem i17_ok : InlsOk Try.prog i17 := ⟨inlOk Try.func14 (by kernel_rfl) (by kernel_rfl), inlOk Try.func44 (by kernel_rfl) (by kernel_rfl), inlOk Try.func45 (by kernel_rfl) (by kernel_rfl), inlOk Try.func46 (by kernel_rfl) (by kernel_rfl), inlOk Try.func54 (by kernel_rfl) (by kernel_rfl), inlOk Try.func67 (by kernel_rfl) (by kernel_rfl), trivial⟩
noncomputable def code15 : Code := match Try.f15.body with | some c => c | none => .skip
set_option maxHeartbeats 4000000 in
theorem vc15 : ∀ (l : List ChR), okChs l → ∃ (g0 : Nat), g0 ≤ l.length ∧ (0 : Int) = (↑g0 : Int) ∧ (List.take g0 l).length = (0 : Nat) ∧ (true && true) = true ∧ ∀ (g : Nat), g ≤ l.length →
  True ∧ sw (decide ((↑g : Int) < (↑l.length : Int))) (((0 : Int) ≤ (↑g : Int) ∧ (↑g : Int) < (↑l.length : Int)) ∧ True ∧ ((0 : Nat) + (l.getD (↑g : Int).toNat noCh).v.length) * Try.prog.types[(5 : Nat)].bytes ≤ (140737488355328 : Nat) ∧
  True ∧ ((List.take g l).length + (1 : Nat)) * Try.prog.types[(45 : Nat)].bytes ≤ (140737488355328 : Nat) ∧ True ∧ ∃ (g' : Nat), g' ≤ l.length ∧ l.length - g' < l.length - g ∧
  (IntKind.i64.wrap ((↑g : Int) + (1 : Int)) = (↑g' : Int) ∧ ((List.take g l).length + (1 : Nat) = (List.take g' l).length ∧ ∀ (i : Nat), i < (List.take g l).length + (1 : Nat) →
  ∀ (j : Nat), j < (3 : Nat) → (bif i.blt (List.take g l).length then chCell (List.take g l) i j else [D.v (Value.int IntKind.u8 (l.getD (↑g : Int).toNat noCh).t), D.v (Value.int IntKind.u8 (l.getD (↑g : Int).toNat noCh).f), D.ints IntKind.u8 ([] ++ (l.getD (↑g : Int).toNat noCh).v)].getD ((i - (List.take g l).length) * Try.prog.types[(45 : Nat)].size + j) (D.v undef)) = chCell (List.take g' l) i j) ∧
  (!false && true && true && ((Nat.ble (1 : Nat) (7 : Nat) || false) && true)) = true) ∧ (some SV.nil = some SV.nil ∧ some (SV.a (0 : Nat)) = some (SV.a (0 : Nat)) ∧
  True) ∧ some (R.ro (D.recs (3 : Nat) l.length (chCell l))) = some (R.ro (D.recs (3 : Nat) l.length (chCell l))) ∧ True) (((List.take g l).length = (chsOf (D.recs (3 : Nat) l.length (chCell l))).length ∧
  ∀ (i : Nat), i < (List.take g l).length → ∀ (j : Nat), j < (3 : Nat) → chCell (List.take g l) i j = chCell (chsOf (D.recs (3 : Nat) l.length (chCell l))) i j) ∧
  (!false && true && true) = true) := by
  simp only [↓sw_iff, ↓Bool.and_eq_true, ↓decide_eq_true_eq, ↓decide_eq_false_iff_not, ↓Bool.not_eq_true', true_and, and_true, Bool.or_false, Nat.ble, Int.toNat_natCast, Nat.zero_add, List.nil_append, Nat.mul_one, bytes5, bytes45, size45, chsOf_chs]
  intro l h
  obtain ⟨h1, h2⟩ := h
  refine ⟨0, Nat.zero_le _, rfl, rfl, ?_⟩
  intro g hg
  refine ⟨fun hlt => ?_, fun hge => ?_⟩
  · have hlt : g < l.length := by omega
    have hs := h2 _ (getD_mem (d := noCh) hlt)
    unfold sm at hs
    have ht : (l.take g).length = g := by rw [List.length_take]; omega
    refine ⟨⟨by omega, by omega⟩, by omega, by omega, g + 1, hlt, by omega, by rw [wrap_i64_id (by omega) (by omega)]; rfl, by rw [take_ch hlt]; simp, ?_⟩
    intro i hi j hj
    rw [take_ch hlt]
    exact app_ch _ _ hi hj
  · have : l.take g = l := List.take_of_length_le (by omega)
    rw [this]
    exact ⟨rfl, fun _ _ _ _ => rfl⟩
set_option maxRecDepth 100000 in
theorem ok15 : FnIs Try.prog 15 ownC := by
  refine fnIs (C := (ctrs c0)) (by kernel_rfl) c0_ok Try.func15 (code := code15) (by kernel_rfl) (by kernel_rfl) ?_
  rintro a ⟨l, rfl, h⟩
  exact ⟨anns [(3, ownAnn l)], kcast (vc15 l h) (by kernel_rfl)⟩

theorem c4_ok : COk Try.prog (ctrs c4) := cok_cons ok67 cok_nil

noncomputable def code44 : Code := match Try.f44.body with | some c => c | none => .skip
set_option maxHeartbeats 4000000 in
theorem vc44 : ∀ (c : ChR), okCh c → True ∧ (∃ (n : Nat), [O.d (D.v (Value.int IntKind.i64 (↑c.v.length : Int)))] = [O.d (D.v (Value.int IntKind.i64 (↑n : Int)))] ∧ n ≤ (2199023255552 : Nat)) ∧
  True ∧ IntKind.i64.wrap (IntKind.i64.wrap ((4 : Int) + (↑c.v.length : Int)) + (↑(padN (vi (D.v (Value.int IntKind.i64 (↑c.v.length : Int)))).toNat) : Int)) = (↑(chB (ChR.mk (vi (D.v (Value.int IntKind.u8 c.t))) (vi (D.v (Value.int IntKind.u8 c.f))) (vl (D.ints IntKind.u8 c.v)))).length : Int) ∧
  (true && true) = true := by
  simp only [↓Bool.and_eq_true, true_and, and_true, Int.toNat_natCast, vi, vl, chB_len]
  intro c h
  have h' := h
  unfold okCh sm at h'
  have := padN_le c.v.length
  refine ⟨⟨_, rfl, by omega⟩, ?_⟩
  rw [wrap_i64_id (n := 4 + (c.v.length : Int)) (by omega) (by omega), wrap_i64_id (by omega) (by omega)]
  omega
set_option maxRecDepth 100000 in
theorem ok44 : FnIs Try.prog 44 sizeC := by
  refine fnIs (C := (ctrs c4)) (by kernel_rfl) c4_ok Try.func44 (code := code44) (by kernel_rfl) (by kernel_rfl) ?_
  rintro a ⟨c, rfl, h⟩
  exact ⟨anns [], kcast (vc44 c h) (by kernel_rfl)⟩

theorem c5_ok : COk Try.prog (ctrs c5) := cok_cons ok44 (cok_cons ok45 (cok_cons ok46 cok_nil))
theorem c6_ok : COk Try.prog (ctrs c6) := cok_cons ok47 (cok_cons ok48 cok_nil)

noncomputable def code14 : Code := match Try.f14.body with | some c => c | none => .skip
set_option maxHeartbeats 4000000 in
theorem vc14 : ∀ (l : List ChR), okChs l → True ∧ sw (decide ((32 : Int) < (↑l.length : Int))) ((putR (chsOf (D.recs (3 : Nat) l.length (chCell l)))).fst = [] ∧ (4 : Int) = (putR (chsOf (D.recs (3 : Nat) l.length (chCell l)))).snd ∧
  (true && true) = true) (∃ (g0 : Nat), (g0 ≤ l.length ∧ (putB (List.take g0 l)).length ≤ (4096 : Nat)) ∧ (0 : Int) = (↑g0 : Int) ∧ (0 : Int) = (↑(putB (List.take g0 l)).length : Int) ∧
  (true && true) = true ∧ ∀ (g : Nat), g ≤ l.length ∧ (putB (List.take g l)).length ≤ (4096 : Nat) → True ∧ sw (decide ((↑g : Int) < (↑l.length : Int))) (((0 : Int) ≤ (↑g : Int) ∧
  (↑g : Int) < (↑l.length : Int)) ∧ (∃ (c : ChR), [O.agg [O.d (D.v (Value.int IntKind.u8 (l.getD (↑g : Int).toNat noCh).t)), O.d (D.v (Value.int IntKind.u8 (l.getD (↑g : Int).toNat noCh).f)), O.d (D.ints IntKind.u8 (l.getD (↑g : Int).toNat noCh).v)]] = [O.agg [O.d (D.v (Value.int IntKind.u8 c.t)), O.d (D.v (Value.int IntKind.u8 c.f)), O.d (D.ints IntKind.u8 c.v)]] ∧
  okCh c) ∧ True ∧ True ∧ sw (decide ((4096 : Int) < IntKind.i64.wrap ((↑(putB (List.take g l)).length : Int) + (↑(chB (ChR.mk (vi (D.v (Value.int IntKind.u8 (l.getD (↑g : Int).toNat noCh).t))) (vi (D.v (Value.int IntKind.u8 (l.getD (↑g : Int).toNat noCh).f))) (vl (D.ints IntKind.u8 (l.getD (↑g : Int).toNat noCh).v)))).length : Int)))) ((putR (chsOf (D.recs (3 : Nat) l.length (chCell l)))).fst = [] ∧
  (4 : Int) = (putR (chsOf (D.recs (3 : Nat) l.length (chCell l)))).snd ∧ (true && true) = true) (True ∧ ∃ (g' : Nat), (g' ≤ l.length ∧ (putB (List.take g' l)).length ≤ (4096 : Nat)) ∧
  l.length - g' < l.length - g ∧ (IntKind.i64.wrap ((↑g : Int) + (1 : Int)) = (↑g' : Int) ∧ IntKind.i64.wrap ((↑(putB (List.take g l)).length : Int) + (↑(chB (ChR.mk (vi (D.v (Value.int IntKind.u8 (l.getD (↑g : Int).toNat noCh).t))) (vi (D.v (Value.int IntKind.u8 (l.getD (↑g : Int).toNat noCh).f))) (vl (D.ints IntKind.u8 (l.getD (↑g : Int).toNat noCh).v)))).length : Int)) = (↑(putB (List.take g' l)).length : Int) ∧
  (true && true && true) = true) ∧ (some (SV.c (Value.int IntKind.i64 (↑l.length : Int))) = some (SV.c (Value.int IntKind.i64 (↑l.length : Int))) ∧ some (SV.a (0 : Nat)) = some (SV.a (0 : Nat)) ∧
  some (SV.c (Value.bool (decide ((32 : Int) < (↑l.length : Int))))) = some (SV.c (Value.bool (decide ((32 : Int) < (↑l.length : Int))))) ∧ some (SV.c (Value.int IntKind.i64 (↑l.length : Int))) = some (SV.c (Value.int IntKind.i64 (↑l.length : Int))) ∧
  some (SV.a (0 : Nat)) = some (SV.a (0 : Nat)) ∧ some (SV.a (0 : Nat)) = some (SV.a (0 : Nat)) ∧ True) ∧ some (R.ro (D.recs (3 : Nat) l.length (chCell l))) = some (R.ro (D.recs (3 : Nat) l.length (chCell l))) ∧
  True)) (∃ (g0_1 : Nat), (g0_1 ≤ l.length ∧ (putB (List.take g0_1 l)).length ≤ (4096 : Nat)) ∧ (0 : Int) = (↑g0_1 : Int) ∧ putB (List.take g0_1 l) = [] ∧
  (true && true) = true ∧ ∀ (g_1 : Nat), g_1 ≤ l.length ∧ (putB (List.take g_1 l)).length ≤ (4096 : Nat) → True ∧ sw (decide ((↑g_1 : Int) < (↑l.length : Int))) (((0 : Int) ≤ (↑g_1 : Int) ∧
  (↑g_1 : Int) < (↑l.length : Int)) ∧ True ∧ ((True ∧ ((putB (List.take g_1 l)).length + (2 : Nat)) * Try.prog.types[(5 : Nat)].bytes ≤ (140737488355328 : Nat) ∧
  ((∃ (b : List Int), ∃ (n : Int), ∃ (k : Nat), [O.d (D.ints IntKind.u8 (putB (List.take g_1 l) ++ [(l.getD (↑g_1 : Int).toNat noCh).t, (l.getD (↑g_1 : Int).toNat noCh).f])), O.d (D.v (Value.int IntKind.u64 (IntKind.u64.wrap (IntKind.i64.wrap ((4 : Int) + (↑(l.getD (↑g_1 : Int).toNat noCh).v.length : Int)))))), O.d (D.v (Value.int IntKind.i64 (2 : Int)))] = [O.d (D.ints IntKind.u8 b), O.d (D.v (Value.int IntKind.u64 n)), O.d (D.v (Value.int IntKind.i64 (↑k : Int)))] ∧
  sm b.length ∧ (1 : Nat) ≤ k ∧ k ≤ (8 : Nat)) ∧ (∃ (l_1 : List Int), [O.d (D.ints IntKind.u8 (l.getD (↑g_1 : Int).toNat noCh).v)] = [O.d (D.ints IntKind.u8 l_1)] ∧
  sm l_1.length) ∧ True ∧ ((vl (D.ints IntKind.u8 (putB (List.take g_1 l) ++ [(l.getD (↑g_1 : Int).toNat noCh).t, (l.getD (↑g_1 : Int).toNat noCh).f])) ++ be (vi (D.v (Value.int IntKind.u64 (IntKind.u64.wrap (IntKind.i64.wrap ((4 : Int) + (↑(l.getD (↑g_1 : Int).toNat noCh).v.length : Int))))))) (vi (D.v (Value.int IntKind.i64 (2 : Int)))).toNat).length + (padF (vl (D.ints IntKind.u8 (l.getD (↑g_1 : Int).toNat noCh).v))).length) * Try.prog.types[(5 : Nat)].bytes ≤ (140737488355328 : Nat) ∧
  True ∧ ∃ (g' : Nat), (g' ≤ l.length ∧ (putB (List.take g' l)).length ≤ (4096 : Nat)) ∧ l.length - g' < l.length - g_1 ∧ (IntKind.i64.wrap ((↑g_1 : Int) + (1 : Int)) = (↑g' : Int) ∧
  vl (D.ints IntKind.u8 (putB (List.take g_1 l) ++ [(l.getD (↑g_1 : Int).toNat noCh).t, (l.getD (↑g_1 : Int).toNat noCh).f])) ++ be (vi (D.v (Value.int IntKind.u64 (IntKind.u64.wrap (IntKind.i64.wrap ((4 : Int) + (↑(l.getD (↑g_1 : Int).toNat noCh).v.length : Int))))))) (vi (D.v (Value.int IntKind.i64 (2 : Int)))).toNat ++ padF (vl (D.ints IntKind.u8 (l.getD (↑g_1 : Int).toNat noCh).v)) = putB (List.take g' l) ∧
  (!false && true && true && ((Nat.ble (1 : Nat) (8 : Nat) || false) && true)) = true) ∧ (some (SV.c (Value.int IntKind.i64 (↑l.length : Int))) = some (SV.c (Value.int IntKind.i64 (↑l.length : Int))) ∧
  some (SV.a (0 : Nat)) = some (SV.a (0 : Nat)) ∧ some (SV.c (Value.bool (decide ((↑g : Int) < (↑l.length : Int))))) = some (SV.c (Value.bool (decide ((↑g : Int) < (↑l.length : Int))))) ∧
  some (SV.c (Value.int IntKind.i64 (↑g : Int))) = some (SV.c (Value.int IntKind.i64 (↑g : Int))) ∧ some (SV.c (Value.int IntKind.i64 (↑(putB (List.take g l)).length : Int))) = some (SV.c (Value.int IntKind.i64 (↑(putB (List.take g l)).length : Int))) ∧
  some (SV.c (Value.int IntKind.i64 (↑l.length : Int))) = some (SV.c (Value.int IntKind.i64 (↑l.length : Int))) ∧ some (SV.a (0 : Nat)) = some (SV.a (0 : Nat)) ∧
  some (SV.c (Value.bool (decide ((32 : Int) < (↑l.length : Int))))) = some (SV.c (Value.bool (decide ((32 : Int) < (↑l.length : Int))))) ∧ some (SV.c (Value.int IntKind.i64 (↑l.length : Int))) = some (SV.c (Value.int IntKind.i64 (↑l.length : Int))) ∧
  some (SV.a (0 : Nat)) = some (SV.a (0 : Nat)) ∧ some (SV.a (0 : Nat)) = some (SV.a (0 : Nat)) ∧ True) ∧ some (R.ro (D.recs (3 : Nat) l.length (chCell l))) = some (R.ro (D.recs (3 : Nat) l.length (chCell l))) ∧
  True) ∧ True) ∧ True) ∧ True) (putB (List.take g_1 l) = (putR (chsOf (D.recs (3 : Nat) l.length (chCell l)))).fst ∧ (0 : Int) = (putR (chsOf (D.recs (3 : Nat) l.length (chCell l)))).snd ∧
  (!false && true && true) = true))) := by
  simp only [↓sw_iff, ↓Bool.and_eq_true, ↓decide_eq_true_eq, ↓decide_eq_false_iff_not, ↓Bool.not_eq_true', true_and, and_true, Bool.or_false, Nat.ble, Int.toNat_natCast, vi, vl, Nat.zero_add, List.length_cons, List.length_nil, List.length_append, Nat.mul_one, bytes5, chsOf_chs, chB_eta, be_len, toNat2]
  intro l h
  obtain ⟨h1, h2⟩ := h
  refine ⟨fun t => by rw [put_err1 (by omega)]; exact ⟨rfl, rfl⟩, fun t => ⟨0, ⟨Nat.zero_le _, by simp [putB]⟩, rfl, rfl, ?_⟩⟩
  rintro g ⟨hg, hb⟩
  refine ⟨fun hlt => ?_, fun hge => ⟨0, ⟨Nat.zero_le _, by simp [putB]⟩, rfl, rfl, ?_⟩⟩
  · have hlt : g < l.length := by omega
    have hs := h2 _ (getD_mem (d := noCh) hlt)
    have hst := congrArg List.length (putB_take hlt)
    rw [List.length_append] at hst
    have hcl := chB_len (l.getD g noCh)
    have hp := padN_le (l.getD g noCh).v.length
    have hs' := hs
    unfold sm at hs'
    have e : IntKind.i64.wrap (((putB (l.take g)).length : Int) + ((chB (l.getD g noCh)).length : Int)) = ((putB (l.take (g + 1))).length : Int) := by
      rw [wrap_i64_id (by omega) (by omega)]; omega
    rw [e]
    refine ⟨⟨by omega, by omega⟩, ⟨l.getD g noCh, rfl, hs⟩, fun hx => ?_, fun hx => ⟨g + 1, ⟨hlt, by omega⟩, by omega, by rw [wrap_i64_id (by omega) (by omega)]; rfl, rfl⟩⟩
    rw [put_err2 (i := g + 1) (by omega)]; exact ⟨rfl, rfl⟩
  have hall : (putB l).length ≤ 4096 := by
    rwa [List.take_of_length_le (by omega)] at hb
  rintro k ⟨hk, hb2⟩
  refine ⟨fun hlt => ?_, fun hge => ?_⟩
  · have hlt : k < l.length := by omega
    have hs := h2 _ (getD_mem (d := noCh) hlt)
    have hst := congrArg List.length (putB_take hlt)
    rw [List.length_append, chB_len] at hst
    have hm := putB_mono l (k + 1)
    have hs' := hs
    unfold sm at hs'
    rw [wrap_len hs', padF_len]
    refine ⟨⟨by omega, by omega⟩, by omega, ⟨_, _, 2, rfl, ?_, by omega, by omega⟩, ⟨_, rfl, hs⟩, by omega, k + 1, ⟨hlt, by omega⟩, by omega, by rw [wrap_i64_id (by omega) (by omega)]; rfl, putB_step hlt⟩
    unfold sm; simp; omega
  · have : l.take k = l := List.take_of_length_le (by omega)
    rw [this, put_ok (by omega) hall]
    exact ⟨rfl, rfl⟩
set_option maxRecDepth 100000 in
theorem ok14 : FnIs Try.prog 14 putsC := by
  refine fnIs (C := (ctrs c5)) (by kernel_rfl) c5_ok Try.func14 (code := code14) (by kernel_rfl) (by kernel_rfl) ?_
  rintro a ⟨l, rfl, h⟩
  exact ⟨anns [(5, sizeAnn l), (13, outAnn 28 7 l)], kcast (vc14 l h) (by kernel_rfl)⟩

noncomputable def code16 : Code := match Try.f16.body with | some c => c | none => .skip
set_option maxHeartbeats 4000000 in
theorem vc16 : ∀ (l : List ChR), okChs l → True ∧ sw (decide ((32 : Int) < (↑l.length : Int))) ((putR (chsOf (D.recs (3 : Nat) l.length (chCell l)))).fst = [] ∧ (4 : Int) = (putR (chsOf (D.recs (3 : Nat) l.length (chCell l)))).snd ∧
  (true && true) = true) (∃ (g0 : Nat), (g0 ≤ l.length ∧ (putB (List.take g0 l)).length ≤ (4096 : Nat)) ∧ (0 : Int) = (↑g0 : Int) ∧ putB (List.take g0 l) = [] ∧
  (true && true) = true ∧ ∀ (g : Nat), g ≤ l.length ∧ (putB (List.take g l)).length ≤ (4096 : Nat) → True ∧ sw (decide ((↑g : Int) < (↑l.length : Int))) (((0 : Int) ≤ (↑g : Int) ∧
  (↑g : Int) < (↑l.length : Int)) ∧ True ∧ sw (decide ((4096 : Int) < (↑(l.getD (↑g : Int).toNat noCh).v.length : Int))) ((putR (chsOf (D.recs (3 : Nat) l.length (chCell l)))).fst = [] ∧
  (4 : Int) = (putR (chsOf (D.recs (3 : Nat) l.length (chCell l)))).snd ∧ (true && true) = true) (True ∧ ((putB (List.take g l)).length + (2 : Nat)) * Try.prog.types[(5 : Nat)].bytes ≤ (140737488355328 : Nat) ∧
  True ∧ (∃ (b : List Int), ∃ (n : Int), ∃ (k : Nat), [O.d (D.ints IntKind.u8 (putB (List.take g l) ++ [(l.getD (↑g : Int).toNat noCh).t, (l.getD (↑g : Int).toNat noCh).f])), O.d (D.v (Value.int IntKind.u64 (IntKind.u64.wrap (IntKind.i64.wrap ((4 : Int) + (↑(l.getD (↑g : Int).toNat noCh).v.length : Int)))))), O.d (D.v (Value.int IntKind.i64 (2 : Int)))] = [O.d (D.ints IntKind.u8 b), O.d (D.v (Value.int IntKind.u64 n)), O.d (D.v (Value.int IntKind.i64 (↑k : Int)))] ∧
  sm b.length ∧ (1 : Nat) ≤ k ∧ k ≤ (8 : Nat)) ∧ (∃ (l_1 : List Int), [O.d (D.ints IntKind.u8 (l.getD (↑g : Int).toNat noCh).v)] = [O.d (D.ints IntKind.u8 l_1)] ∧
  sm l_1.length) ∧ True ∧ ((vl (D.ints IntKind.u8 (putB (List.take g l) ++ [(l.getD (↑g : Int).toNat noCh).t, (l.getD (↑g : Int).toNat noCh).f])) ++ be (vi (D.v (Value.int IntKind.u64 (IntKind.u64.wrap (IntKind.i64.wrap ((4 : Int) + (↑(l.getD (↑g : Int).toNat noCh).v.length : Int))))))) (vi (D.v (Value.int IntKind.i64 (2 : Int)))).toNat).length + (padF (vl (D.ints IntKind.u8 (l.getD (↑g : Int).toNat noCh).v))).length) * Try.prog.types[(5 : Nat)].bytes ≤ (140737488355328 : Nat) ∧
  True ∧ sw (decide ((4096 : Int) < (↑(vl (D.ints IntKind.u8 (putB (List.take g l) ++ [(l.getD (↑g : Int).toNat noCh).t, (l.getD (↑g : Int).toNat noCh).f])) ++ be (vi (D.v (Value.int IntKind.u64 (IntKind.u64.wrap (IntKind.i64.wrap ((4 : Int) + (↑(l.getD (↑g : Int).toNat noCh).v.length : Int))))))) (vi (D.v (Value.int IntKind.i64 (2 : Int)))).toNat ++ padF (vl (D.ints IntKind.u8 (l.getD (↑g : Int).toNat noCh).v))).length : Int))) ((putR (chsOf (D.recs (3 : Nat) l.length (chCell l)))).fst = [] ∧
  (4 : Int) = (putR (chsOf (D.recs (3 : Nat) l.length (chCell l)))).snd ∧ (true && true) = true) (True ∧ ∃ (g' : Nat), (g' ≤ l.length ∧ (putB (List.take g' l)).length ≤ (4096 : Nat)) ∧
  l.length - g' < l.length - g ∧ (IntKind.i64.wrap ((↑g : Int) + (1 : Int)) = (↑g' : Int) ∧ vl (D.ints IntKind.u8 (putB (List.take g l) ++ [(l.getD (↑g : Int).toNat noCh).t, (l.getD (↑g : Int).toNat noCh).f])) ++ be (vi (D.v (Value.int IntKind.u64 (IntKind.u64.wrap (IntKind.i64.wrap ((4 : Int) + (↑(l.getD (↑g : Int).toNat noCh).v.length : Int))))))) (vi (D.v (Value.int IntKind.i64 (2 : Int)))).toNat ++ padF (vl (D.ints IntKind.u8 (l.getD (↑g : Int).toNat noCh).v)) = putB (List.take g' l) ∧
  (!false && true && true && ((Nat.ble (1 : Nat) (8 : Nat) || false) && true)) = true) ∧ (some (SV.c (Value.bool (decide ((32 : Int) < (↑l.length : Int))))) = some (SV.c (Value.bool (decide ((32 : Int) < (↑l.length : Int))))) ∧
  some (SV.c (Value.int IntKind.i64 (↑l.length : Int))) = some (SV.c (Value.int IntKind.i64 (↑l.length : Int))) ∧ some (SV.a (0 : Nat)) = some (SV.a (0 : Nat)) ∧
  some (SV.a (0 : Nat)) = some (SV.a (0 : Nat)) ∧ True) ∧ some (R.ro (D.recs (3 : Nat) l.length (chCell l))) = some (R.ro (D.recs (3 : Nat) l.length (chCell l))) ∧
  True))) (putB (List.take g l) = (putR (chsOf (D.recs (3 : Nat) l.length (chCell l)))).fst ∧ (0 : Int) = (putR (chsOf (D.recs (3 : Nat) l.length (chCell l)))).snd ∧
  (!false && true && true) = true)) := by
  simp only [↓sw_iff, ↓Bool.and_eq_true, ↓decide_eq_true_eq, ↓decide_eq_false_iff_not, ↓Bool.not_eq_true', true_and, and_true, Bool.or_false, Nat.ble, Int.toNat_natCast, vi, vl, Nat.zero_add, List.length_cons, List.length_nil, List.length_append, Nat.mul_one, bytes5, chsOf_chs, be_len, toNat2, padF_len]
  intro l h
  obtain ⟨h1, h2⟩ := h
  refine ⟨fun t => by rw [put_err1 (by omega)]; exact ⟨rfl, rfl⟩, fun t => ⟨0, ⟨Nat.zero_le _, by simp [putB]⟩, rfl, rfl, ?_⟩⟩
  rintro g ⟨hg, hb⟩
  refine ⟨fun hlt => ?_, fun hge => ?_⟩
  · have hlt : g < l.length := by omega
    have hs := h2 _ (getD_mem (d := noCh) hlt)
    have hst := congrArg List.length (putB_take hlt)
    rw [List.length_append, chB_len] at hst
    have hp := padN_le (l.getD g noCh).v.length
    have hs' := hs
    unfold sm at hs'
    rw [wrap_len hs']
    have err : 4096 < (putB (l.take (g + 1))).length → (putR l).1 = [] ∧ 4 = (putR l).2 := fun hx => by
      rw [put_err2 (i := g + 1) hx]; exact ⟨rfl, rfl⟩
    refine ⟨⟨by omega, by omega⟩, fun hx => err (by omega), fun hx => ⟨by omega, ⟨_, _, 2, rfl, ?_, by omega, by omega⟩, ⟨_, rfl, hs⟩, by omega, fun hx => err (by omega), fun hx => ⟨g + 1, ⟨hlt, by omega⟩, by omega, by rw [wrap_i64_id (by omega) (by omega)]; rfl, putB_step hlt⟩⟩⟩
    unfold sm; simp; omega
  · have e : l.take g = l := List.take_of_length_le (by omega)
    rw [e] at hb ⊢
    rw [put_ok (by omega) hb]
    exact ⟨rfl, rfl⟩
set_option maxRecDepth 100000 in
theorem ok16 : FnIs Try.prog 16 putsC := by
  refine fnIs (C := (ctrs c6)) (by kernel_rfl) c6_ok Try.func16 (code := code16) (by kernel_rfl) (by kernel_rfl) ?_
  rintro a ⟨l, rfl, h⟩
  exact ⟨anns [(5, outAnn 5 4 l)], kcast (vc16 l h) (by kernel_rfl)⟩

noncomputable def code17 : Code := match Try.f17.body with | some c => c | none => .skip
set_option maxHeartbeats 4000000 in
theorem vc17 : True ∧ True ∧ ((0 : Int) ≤ (0 : Int) ∧ (0 : Int) < (↑(1 : Nat) : Int)) ∧ True ∧ (True ∧ True ∧ True ∧ True ∧ True ∧ True ∧ True ∧ True ∧ ((0 : Int) ≤ (0 : Int) ∧
  (0 : Int) < (↑(1 : Nat) : Int)) ∧ True ∧ ((True ∧ (2 : Nat) ≤ (140737488355328 : Nat) ∧ (∀ (t : Bool), (t = true → (2 : Nat) = (0 : Nat)) → sw t (True ∧
  SV.c (Value.int IntKind.i64 (2 : Int)) = SV.c (Value.int IntKind.i64 (2 : Int)) ∧ ([!decide ((2 : Int) < (1 : Int))] = [!decide ((2 : Int) < (1 : Int))] ∧
  True ∧ SV.c (Value.bool (decide ((8 : Int) < (2 : Int)))) = SV.c (Value.bool (decide ((8 : Int) < (2 : Int))))) ∧ [!decide ((2 : Int) < (1 : Int))] = [!decide ((2 : Int) < (1 : Int))] ∧
  True ∧ True ∧ True ∧ True ∧ (0 : Int) ≤ IntKind.i64.wrap ((8 : Int) * IntKind.i64.wrap (IntKind.i64.wrap ((2 : Int) - (1 : Int)) - (0 : Int))) ∧ True ∧
  (1 : Nat) ≤ (140737488355328 : Nat) ∧ True ∧ True ∧ True ∧ True ∧ True ∧ (0 : Int) ≤ IntKind.i64.wrap ((8 : Int) * IntKind.i64.wrap (IntKind.i64.wrap ((2 : Int) - (1 : Int)) - IntKind.i64.wrap ((0 : Int) + (1 : Int)))) ∧
  True ∧ (2 : Nat) ≤ (140737488355328 : Nat) ∧ True ∧ True ∧ ∀ (t_1 : Bool), (t_1 = true → (0 : Nat) = (0 : Nat)) → sw t_1 (True ∧ True ∧ ((0 : Int) ≤ bits BinOp.and IntKind.i64 (IntKind.i64.wrap ((0 : Int) - (↑(0 : Nat) : Int))) (3 : Int) ∧
  bits BinOp.and IntKind.i64 (IntKind.i64.wrap ((0 : Int) - (↑(0 : Nat) : Int))) (3 : Int) ≤ (9223372036854775807 : Int) ∧ (0 : Nat) ≤ (281474976710656 : Nat) ∧
  IntKind.u8 = IntKind.u8) ∧ (0 : Nat) ≤ (140737488355328 : Nat) ∧ True ∧ (2 : Nat) ≤ (140737488355328 : Nat) ∧ True ∧ True ∧ True ∧ True ∧ decide ((bstr [IntKind.u8.wrap ((IntKind.u64.wrap (IntKind.i64.wrap ((4 : Int) + (↑(0 : Nat) : Int)))).fdiv ((2 : Int) ^ min (IntKind.i64.wrap ((8 : Int) * IntKind.i64.wrap (IntKind.i64.wrap ((2 : Int) - (1 : Int)) - (0 : Int)))).toNat IntKind.u64.bits)), IntKind.u8.wrap ((IntKind.u64.wrap (IntKind.i64.wrap ((4 : Int) + (↑(0 : Nat) : Int)))).fdiv ((2 : Int) ^ min (IntKind.i64.wrap ((8 : Int) * IntKind.i64.wrap (IntKind.i64.wrap ((2 : Int) - (1 : Int)) - IntKind.i64.wrap ((0 : Int) + (1 : Int))))).toNat IntKind.u64.bits))]).data.toList = (ByteArray.mk #[(11 : UInt8), (0 : UInt8), (0 : UInt8), (4 : UInt8)]).data.toList) = true ∧
  (true && true) = true) (True ∧ (0 : Nat) ≤ (140737488355328 : Nat) ∧ True ∧ True ∧ ((0 : Int) ≤ bits BinOp.and IntKind.i64 (IntKind.i64.wrap ((0 : Int) - (↑(0 : Nat) : Int))) (3 : Int) ∧
  bits BinOp.and IntKind.i64 (IntKind.i64.wrap ((0 : Int) - (↑(0 : Nat) : Int))) (3 : Int) ≤ (9223372036854775807 : Int) ∧ (0 : Nat) ≤ (281474976710656 : Nat) ∧
  IntKind.u8 = IntKind.u8) ∧ (0 : Nat) ≤ (140737488355328 : Nat) ∧ True ∧ (2 : Nat) ≤ (140737488355328 : Nat) ∧ True ∧ True ∧ True ∧ True ∧ decide ((bstr [IntKind.u8.wrap ((IntKind.u64.wrap (IntKind.i64.wrap ((4 : Int) + (↑(0 : Nat) : Int)))).fdiv ((2 : Int) ^ min (IntKind.i64.wrap ((8 : Int) * IntKind.i64.wrap (IntKind.i64.wrap ((2 : Int) - (1 : Int)) - (0 : Int)))).toNat IntKind.u64.bits)), IntKind.u8.wrap ((IntKind.u64.wrap (IntKind.i64.wrap ((4 : Int) + (↑(0 : Nat) : Int)))).fdiv ((2 : Int) ^ min (IntKind.i64.wrap ((8 : Int) * IntKind.i64.wrap (IntKind.i64.wrap ((2 : Int) - (1 : Int)) - IntKind.i64.wrap ((0 : Int) + (1 : Int))))).toNat IntKind.u64.bits))]).data.toList = (ByteArray.mk #[(11 : UInt8), (0 : UInt8), (0 : UInt8), (4 : UInt8)]).data.toList) = true ∧
  (true && true) = true)) (True ∧ (2 : Nat) ≤ (140737488355328 : Nat) ∧ True ∧ SV.c (Value.int IntKind.i64 (2 : Int)) = SV.c (Value.int IntKind.i64 (2 : Int)) ∧
  ([!decide ((2 : Int) < (1 : Int))] = [!decide ((2 : Int) < (1 : Int))] ∧ True ∧ SV.c (Value.bool (decide ((8 : Int) < (2 : Int)))) = SV.c (Value.bool (decide ((8 : Int) < (2 : Int))))) ∧
  [!decide ((2 : Int) < (1 : Int))] = [!decide ((2 : Int) < (1 : Int))] ∧ True ∧ True ∧ True ∧ True ∧ (0 : Int) ≤ IntKind.i64.wrap ((8 : Int) * IntKind.i64.wrap (IntKind.i64.wrap ((2 : Int) - (1 : Int)) - (0 : Int))) ∧
  True ∧ (3 : Nat) ≤ (140737488355328 : Nat) ∧ True ∧ True ∧ True ∧ True ∧ True ∧ (0 : Int) ≤ IntKind.i64.wrap ((8 : Int) * IntKind.i64.wrap (IntKind.i64.wrap ((2 : Int) - (1 : Int)) - IntKind.i64.wrap ((0 : Int) + (1 : Int)))) ∧
  True ∧ (4 : Nat) ≤ (140737488355328 : Nat) ∧ True ∧ True ∧ ∀ (t_1 : Bool), (t_1 = true → (0 : Nat) = (0 : Nat)) → sw t_1 (True ∧ True ∧ ((0 : Int) ≤ bits BinOp.and IntKind.i64 (IntKind.i64.wrap ((0 : Int) - (↑(0 : Nat) : Int))) (3 : Int) ∧
  bits BinOp.and IntKind.i64 (IntKind.i64.wrap ((0 : Int) - (↑(0 : Nat) : Int))) (3 : Int) ≤ (9223372036854775807 : Int) ∧ (0 : Nat) ≤ (281474976710656 : Nat) ∧
  IntKind.u8 = IntKind.u8) ∧ (0 : Nat) ≤ (140737488355328 : Nat) ∧ True ∧ (4 : Nat) ≤ (140737488355328 : Nat) ∧ True ∧ True ∧ True ∧ True ∧ decide ((bstr [(11 : Int), (0 : Int), IntKind.u8.wrap ((IntKind.u64.wrap (IntKind.i64.wrap ((4 : Int) + (↑(0 : Nat) : Int)))).fdiv ((2 : Int) ^ min (IntKind.i64.wrap ((8 : Int) * IntKind.i64.wrap (IntKind.i64.wrap ((2 : Int) - (1 : Int)) - (0 : Int)))).toNat IntKind.u64.bits)), IntKind.u8.wrap ((IntKind.u64.wrap (IntKind.i64.wrap ((4 : Int) + (↑(0 : Nat) : Int)))).fdiv ((2 : Int) ^ min (IntKind.i64.wrap ((8 : Int) * IntKind.i64.wrap (IntKind.i64.wrap ((2 : Int) - (1 : Int)) - IntKind.i64.wrap ((0 : Int) + (1 : Int))))).toNat IntKind.u64.bits))]).data.toList = (ByteArray.mk #[(11 : UInt8), (0 : UInt8), (0 : UInt8), (4 : UInt8)]).data.toList) = true ∧
  (true && true) = true) (True ∧ (0 : Nat) ≤ (140737488355328 : Nat) ∧ True ∧ True ∧ ((0 : Int) ≤ bits BinOp.and IntKind.i64 (IntKind.i64.wrap ((0 : Int) - (↑(0 : Nat) : Int))) (3 : Int) ∧
  bits BinOp.and IntKind.i64 (IntKind.i64.wrap ((0 : Int) - (↑(0 : Nat) : Int))) (3 : Int) ≤ (9223372036854775807 : Int) ∧ (0 : Nat) ≤ (281474976710656 : Nat) ∧
  IntKind.u8 = IntKind.u8) ∧ (0 : Nat) ≤ (140737488355328 : Nat) ∧ True ∧ (4 : Nat) ≤ (140737488355328 : Nat) ∧ True ∧ True ∧ True ∧ True ∧ decide ((bstr [(11 : Int), (0 : Int), IntKind.u8.wrap ((IntKind.u64.wrap (IntKind.i64.wrap ((4 : Int) + (↑(0 : Nat) : Int)))).fdiv ((2 : Int) ^ min (IntKind.i64.wrap ((8 : Int) * IntKind.i64.wrap (IntKind.i64.wrap ((2 : Int) - (1 : Int)) - (0 : Int)))).toNat IntKind.u64.bits)), IntKind.u8.wrap ((IntKind.u64.wrap (IntKind.i64.wrap ((4 : Int) + (↑(0 : Nat) : Int)))).fdiv ((2 : Int) ^ min (IntKind.i64.wrap ((8 : Int) * IntKind.i64.wrap (IntKind.i64.wrap ((2 : Int) - (1 : Int)) - IntKind.i64.wrap ((0 : Int) + (1 : Int))))).toNat IntKind.u64.bits))]).data.toList = (ByteArray.mk #[(11 : UInt8), (0 : UInt8), (0 : UInt8), (4 : UInt8)]).data.toList) = true ∧
  (true && true) = true))) ∧ True) ∧ True) ∧ True) ∧ True := by
  simp only [Bool.forall_bool, sw_true, sw_false, true_and, and_true, implies_true, forall_const, false_implies, reduceCtorEq, Bool.false_eq_true]
  repeat' first | refine And.intro ?_ ?_ | decide +kernel
set_option maxRecDepth 100000 in
theorem ok17 : FnIs Try.prog 17 ansC := by
  refine fnIs (C := (ctrsJ Try.prog c0 i17 6)) (by kernel_rfl) (cokJ (by kernel_rfl) c0_ok i17_ok) Try.func17 (code := code17) (by kernel_rfl) (by kernel_rfl) ?_
  rintro a rfl
  exact ⟨anns [] [2], kcast (vc17) (by kernel_rfl)⟩

noncomputable def code68 : Code := match Try.f68.body with | some c => c | none => .skip
set_option maxHeartbeats 4000000 in
theorem vc68 : ∀ (l : List Int), sm l.length → ∃ (p : List Int), ∃ (g0 : Nat), (g0 ≤ p.length ∧ ∀ (j : Nat), j < g0 → ¬(0 : Int) < p.getD j (0 : Int)) ∧ (0 : Int) = (↑g0 : Int) ∧
  (true && true) = true ∧ ∀ (g : Nat), (g ≤ p.length ∧ ∀ (j : Nat), j < g → ¬(0 : Int) < p.getD j (0 : Int)) → True ∧ sw (decide ((↑g : Int) < (↑l.length : Int))) (((0 : Int) ≤ (↑g : Int) ∧
  (↑g : Int) < (↑l.length : Int)) ∧ True ∧ sw (decide ((0 : Int) < l.getD (↑g : Int).toNat (0 : Int))) (True ∧ decide ((0 : Int) ≤ (↑g : Int)) = someNZ (vl (D.ints IntKind.u8 l)) ∧
  (true && true) = true) (True ∧ ∃ (g' : Nat), (g' ≤ p.length ∧ ∀ (j : Nat), j < g' → ¬(0 : Int) < p.getD j (0 : Int)) ∧ p.length - g' < p.length - g ∧ (IntKind.i64.wrap ((↑g : Int) + (1 : Int)) = (↑g' : Int) ∧
  (true && true && true) = true) ∧ (some (SV.c (Value.int IntKind.i64 (↑l.length : Int))) = some (SV.c (Value.int IntKind.i64 (↑l.length : Int))) ∧ some (SV.a (0 : Nat)) = some (SV.a (0 : Nat)) ∧
  some (SV.a (0 : Nat)) = some (SV.a (0 : Nat)) ∧ some (SV.f (69 : Nat) (0 : Nat) []) = some (SV.f (69 : Nat) (0 : Nat) []) ∧ True) ∧ some (R.ro (D.ints IntKind.u8 l)) = some (R.ro (D.ints IntKind.u8 l)) ∧
  True)) (True ∧ decide ((0 : Int) ≤ (-1 : Int)) = someNZ (vl (D.ints IntKind.u8 l)) ∧ (true && true) = true) := by
  simp only [↓sw_iff, ↓Bool.and_eq_true, ↓decide_eq_true_eq, ↓decide_eq_false_iff_not, true_and, and_true, Int.toNat_natCast, vl]
  intro l h
  refine ⟨l, 0, ⟨Nat.zero_le _, fun j hj => absurd hj (Nat.not_lt_zero _)⟩, rfl, ?_⟩
  rintro g ⟨h1, h2⟩
  unfold sm at h
  refine ⟨fun t => ⟨⟨by omega, t⟩, fun hx => ?_, fun hx => ⟨g + 1, ⟨by omega, fun j hj => ?_⟩, by omega, by rw [wrap_i64_id (by omega) (by omega)]; rfl⟩⟩, fun t => ?_⟩
  · have : someNZ l = true := by
      rw [someNZ, List.any_eq_true]
      exact ⟨_, getD_mem (d := (0 : Int)) (by omega : g < l.length), by simpa using hx⟩
    rw [this]; simp
  · by_cases e : j = g
    · subst e; exact hx
    · exact h2 j (by omega)
  · have : someNZ l = false := by
      rw [someNZ, List.any_eq_false]
      intro x hx
      obtain ⟨j, hj, rfl⟩ := List.mem_iff_getElem.1 hx
      have := h2 j (by omega)
      simpa [List.getD, List.getElem?_eq_getElem hj] using this
    rw [this]; rfl
set_option maxRecDepth 100000 in
theorem ok68 : FnIs Try.prog 68 nzC := by
  refine fnIs (C := (ctrsJ Try.prog c0 i68 2)) (by kernel_rfl) (cokJ (by kernel_rfl) c0_ok i68_ok) Try.func68 (code := code68) (by kernel_rfl) (by kernel_rfl) ?_
  rintro a ⟨l, rfl, h⟩
  exact ⟨anns [], kcast (vc68 l h) (by kernel_rfl)⟩

theorem c7_ok : COk Try.prog (ctrs c7) := cok_cons ok65 (cok_cons ok67 (cok_cons ok57 (cok_cons ok68 (cok_cons ok54 cok_nil))))

noncomputable def code49 : Code := match Try.f49.body with | some c => c | none => .skip
set_option maxHeartbeats 4000000 in
theorem vc49 : ∀ (b : List Int), let y := partF (vl (D.ints IntKind.u8 b)) (vi (D.v (Value.int IntKind.i64 (2 : Int)))) (↑(vi (D.v (Value.int IntKind.i64 (2 : Int)))).toNat : Int);
  sm b.length → okB b → True ∧ sw (decide ((↑b.length : Int) < (4 : Int))) ((0 : Int) = (firstF (vl (D.ints IntKind.u8 b))).fst.t ∧ (0 : Int) = (firstF (vl (D.ints IntKind.u8 b))).fst.f ∧
  (firstF (vl (D.ints IntKind.u8 b))).fst.v = [] ∧ (0 : Int) = (↑(firstF (vl (D.ints IntKind.u8 b))).snd.fst : Int) ∧ (3 : Int) = (firstF (vl (D.ints IntKind.u8 b))).snd.snd ∧
  (true && true) = true) ((∃ (b_1 : List Int), ∃ (i : Int), ∃ (k : Nat), [O.d (D.ints IntKind.u8 b), O.d (D.v (Value.int IntKind.i64 (2 : Int))), O.d (D.v (Value.int IntKind.i64 (2 : Int)))] = [O.d (D.ints IntKind.u8 b_1), O.d (D.v (Value.int IntKind.i64 i)), O.d (D.v (Value.int IntKind.i64 (↑k : Int)))] ∧
  sm b_1.length ∧ okB b_1 ∧ okI i ∧ (1 : Nat) ≤ k ∧ k ≤ (8 : Nat)) ∧ True ∧ sw (decide (IntKind.i64.wrap (valF y.fst, y.snd).fst < (4 : Int))) ((0 : Int) = (firstF (vl (D.ints IntKind.u8 b))).fst.t ∧
  (0 : Int) = (firstF (vl (D.ints IntKind.u8 b))).fst.f ∧ (firstF (vl (D.ints IntKind.u8 b))).fst.v = [] ∧ (0 : Int) = (↑(firstF (vl (D.ints IntKind.u8 b))).snd.fst : Int) ∧
  (2 : Int) = (firstF (vl (D.ints IntKind.u8 b))).snd.snd ∧ (true && true) = true) ((∃ (n : Nat), [O.d (D.v (Value.int IntKind.i64 (IntKind.i64.wrap (valF y.fst, y.snd).fst)))] = [O.d (D.v (Value.int IntKind.i64 (↑n : Int)))] ∧
  n ≤ (2199023255552 : Nat)) ∧ True ∧ True ∧ (∃ (b_1 : List Int), ∃ (i : Int), ∃ (n : Int), [O.d (D.ints IntKind.u8 b), O.d (D.v (Value.int IntKind.i64 (IntKind.i64.wrap (valF y.fst, y.snd).fst))), O.d (D.v (Value.int IntKind.i64 (IntKind.i64.wrap (IntKind.i64.wrap (IntKind.i64.wrap (valF y.fst, y.snd).fst + (↑(padN (vi (D.v (Value.int IntKind.i64 (IntKind.i64.wrap (valF y.fst, y.snd).fst)))).toNat) : Int)) - IntKind.i64.wrap (valF y.fst, y.snd).fst))))] = [O.d (D.ints IntKind.u8 b_1), O.d (D.v (Value.int IntKind.i64 i)), O.d (D.v (Value.int IntKind.i64 n))] ∧
  sm b_1.length ∧ okI i ∧ okI n) ∧ True ∧ sw (!decide ((partF (vl (D.ints IntKind.u8 b)) (vi (D.v (Value.int IntKind.i64 (IntKind.i64.wrap (valF y.fst, y.snd).fst)))) (vi (D.v (Value.int IntKind.i64 (IntKind.i64.wrap (IntKind.i64.wrap (IntKind.i64.wrap (valF y.fst, y.snd).fst + (↑(padN (vi (D.v (Value.int IntKind.i64 (IntKind.i64.wrap (valF y.fst, y.snd).fst)))).toNat) : Int)) - IntKind.i64.wrap (valF y.fst, y.snd).fst)))))).snd = (0 : Int))) ((0 : Int) = (firstF (vl (D.ints IntKind.u8 b))).fst.t ∧
  (0 : Int) = (firstF (vl (D.ints IntKind.u8 b))).fst.f ∧ (firstF (vl (D.ints IntKind.u8 b))).fst.v = [] ∧ (0 : Int) = (↑(firstF (vl (D.ints IntKind.u8 b))).snd.fst : Int) ∧
  (partF (vl (D.ints IntKind.u8 b)) (vi (D.v (Value.int IntKind.i64 (IntKind.i64.wrap (valF y.fst, y.snd).fst)))) (vi (D.v (Value.int IntKind.i64 (IntKind.i64.wrap (IntKind.i64.wrap (IntKind.i64.wrap (valF y.fst, y.snd).fst + (↑(padN (vi (D.v (Value.int IntKind.i64 (IntKind.i64.wrap (valF y.fst, y.snd).fst)))).toNat) : Int)) - IntKind.i64.wrap (valF y.fst, y.snd).fst)))))).snd = (firstF (vl (D.ints IntKind.u8 b))).snd.snd ∧
  (true && true) = true) ((∃ (l : List Int), [O.d (D.ints IntKind.u8 (partF (vl (D.ints IntKind.u8 b)) (vi (D.v (Value.int IntKind.i64 (IntKind.i64.wrap (valF y.fst, y.snd).fst)))) (vi (D.v (Value.int IntKind.i64 (IntKind.i64.wrap (IntKind.i64.wrap (IntKind.i64.wrap (valF y.fst, y.snd).fst + (↑(padN (vi (D.v (Value.int IntKind.i64 (IntKind.i64.wrap (valF y.fst, y.snd).fst)))).toNat) : Int)) - IntKind.i64.wrap (valF y.fst, y.snd).fst)))))).fst), O.d (D.fn (69 : Nat) (0 : Nat) (0 : Nat) fun (i : Nat) => [].getD i (D.v undef))] = [O.d (D.ints IntKind.u8 l), O.d (D.fn (69 : Nat) (0 : Nat) (0 : Nat) fun (i : Nat) => [].getD i (D.v undef))] ∧
  sm l.length) ∧ sw (someNZ (vl (D.ints IntKind.u8 (partF (vl (D.ints IntKind.u8 b)) (vi (D.v (Value.int IntKind.i64 (IntKind.i64.wrap (valF y.fst, y.snd).fst)))) (vi (D.v (Value.int IntKind.i64 (IntKind.i64.wrap (IntKind.i64.wrap (IntKind.i64.wrap (valF y.fst, y.snd).fst + (↑(padN (vi (D.v (Value.int IntKind.i64 (IntKind.i64.wrap (valF y.fst, y.snd).fst)))).toNat) : Int)) - IntKind.i64.wrap (valF y.fst, y.snd).fst)))))).fst))) ((0 : Int) = (firstF (vl (D.ints IntKind.u8 b))).fst.t ∧
  (0 : Int) = (firstF (vl (D.ints IntKind.u8 b))).fst.f ∧ (firstF (vl (D.ints IntKind.u8 b))).fst.v = [] ∧ (0 : Int) = (↑(firstF (vl (D.ints IntKind.u8 b))).snd.fst : Int) ∧
  (2 : Int) = (firstF (vl (D.ints IntKind.u8 b))).snd.snd ∧ (true && true) = true) (((0 : Int) ≤ (0 : Int) ∧ (0 : Int) < (↑b.length : Int)) ∧ ((0 : Int) ≤ (1 : Int) ∧
  (1 : Int) < (↑b.length : Int)) ∧ ((0 : Int) ≤ (4 : Int) ∧ (4 : Int) ≤ IntKind.i64.wrap (valF y.fst, y.snd).fst ∧ IntKind.i64.wrap (valF y.fst, y.snd).fst ≤ (↑b.length : Int)) ∧
  ((∃ (l : List Int), [O.d (D.ints IntKind.u8 (List.take ((IntKind.i64.wrap (valF y.fst, y.snd).fst).toNat - Int.toNat (4 : Int)) (List.drop (Int.toNat (4 : Int)) b)))] = [O.d (D.ints IntKind.u8 l)] ∧
  sm l.length) ∧ (b.getD (Int.toNat (0 : Int)) (0 : Int) = (firstF (vl (D.ints IntKind.u8 b))).fst.t ∧ b.getD (Int.toNat (1 : Int)) (0 : Int) = (firstF (vl (D.ints IntKind.u8 b))).fst.f ∧
  vl (D.ints IntKind.u8 (List.take ((IntKind.i64.wrap (valF y.fst, y.snd).fst).toNat - Int.toNat (4 : Int)) (List.drop (Int.toNat (4 : Int)) b))) = (firstF (vl (D.ints IntKind.u8 b))).fst.v ∧
  IntKind.i64.wrap (IntKind.i64.wrap (valF y.fst, y.snd).fst + (↑(padN (vi (D.v (Value.int IntKind.i64 (IntKind.i64.wrap (valF y.fst, y.snd).fst)))).toNat) : Int)) = (↑(firstF (vl (D.ints IntKind.u8 b))).snd.fst : Int) ∧
  (0 : Int) = (firstF (vl (D.ints IntKind.u8 b))).snd.snd ∧ (!false && true && true) = true) ∧ True) ∧ True)))) := by
  simp only [↓sw_iff, ↓Bool.and_eq_true, ↓decide_eq_true_eq, ↓decide_eq_false_iff_not, ↓Bool.not_eq_true', ↓Bool.not_eq_false', true_and, and_true, vi, vl, toNat2, toNat4, toNat0, toNat1]
  intro b h hb
  have h' := h
  unfold sm at h'
  refine ⟨fun t => by rw [first_short (by omega)]; exact ⟨rfl, rfl, rfl, rfl, rfl⟩, fun t => ?_⟩
  have hp : partF b 2 ((2 : Nat) : Int) = ((b.drop 2).take 2, 0) := part_get (by omega) (by omega) (by omega) (by omega)
  obtain ⟨n0, n1⟩ := num_lt hb
  have hn : valF ((b.drop 2).take 2) = (numF b : Int) := by unfold numF; omega
  have hpl := padN_le (numF b)
  have hn1 : numF b < 65536 := by omega
  have h0 : ¬ b.length < 4 := by omega
  have e1 : IntKind.i64.wrap (numF b : Int) = (numF b : Int) := wrap_i64_id (by omega) (by omega)
  have e2 : IntKind.i64.wrap ((numF b : Int) + (padN (numF b) : Int)) = ((numF b + padN (numF b) : Nat) : Int) := by rw [wrap_i64_id (by omega) (by omega)]; omega
  have e3 : IntKind.i64.wrap (((numF b + padN (numF b) : Nat) : Int) - (numF b : Int)) = (padN (numF b) : Int) := by rw [wrap_i64_id (by omega) (by omega)]; omega
  rw [hp]
  simp only [hn, e1, Int.toNat_natCast, e2, e3]
  refine ⟨⟨b, 2, 2, rfl, h, hb, by unfold okI; omega, by omega, by omega⟩, fun t1 => by rw [first_form h0 (by omega)]; exact ⟨rfl, rfl, rfl, rfl, rfl⟩, fun t1 => ⟨⟨numF b, rfl, by omega⟩, ⟨b, _, _, rfl, h, by unfold okI; omega, by unfold okI; omega⟩, ?_, ?_⟩⟩
  · intro t2
    have h2 : b.length < numF b + padN (numF b) := by
      refine Nat.lt_of_not_le fun hle => t2 ?_
      rw [part_get (by omega) (by omega) (by omega) (by omega)]
    rw [first_short2 h0 (by omega) h2]
    have : (partF b (numF b : Int) (padN (numF b) : Int)).2 = 3 := by
      unfold partF; rw [if_neg (by omega), if_pos (by omega)]
    exact ⟨rfl, rfl, rfl, rfl, this⟩
  · intro t2
    have h2 : ¬ b.length < numF b + padN (numF b) := fun hlt => by
      unfold partF at t2
      rw [if_neg (by omega), if_pos (by omega)] at t2
      cases t2
    have hq : partF b (numF b : Int) (padN (numF b) : Int) = ((b.drop (numF b)).take (padN (numF b)), 0) := part_get (by omega) (by omega) (by omega) (by omega)
    rw [hq]
    have hl : ((b.drop (numF b)).take (padN (numF b))).length ≤ padN (numF b) := List.length_take_le _ _
    refine ⟨⟨_, rfl, by unfold sm; simp only; omega⟩, fun t3 => by rw [first_form2 h0 (by omega) h2 t3]; exact ⟨rfl, rfl, rfl, rfl, rfl⟩, fun t3 => ?_⟩
    rw [first_ok h0 (by omega) h2 t3]
    have hl2 : ((b.drop 4).take (numF b - 4)).length ≤ b.length := by rw [List.length_take, List.length_drop]; omega
    exact ⟨⟨by omega, by omega⟩, ⟨by omega, by omega⟩, ⟨by omega, by omega, by omega⟩, ⟨_, rfl, by unfold sm; omega⟩, rfl, rfl, rfl, rfl, rfl⟩
set_option maxRecDepth 100000 in
theorem ok49 : FnIs Try.prog 49 firstC := by
  refine fnIs (C := (ctrs c7)) (by kernel_rfl) c7_ok Try.func49 (code := code49) (by kernel_rfl) (by kernel_rfl) ?_
  rintro a ⟨b, rfl, h, hb⟩
  exact ⟨anns [], kcast (vc49 b h hb) (by kernel_rfl)⟩

theorem c8_ok : COk Try.prog (ctrs c8) := cok_cons ok49 cok_nil

noncomputable def code20 : Code := match Try.f20.body with | some c => c | none => .skip
set_option maxHeartbeats 4000000 in
theorem vc20 : ∀ (b : List Int), sm b.length → okB b → True ∧ sw (decide ((4096 : Int) < (↑b.length : Int))) ((getR (vl (D.ints IntKind.u8 b))).fst.length = (0 : Nat) ∧
  (4 : Int) = (getR (vl (D.ints IntKind.u8 b))).snd ∧ (true && true) = true) (∃ (g0 : List ChR × List Int), (g0.fst.length ≤ (32 : Nat) ∧ g0.snd.length ≤ (4096 : Nat) ∧
  okB g0.snd ∧ getG ((33 : Nat) - g0.fst.length) g0.fst g0.snd = getG (33 : Nat) [] b) ∧ g0.fst.length = (0 : Nat) ∧ b = g0.snd ∧ (true && true) = true ∧
  ∀ (g : List ChR × List Int), g.fst.length ≤ (32 : Nat) ∧ g.snd.length ≤ (4096 : Nat) ∧ okB g.snd ∧ getG ((33 : Nat) - g.fst.length) g.fst g.snd = getG (33 : Nat) [] b →
  True ∧ sw (decide ((0 : Int) < (↑g.snd.length : Int))) (True ∧ sw (decide ((32 : Int) ≤ (↑g.fst.length : Int))) ((getR (vl (D.ints IntKind.u8 b))).fst.length = (0 : Nat) ∧
  (4 : Int) = (getR (vl (D.ints IntKind.u8 b))).snd ∧ (true && true) = true) ((∃ (b_1 : List Int), [O.d (D.ints IntKind.u8 g.snd)] = [O.d (D.ints IntKind.u8 b_1)] ∧
  sm b_1.length ∧ okB b_1) ∧ True ∧ sw (!decide ((firstF (vl (D.ints IntKind.u8 g.snd))).snd.snd = (0 : Int))) ((getR (vl (D.ints IntKind.u8 b))).fst.length = (0 : Nat) ∧
  (firstF (vl (D.ints IntKind.u8 g.snd))).snd.snd = (getR (vl (D.ints IntKind.u8 b))).snd ∧ (true && true) = true) (True ∧ (g.fst.length + (1 : Nat)) * Try.prog.types[(45 : Nat)].bytes ≤ (140737488355328 : Nat) ∧
  ((0 : Int) ≤ (↑(firstF (vl (D.ints IntKind.u8 g.snd))).snd.fst : Int) ∧ (↑(firstF (vl (D.ints IntKind.u8 g.snd))).snd.fst : Int) ≤ (↑g.snd.length : Int)) ∧
  ∃ (g' : List ChR × List Int), (g'.fst.length ≤ (32 : Nat) ∧ g'.snd.length ≤ (4096 : Nat) ∧ okB g'.snd ∧ getG ((33 : Nat) - g'.fst.length) g'.fst g'.snd = getG (33 : Nat) [] b) ∧
  (33 : Nat) - g'.fst.length < (33 : Nat) - g.fst.length ∧ ((g.fst.length + (1 : Nat) = g'.fst.length ∧ ∀ (i : Nat), i < g.fst.length + (1 : Nat) → ∀ (j : Nat), j < (3 : Nat) →
  (bif i.blt g.fst.length then chCell g.fst i j else [D.v (Value.int IntKind.u8 (firstF (vl (D.ints IntKind.u8 g.snd))).fst.t), D.v (Value.int IntKind.u8 (firstF (vl (D.ints IntKind.u8 g.snd))).fst.f), D.ints IntKind.u8 (firstF (vl (D.ints IntKind.u8 g.snd))).fst.v].getD ((i - g.fst.length) * Try.prog.types[(45 : Nat)].size + j) (D.v undef)) = chCell g'.fst i j) ∧
  List.drop (↑(firstF (vl (D.ints IntKind.u8 g.snd))).snd.fst : Int).toNat g.snd = g'.snd ∧ (!false && true && true && ((Nat.ble (1 : Nat) (6 : Nat) || false) && true)) = true) ∧
  (some (SV.c (Value.bool (decide ((4096 : Int) < (↑b.length : Int))))) = some (SV.c (Value.bool (decide ((4096 : Int) < (↑b.length : Int))))) ∧ some (SV.c (Value.int IntKind.i64 (↑b.length : Int))) = some (SV.c (Value.int IntKind.i64 (↑b.length : Int))) ∧
  some (SV.a (0 : Nat)) = some (SV.a (0 : Nat)) ∧ True) ∧ some (R.ro (D.ints IntKind.u8 b)) = some (R.ro (D.ints IntKind.u8 b)) ∧ True))) ((g.fst.length = (getR (vl (D.ints IntKind.u8 b))).fst.length ∧
  ∀ (i : Nat), i < g.fst.length → ∀ (j : Nat), j < (3 : Nat) → chCell g.fst i j = chCell (getR (vl (D.ints IntKind.u8 b))).fst i j) ∧ (0 : Int) = (getR (vl (D.ints IntKind.u8 b))).snd ∧
  (!false && true && true) = true)) := by
  simp only [↓sw_iff, ↓Bool.and_eq_true, ↓decide_eq_true_eq, ↓decide_eq_false_iff_not, ↓Bool.not_eq_true', ↓Bool.not_eq_false', true_and, and_true, Bool.or_false, Nat.ble, Int.toNat_natCast, vl, bytes45, size45]
  intro b h hb
  unfold sm at h
  refine ⟨fun t => by rw [getR_big (by omega)]; exact ⟨rfl, rfl⟩, fun t => ⟨([], b), ⟨Nat.zero_le _, by simp only; omega, hb, rfl⟩, rfl, rfl, ?_⟩⟩
  rw [getR_eq (by omega)]
  rintro ⟨l, r⟩ ⟨g1, g2, g3, g4⟩
  simp only at g1 g2 g3 g4 ⊢
  rw [← g4]
  have hf : 33 - l.length = 32 - l.length + 1 := by omega
  refine ⟨fun hlt => ⟨fun hful => ?_, fun hful => ⟨⟨r, rfl, by unfold sm; omega, g3⟩, fun he => ?_, fun he => ?_⟩⟩, fun hge => ?_⟩
  · rw [hf, getG_full (by omega) (by omega)]; exact ⟨rfl, rfl⟩
  · rw [hf, getG_err (by omega) (by omega) he]; exact ⟨rfl, rfl⟩
  · obtain ⟨a1, a2⟩ := first_all he
    refine ⟨by omega, ⟨by omega, by omega⟩, (l ++ [(firstF r).1], r.drop (firstF r).2.1), ⟨?_, ?_, okB_drop g3 _, ?_⟩, ?_, ⟨?_, ?_⟩, rfl⟩
    · simp only [List.length_append, List.length_singleton]; omega
    · simp only [List.length_drop]; omega
    · rw [hf, getG_step (by omega) (by omega) he]
      simp only [List.length_append, List.length_singleton]
      congr 1; omega
    · simp only [List.length_append, List.length_singleton]; omega
    · simp
    · intro i hi j hj
      exact app_ch _ _ hi hj
  · have : r = [] := List.length_eq_zero_iff.1 (by omega)
    subst this
    rw [hf, getG_nil]
    exact ⟨⟨rfl, fun _ _ _ _ => rfl⟩, rfl⟩
set_option maxRecDepth 100000 in
theorem ok20 : FnIs Try.prog 20 getsC := by
  refine fnIs (C := (ctrs c8)) (by kernel_rfl) c8_ok Try.func20 (code := code20) (by kernel_rfl) (by kernel_rfl) ?_
  rintro a ⟨b, rfl, h, hb⟩
  exact ⟨anns [(4, getAnn b)], kcast (vc20 b h hb) (by kernel_rfl)⟩

noncomputable def code25 : Code := match Try.f25.body with | some c => c | none => .skip
set_option maxHeartbeats 4000000 in
theorem vc25 : ∀ (c d : ChR), True ∧ sw (decide (c.t = d.t)) (SV.p (2 : Nat) (1 : Nat) = SV.p (2 : Nat) (1 : Nat)) True ∧ sw (decide (c.t = d.t)) ([decide (c.t = d.t)] = [decide (c.t = d.t)] ∧
  SV.c (Value.int IntKind.u8 c.f) = SV.c (Value.int IntKind.u8 c.f)) True ∧ sw (decide (c.t = d.t)) (SV.p (3 : Nat) (1 : Nat) = SV.p (3 : Nat) (1 : Nat)) True ∧
  sw (decide (c.t = d.t)) ([decide (c.t = d.t)] = [decide (c.t = d.t)] ∧ SV.c (Value.int IntKind.u8 d.f) = SV.c (Value.int IntKind.u8 d.f)) True ∧ sw (decide (c.t = d.t)) ([decide (c.t = d.t)] = [decide (c.t = d.t)] ∧
  [decide (c.t = d.t)] = [decide (c.t = d.t)] ∧ True ∧ SV.c (Value.bool (decide (c.f = d.f))) = SV.c (Value.bool (decide (c.f = d.f)))) True ∧ [decide (c.t = d.t)] = [decide (c.t = d.t)] ∧
  sw (decide (c.t = d.t) && decide (c.f = d.f)) (SV.p (2 : Nat) (2 : Nat) = SV.p (2 : Nat) (2 : Nat)) True ∧ sw (decide (c.t = d.t) && decide (c.f = d.f)) ([decide (c.t = d.t) && decide (c.f = d.f)] = [decide (c.t = d.t) && decide (c.f = d.f)] ∧
  SV.a (0 : Nat) = SV.a (0 : Nat)) True ∧ sw (decide (c.t = d.t) && decide (c.f = d.f)) ([decide (c.t = d.t) && decide (c.f = d.f)] = [decide (c.t = d.t) && decide (c.f = d.f)] ∧
  SV.c (Value.string (bstr c.v)) = SV.c (Value.string (bstr c.v))) True ∧ sw (decide (c.t = d.t) && decide (c.f = d.f)) (SV.p (3 : Nat) (2 : Nat) = SV.p (3 : Nat) (2 : Nat)) True ∧
  sw (decide (c.t = d.t) && decide (c.f = d.f)) ([decide (c.t = d.t) && decide (c.f = d.f)] = [decide (c.t = d.t) && decide (c.f = d.f)] ∧ SV.a (1 : Nat) = SV.a (1 : Nat)) True ∧
  sw (decide (c.t = d.t) && decide (c.f = d.f)) ([decide (c.t = d.t) && decide (c.f = d.f)] = [decide (c.t = d.t) && decide (c.f = d.f)] ∧ SV.c (Value.string (bstr d.v)) = SV.c (Value.string (bstr d.v))) True ∧
  sw (decide (c.t = d.t) && decide (c.f = d.f)) ([decide (c.t = d.t) && decide (c.f = d.f)] = [decide (c.t = d.t) && decide (c.f = d.f)] ∧ [decide (c.t = d.t) && decide (c.f = d.f)] = [decide (c.t = d.t) && decide (c.f = d.f)] ∧
  True ∧ SV.c (Value.bool (decide ((bstr c.v).data.toList = (bstr d.v).data.toList))) = SV.c (Value.bool (decide ((bstr c.v).data.toList = (bstr d.v).data.toList)))) True ∧
  [decide (c.t = d.t) && decide (c.f = d.f)] = [decide (c.t = d.t) && decide (c.f = d.f)] ∧ (decide (c.t = d.t) && decide (c.f = d.f) && decide ((bstr c.v).data.toList = (bstr d.v).data.toList)) = sameCh (ChR.mk (vi (D.v (Value.int IntKind.u8 c.t))) (vi (D.v (Value.int IntKind.u8 c.f))) (vl (D.ints IntKind.u8 c.v))) (ChR.mk (vi (D.v (Value.int IntKind.u8 d.t))) (vi (D.v (Value.int IntKind.u8 d.f))) (vl (D.ints IntKind.u8 d.v))) ∧
  (true && true) = true := by
  simp only [↓sw_iff, ↓Bool.and_eq_true, ↓Bool.and_eq_false_iff, ↓decide_eq_true_eq, ↓decide_eq_false_iff_not, true_and, and_true, implies_true, vi, vl, bytes_dec]
  intro c d
  rfl
set_option maxRecDepth 100000 in
theorem ok25 : FnIs Try.prog 25 sameC := by
  refine fnIs (C := (ctrs c0)) (by kernel_rfl) c0_ok Try.func25 (code := code25) (by kernel_rfl) (by kernel_rfl) ?_
  rintro a ⟨c, d, rfl⟩
  exact ⟨anns [], kcast (vc25 c d) (by kernel_rfl)⟩

theorem c10_ok : COk Try.prog (ctrs c10) := cok_cons ok25 cok_nil
theorem c9_ok : COk Try.prog (ctrs c9) := cok_cons ok50 (cok_cons ok51 cok_nil)

noncomputable def code21 : Code := match Try.f21.body with | some c => c | none => .skip
set_option maxHeartbeats 4000000 in
theorem vc21 : ∀ (b : List Int), sm b.length → okB b → True ∧ sw (decide ((4096 : Int) < (↑b.length : Int))) ((getR (vl (D.ints IntKind.u8 b))).fst.length = (0 : Nat) ∧
  (4 : Int) = (getR (vl (D.ints IntKind.u8 b))).snd ∧ (true && true) = true) (∃ (g0 : List ChR × Nat), (g0.fst.length ≤ (32 : Nat) ∧ g0.snd ≤ b.length ∧ getG ((33 : Nat) - g0.fst.length) g0.fst (List.drop g0.snd b) = getG (33 : Nat) [] b) ∧
  g0.fst.length = (0 : Nat) ∧ (0 : Int) = (↑g0.snd : Int) ∧ (true && true) = true ∧ ∀ (g : List ChR × Nat), let y := vi (D.v (Value.int IntKind.i64 (IntKind.i64.wrap ((↑g.snd : Int) + (2 : Int)))));
  let y_1 := partF (vl (D.ints IntKind.u8 b)) y (↑(vi (D.v (Value.int IntKind.i64 (2 : Int)))).toNat : Int); g.fst.length ≤ (32 : Nat) ∧ g.snd ≤ b.length ∧
  getG ((33 : Nat) - g.fst.length) g.fst (List.drop g.snd b) = getG (33 : Nat) [] b → True ∧ sw (decide ((↑g.snd : Int) < (↑b.length : Int))) (True ∧ sw (decide ((32 : Int) ≤ (↑g.fst.length : Int))) ((getR (vl (D.ints IntKind.u8 b))).fst.length = (0 : Nat) ∧
  (4 : Int) = (getR (vl (D.ints IntKind.u8 b))).snd ∧ (true && true) = true) (True ∧ True ∧ sw (decide (IntKind.i64.wrap ((↑b.length : Int) - (↑g.snd : Int)) < (4 : Int))) ((getR (vl (D.ints IntKind.u8 b))).fst.length = (0 : Nat) ∧
  (3 : Int) = (getR (vl (D.ints IntKind.u8 b))).snd ∧ (true && true) = true) (True ∧ (∃ (b_1 : List Int), ∃ (i : Int), ∃ (k : Nat), [O.d (D.ints IntKind.u8 b), O.d (D.v (Value.int IntKind.i64 (IntKind.i64.wrap ((↑g.snd : Int) + (2 : Int))))), O.d (D.v (Value.int IntKind.i64 (2 : Int)))] = [O.d (D.ints IntKind.u8 b_1), O.d (D.v (Value.int IntKind.i64 i)), O.d (D.v (Value.int IntKind.i64 (↑k : Int)))] ∧
  sm b_1.length ∧ okB b_1 ∧ okI i ∧ (1 : Nat) ≤ k ∧ k ≤ (7 : Nat)) ∧ True ∧ sw (decide ((valF y_1.fst, y_1.snd).fst < (4 : Int))) ((getR (vl (D.ints IntKind.u8 b))).fst.length = (0 : Nat) ∧
  (2 : Int) = (getR (vl (D.ints IntKind.u8 b))).snd ∧ (true && true) = true) (True ∧ (∃ (n : Nat), [O.d (D.v (Value.int IntKind.i64 (valF y_1.fst, y_1.snd).fst))] = [O.d (D.v (Value.int IntKind.i64 (↑n : Int)))] ∧
  n ≤ (2199023255552 : Nat)) ∧ True ∧ True ∧ sw (decide ((↑b.length : Int) < IntKind.i64.wrap (IntKind.i64.wrap ((↑g.snd : Int) + (valF y_1.fst, y_1.snd).fst) + (↑(padN (vi (D.v (Value.int IntKind.i64 (valF y_1.fst, y_1.snd).fst))).toNat) : Int)))) ((getR (vl (D.ints IntKind.u8 b))).fst.length = (0 : Nat) ∧
  (3 : Int) = (getR (vl (D.ints IntKind.u8 b))).snd ∧ (true && true) = true) (True ∧ ∃ (p : Nat × Nat), ∃ (g0_1 : Nat), (p.fst ≤ g0_1 ∧ g0_1 ≤ p.snd ∧ ∀ (j : Nat), p.fst ≤ j →
  j < g0_1 → b.getD j (0 : Int) = (0 : Int)) ∧ IntKind.i64.wrap ((↑g.snd : Int) + (valF y_1.fst, y_1.snd).fst) = (↑g0_1 : Int) ∧ (true && true) = true ∧ ∀ (g_1 : Nat), (p.fst ≤ g_1 ∧
  g_1 ≤ p.snd ∧ ∀ (j : Nat), p.fst ≤ j → j < g_1 → b.getD j (0 : Int) = (0 : Int)) → True ∧ sw (decide ((↑g_1 : Int) < IntKind.i64.wrap (IntKind.i64.wrap ((↑g.snd : Int) + (valF y_1.fst, y_1.snd).fst) + (↑(padN (vi (D.v (Value.int IntKind.i64 (valF y_1.fst, y_1.snd).fst))).toNat) : Int)))) (((0 : Int) ≤ (↑g_1 : Int) ∧
  (↑g_1 : Int) < (↑b.length : Int)) ∧ True ∧ sw (!decide (b.getD (↑g_1 : Int).toNat (0 : Int) = (0 : Int))) ((getR (vl (D.ints IntKind.u8 b))).fst.length = (0 : Nat) ∧
  (2 : Int) = (getR (vl (D.ints IntKind.u8 b))).snd ∧ (true && true) = true) (True ∧ ∃ (g' : Nat), (p.fst ≤ g' ∧ g' ≤ p.snd ∧ ∀ (j : Nat), p.fst ≤ j → j < g' →
  b.getD j (0 : Int) = (0 : Int)) ∧ p.snd - g' < p.snd - g_1 ∧ (IntKind.i64.wrap ((↑g_1 : Int) + (1 : Int)) = (↑g' : Int) ∧ (true && true && true) = true) ∧
  (some (SV.c (Value.int IntKind.i64 (IntKind.i64.wrap ((↑g.snd : Int) + (valF y_1.fst, y_1.snd).fst)))) = some (SV.c (Value.int IntKind.i64 (IntKind.i64.wrap ((↑g.snd : Int) + (valF y_1.fst, y_1.snd).fst)))) ∧
  some (SV.c (Value.int IntKind.i64 (valF y_1.fst, y_1.snd).fst)) = some (SV.c (Value.int IntKind.i64 (valF y_1.fst, y_1.snd).fst)) ∧ some (SV.c (Value.int IntKind.i64 (↑g.snd : Int))) = some (SV.c (Value.int IntKind.i64 (↑g.snd : Int))) ∧
  some (SV.c (Value.bool (decide ((↑b.length : Int) < IntKind.i64.wrap (IntKind.i64.wrap ((↑g.snd : Int) + (valF y_1.fst, y_1.snd).fst) + (↑(padN (vi (D.v (Value.int IntKind.i64 (valF y_1.fst, y_1.snd).fst))).toNat) : Int)))))) = some (SV.c (Value.bool (decide ((↑b.length : Int) < IntKind.i64.wrap (IntKind.i64.wrap ((↑g.snd : Int) + (valF y_1.fst, y_1.snd).fst) + (↑(padN (vi (D.v (Value.int IntKind.i64 (valF y_1.fst, y_1.snd).fst))).toNat) : Int)))))) ∧
  some (SV.c (Value.int IntKind.i64 (↑b.length : Int))) = some (SV.c (Value.int IntKind.i64 (↑b.length : Int))) ∧ some (SV.a (0 : Nat)) = some (SV.a (0 : Nat)) ∧
  some (SV.c (Value.int IntKind.i64 (IntKind.i64.wrap (IntKind.i64.wrap ((↑g.snd : Int) + (valF y_1.fst, y_1.snd).fst) + (↑(padN (vi (D.v (Value.int IntKind.i64 (valF y_1.fst, y_1.snd).fst))).toNat) : Int))))) = some (SV.c (Value.int IntKind.i64 (IntKind.i64.wrap (IntKind.i64.wrap ((↑g.snd : Int) + (valF y_1.fst, y_1.snd).fst) + (↑(padN (vi (D.v (Value.int IntKind.i64 (valF y_1.fst, y_1.snd).fst))).toNat) : Int))))) ∧
  some (SV.c (Value.int IntKind.i64 (IntKind.i64.wrap (IntKind.i64.wrap ((↑g.snd : Int) + (valF y_1.fst, y_1.snd).fst) + (↑(padN (vi (D.v (Value.int IntKind.i64 (valF y_1.fst, y_1.snd).fst))).toNat) : Int))))) = some (SV.c (Value.int IntKind.i64 (IntKind.i64.wrap (IntKind.i64.wrap ((↑g.snd : Int) + (valF y_1.fst, y_1.snd).fst) + (↑(padN (vi (D.v (Value.int IntKind.i64 (valF y_1.fst, y_1.snd).fst))).toNat) : Int))))) ∧
  some (SV.c (Value.int IntKind.i64 (IntKind.i64.wrap (IntKind.i64.wrap ((↑g.snd : Int) + (valF y_1.fst, y_1.snd).fst) + (↑(padN (vi (D.v (Value.int IntKind.i64 (valF y_1.fst, y_1.snd).fst))).toNat) : Int))))) = some (SV.c (Value.int IntKind.i64 (IntKind.i64.wrap (IntKind.i64.wrap ((↑g.snd : Int) + (valF y_1.fst, y_1.snd).fst) + (↑(padN (vi (D.v (Value.int IntKind.i64 (valF y_1.fst, y_1.snd).fst))).toNat) : Int))))) ∧
  some (SV.c (Value.int IntKind.i64 (↑(padN (vi (D.v (Value.int IntKind.i64 (valF y_1.fst, y_1.snd).fst))).toNat) : Int))) = some (SV.c (Value.int IntKind.i64 (↑(padN (vi (D.v (Value.int IntKind.i64 (valF y_1.fst, y_1.snd).fst))).toNat) : Int))) ∧
  some (SV.c (Value.int IntKind.i64 (valF y_1.fst, y_1.snd).fst)) = some (SV.c (Value.int IntKind.i64 (valF y_1.fst, y_1.snd).fst)) ∧ some (SV.c (Value.int IntKind.i64 (IntKind.i64.wrap ((↑g.snd : Int) + (valF y_1.fst, y_1.snd).fst)))) = some (SV.c (Value.int IntKind.i64 (IntKind.i64.wrap ((↑g.snd : Int) + (valF y_1.fst, y_1.snd).fst)))) ∧
  some (SV.c (Value.int IntKind.i64 (valF y_1.fst, y_1.snd).fst)) = some (SV.c (Value.int IntKind.i64 (valF y_1.fst, y_1.snd).fst)) ∧ some (SV.c (Value.int IntKind.i64 (↑g.snd : Int))) = some (SV.c (Value.int IntKind.i64 (↑g.snd : Int))) ∧
  some (SV.c (Value.bool (decide ((valF y_1.fst, y_1.snd).fst < (4 : Int))))) = some (SV.c (Value.bool (decide ((valF y_1.fst, y_1.snd).fst < (4 : Int))))) ∧
  some (SV.c (Value.int IntKind.i64 (valF y_1.fst, y_1.snd).fst)) = some (SV.c (Value.int IntKind.i64 (valF y_1.fst, y_1.snd).fst)) ∧ some (SV.c (Value.int IntKind.i64 (valF y_1.fst, y_1.snd).fst)) = some (SV.c (Value.int IntKind.i64 (valF y_1.fst, y_1.snd).fst)) ∧
  some (SV.c (Value.int IntKind.i64 (valF y_1.fst, y_1.snd).fst)) = some (SV.c (Value.int IntKind.i64 (valF y_1.fst, y_1.snd).fst)) ∧ some (SV.c (Value.int IntKind.i64 (IntKind.i64.wrap ((↑g.snd : Int) + (2 : Int))))) = some (SV.c (Value.int IntKind.i64 (IntKind.i64.wrap ((↑g.snd : Int) + (2 : Int))))) ∧
  some (SV.c (Value.int IntKind.i64 (↑g.snd : Int))) = some (SV.c (Value.int IntKind.i64 (↑g.snd : Int))) ∧ some (SV.a (0 : Nat)) = some (SV.a (0 : Nat)) ∧
  some (SV.c (Value.bool (decide (IntKind.i64.wrap ((↑b.length : Int) - (↑g.snd : Int)) < (4 : Int))))) = some (SV.c (Value.bool (decide (IntKind.i64.wrap ((↑b.length : Int) - (↑g.snd : Int)) < (4 : Int))))) ∧
  some (SV.c (Value.int IntKind.i64 (IntKind.i64.wrap ((↑b.length : Int) - (↑g.snd : Int))))) = some (SV.c (Value.int IntKind.i64 (IntKind.i64.wrap ((↑b.length : Int) - (↑g.snd : Int))))) ∧
  some (SV.c (Value.int IntKind.i64 (↑g.snd : Int))) = some (SV.c (Value.int IntKind.i64 (↑g.snd : Int))) ∧ some (SV.c (Value.int IntKind.i64 (↑b.length : Int))) = some (SV.c (Value.int IntKind.i64 (↑b.length : Int))) ∧
  some (SV.a (0 : Nat)) = some (SV.a (0 : Nat)) ∧ some (SV.c (Value.bool (decide ((32 : Int) ≤ (↑g.fst.length : Int))))) = some (SV.c (Value.bool (decide ((32 : Int) ≤ (↑g.fst.length : Int))))) ∧
  some (SV.c (Value.int IntKind.i64 (↑g.fst.length : Int))) = some (SV.c (Value.int IntKind.i64 (↑g.fst.length : Int))) ∧ some (SV.a (1 : Nat)) = some (SV.a (1 : Nat)) ∧
  some (SV.c (Value.bool (decide ((↑g.snd : Int) < (↑b.length : Int))))) = some (SV.c (Value.bool (decide ((↑g.snd : Int) < (↑b.length : Int))))) ∧ some (SV.c (Value.int IntKind.i64 (↑b.length : Int))) = some (SV.c (Value.int IntKind.i64 (↑b.length : Int))) ∧
  some (SV.a (0 : Nat)) = some (SV.a (0 : Nat)) ∧ some (SV.c (Value.int IntKind.i64 (↑g.snd : Int))) = some (SV.c (Value.int IntKind.i64 (↑g.snd : Int))) ∧
  some (SV.a (1 : Nat)) = some (SV.a (1 : Nat)) ∧ some (SV.c (Value.int IntKind.i64 (↑g.snd : Int))) = some (SV.c (Value.int IntKind.i64 (↑g.snd : Int))) ∧
  some (SV.c (Value.bool (decide ((4096 : Int) < (↑b.length : Int))))) = some (SV.c (Value.bool (decide ((4096 : Int) < (↑b.length : Int))))) ∧ some (SV.c (Value.int IntKind.i64 (↑b.length : Int))) = some (SV.c (Value.int IntKind.i64 (↑b.length : Int))) ∧
  some (SV.a (0 : Nat)) = some (SV.a (0 : Nat)) ∧ some (SV.a (0 : Nat)) = some (SV.a (0 : Nat)) ∧ True) ∧ some (R.own (45 : Nat) (D.recs (3 : Nat) g.fst.length (chCell g.fst))) = some (R.own (45 : Nat) (D.recs (3 : Nat) g.fst.length (chCell g.fst))) ∧
  some (R.ro (D.ints IntKind.u8 b)) = some (R.ro (D.ints IntKind.u8 b)) ∧ True)) (((0 : Int) ≤ (↑g.snd : Int) ∧ (↑g.snd : Int) < (↑b.length : Int)) ∧ True ∧
  ((0 : Int) ≤ IntKind.i64.wrap ((↑g.snd : Int) + (1 : Int)) ∧ IntKind.i64.wrap ((↑g.snd : Int) + (1 : Int)) < (↑b.length : Int)) ∧ True ∧ True ∧ ((0 : Int) ≤ IntKind.i64.wrap ((↑g.snd : Int) + (4 : Int)) ∧
  IntKind.i64.wrap ((↑g.snd : Int) + (4 : Int)) ≤ IntKind.i64.wrap ((↑g.snd : Int) + (valF y_1.fst, y_1.snd).fst) ∧ IntKind.i64.wrap ((↑g.snd : Int) + (valF y_1.fst, y_1.snd).fst) ≤ (↑b.length : Int)) ∧
  ((True ∧ ((0 : Nat) + (List.take ((IntKind.i64.wrap ((↑g.snd : Int) + (valF y_1.fst, y_1.snd).fst)).toNat - (IntKind.i64.wrap ((↑g.snd : Int) + (4 : Int))).toNat) (List.drop (IntKind.i64.wrap ((↑g.snd : Int) + (4 : Int))).toNat b)).length) * Try.prog.types[(5 : Nat)].bytes ≤ (140737488355328 : Nat) ∧
  ((True ∧ (g.fst.length + (1 : Nat)) * Try.prog.types[(45 : Nat)].bytes ≤ (140737488355328 : Nat) ∧ ∃ (g' : List ChR × Nat), (g'.fst.length ≤ (32 : Nat) ∧
  g'.snd ≤ b.length ∧ getG ((33 : Nat) - g'.fst.length) g'.fst (List.drop g'.snd b) = getG (33 : Nat) [] b) ∧ (33 : Nat) - g'.fst.length < (33 : Nat) - g.fst.length ∧
  ((g.fst.length + (1 : Nat) = g'.fst.length ∧ ∀ (i : Nat), i < g.fst.length + (1 : Nat) → ∀ (j : Nat), j < (3 : Nat) → (bif i.blt g.fst.length then chCell g.fst i j else [D.v (Value.int IntKind.u8 (b.getD (↑g.snd : Int).toNat (0 : Int))), D.v (Value.int IntKind.u8 (b.getD (IntKind.i64.wrap ((↑g.snd : Int) + (1 : Int))).toNat (0 : Int))), D.ints IntKind.u8 ([] ++ List.take ((IntKind.i64.wrap ((↑g.snd : Int) + (valF y_1.fst, y_1.snd).fst)).toNat - (IntKind.i64.wrap ((↑g.snd : Int) + (4 : Int))).toNat) (List.drop (IntKind.i64.wrap ((↑g.snd : Int) + (4 : Int))).toNat b))].getD ((i - g.fst.length) * Try.prog.types[(45 : Nat)].size + j) (D.v undef)) = chCell g'.fst i j) ∧
  IntKind.i64.wrap (IntKind.i64.wrap ((↑g.snd : Int) + (valF y_1.fst, y_1.snd).fst) + (↑(padN (vi (D.v (Value.int IntKind.i64 (valF y_1.fst, y_1.snd).fst))).toNat) : Int)) = (↑g'.snd : Int) ∧
  (!false && true && true && ((Nat.ble (1 : Nat) (6 : Nat) || false) && true)) = true) ∧ (some (SV.c (Value.bool (decide ((4096 : Int) < (↑b.length : Int))))) = some (SV.c (Value.bool (decide ((4096 : Int) < (↑b.length : Int))))) ∧
  some (SV.c (Value.int IntKind.i64 (↑b.length : Int))) = some (SV.c (Value.int IntKind.i64 (↑b.length : Int))) ∧ some (SV.a (0 : Nat)) = some (SV.a (0 : Nat)) ∧
  some (SV.a (0 : Nat)) = some (SV.a (0 : Nat)) ∧ True) ∧ some (R.ro (D.ints IntKind.u8 b)) = some (R.ro (D.ints IntKind.u8 b)) ∧ True) ∧ True) ∧ True) ∧
  True) ∧ True)))))) ((g.fst.length = (getR (vl (D.ints IntKind.u8 b))).fst.length ∧ ∀ (i : Nat), i < g.fst.length → ∀ (j : Nat), j < (3 : Nat) → chCell g.fst i j = chCell (getR (vl (D.ints IntKind.u8 b))).fst i j) ∧
  (0 : Int) = (getR (vl (D.ints IntKind.u8 b))).snd ∧ (!false && true && true) = true)) := by
  simp only [↓sw_iff, ↓Bool.and_eq_true, ↓decide_eq_true_eq, ↓decide_eq_false_iff_not, ↓Bool.not_eq_true', ↓Bool.not_eq_false', true_and, and_true, Bool.or_false, Nat.ble, Int.toNat_natCast, vi, vl, Nat.zero_add, List.nil_append, Nat.mul_one, bytes5, bytes45, size45, toNat2]
  intro b h hb
  have h' := h
  unfold sm at h'
  refine ⟨fun t => by rw [getR_big (by omega)]; exact ⟨rfl, rfl⟩, fun t => ⟨([], 0), ⟨Nat.zero_le _, Nat.zero_le _, rfl⟩, rfl, rfl, ?_⟩⟩
  rw [getR_eq (by omega)]
  rintro ⟨l, p⟩ ⟨g1, g2, g4⟩
  simp only at g1 g2 g4 ⊢
  rw [← g4]
  have hf : 33 - l.length = 32 - l.length + 1 := by omega
  have hrl : (b.drop p).length = b.length - p := List.length_drop
  have hr : okB (b.drop p) := okB_drop hb p
  have e0 : IntKind.i64.wrap ((b.length : Int) - (p : Int)) = (b.length : Int) - p := wrap_i64_id (by omega) (by omega)
  have e1 : IntKind.i64.wrap ((p : Int) + 2) = ((p + 2 : Nat) : Int) := by rw [wrap_i64_id (by omega) (by omega)]; rfl
  rw [e0, e1]
  refine ⟨fun hlt => ⟨fun hful => ?_, fun hful => ?_⟩, fun hge => ?_⟩
  · rw [hf, getG_full (by omega) (by omega)]; exact ⟨rfl, rfl⟩
  · rw [hf]
    have err : ∀ {e : Int}, (firstF (b.drop p)).2.2 = e → ¬ e = 0 → (getG (32 - l.length + 1) l (b.drop p)).1.length = 0 ∧ e = (getG (32 - l.length + 1) l (b.drop p)).2 := fun he h0 => by
      rw [getG_err (by omega) (by omega) (by rw [he]; exact h0)]; exact ⟨rfl, he.symm⟩
    refine ⟨fun ht => err (by rw [first_short (by omega)]) (by decide), fun ht => ?_⟩
    have h4 : ¬ (b.drop p).length < 4 := by omega
    have hp : partF b ((p + 2 : Nat) : Int) ((2 : Nat) : Int) = ((b.drop (p + 2)).take 2, 0) := part_get (by omega) (by omega) (by omega) (by omega)
    obtain ⟨n0, n1⟩ := num_lt hr
    have hn : valF ((b.drop (p + 2)).take 2) = (numF (b.drop p) : Int) := by rw [← List.drop_drop]; unfold numF; omega
    have hn1 : numF (b.drop p) < 65536 := by unfold numF; omega
    rw [hp]
    simp only [hn]
    generalize hnn : numF (b.drop p) = n at hn1 ⊢
    have hpl := padN_le n
    have e2 : IntKind.i64.wrap ((p : Int) + (n : Int)) = ((p + n : Nat) : Int) := by rw [wrap_i64_id (by omega) (by omega)]; rfl
    have e3 : IntKind.i64.wrap (((p + n : Nat) : Int) + (padN n : Int)) = ((p + n + padN n : Nat) : Int) := by rw [wrap_i64_id (by omega) (by omega)]; rfl
    have e4 : IntKind.i64.wrap ((p : Int) + 4) = ((p + 4 : Nat) : Int) := by rw [wrap_i64_id (by omega) (by omega)]; rfl
    have e5 : IntKind.i64.wrap ((p : Int) + 1) = ((p + 1 : Nat) : Int) := by rw [wrap_i64_id (by omega) (by omega)]; rfl
    simp only [e2, Int.toNat_natCast, e3, e4, e5]
    refine ⟨⟨b, _, 2, rfl, h, hb, by unfold okI; omega, by omega, by omega⟩, fun t1 => err (by rw [first_form h4 (by omega)]) (by decide), fun t1 => ⟨⟨n, rfl, by omega⟩, fun t2 => err (by rw [first_short2 h4 (by omega) (by rw [hnn]; omega)]) (by decide), fun t2 => ?_⟩⟩
    refine ⟨(p + n, p + n + padN n), p + n, ⟨Nat.le_refl _, Nat.le_add_right _ _, fun j a1 a2 => by omega⟩, rfl, ?_⟩
    rintro j ⟨j1, j2, j3⟩
    simp only at j1 j2 j3 ⊢
    have hdd : ∀ k, (b.drop p).drop k = b.drop (p + k) := fun k => by rw [List.drop_drop]
    refine ⟨fun hj => ⟨⟨by omega, by omega⟩, fun hx => ?_, fun hx => ⟨j + 1, ⟨by omega, by omega, fun i a1 a2 => ?_⟩, by omega, by rw [wrap_i64_id (by omega) (by omega)]; rfl⟩⟩, fun hj => ?_⟩
    · refine err ?_ (by decide)
      rw [first_form2 h4 (by omega) (by rw [hnn]; omega)]
      rw [hnn, hdd]
      exact nz_true hb j1 (by omega) (by omega) hx
    · by_cases e : i = j
      · subst e; exact hx
      · exact j3 i a1 (by omega)
    · have hz : someNZ (((b.drop p).drop (numF (b.drop p))).take (padN (numF (b.drop p)))) = false := by
        rw [hnn, hdd]; exact nz_false fun i a1 a2 => j3 i a1 (by omega)
      have hfo := first_ok h4 (by omega) (by rw [hnn]; omega) hz
      rw [hnn, getD_drop, getD_drop, hdd, Nat.add_zero] at hfo
      have hl2 : ((b.drop (p + 4)).take (p + n - (p + 4))).length ≤ b.length := by rw [List.length_take, List.length_drop]; omega
      have e6 : p + n - (p + 4) = n - 4 := by omega
      refine ⟨⟨by omega, by omega⟩, ⟨by omega, by omega⟩, ⟨by omega, by omega, by omega⟩, by omega, by omega, (l ++ [(firstF (b.drop p)).1], p + n + padN n), ⟨?_, by simp only; omega, ?_⟩, ?_, ⟨?_, ?_⟩, rfl⟩
      · simp only [List.length_append, List.length_singleton]; omega
      · rw [getG_step (by omega) (by omega) (by rw [hfo]), hdd]
        simp only [List.length_append, List.length_singleton]
        rw [show 33 - (l.length + 1) = 32 - l.length by omega, hfo]
        simp only
        rw [show p + (n + padN n) = p + n + padN n by omega]
      · simp only [List.length_append, List.length_singleton]; omega
      · simp
      · intro i hi k hk
        rw [hfo, e6]
        exact app_ch l ⟨b.getD p 0, b.getD (p + 1) 0, (b.drop (p + 4)).take (n - 4)⟩ hi hk
  · have : b.drop p = [] := List.length_eq_zero_iff.1 (by omega)
    rw [this, hf, getG_nil]
    exact ⟨⟨rfl, fun _ _ _ _ => rfl⟩, rfl⟩
set_option maxRecDepth 100000 in
theorem ok21 : FnIs Try.prog 21 getsC := by
  refine fnIs (C := (ctrs c9)) (by kernel_rfl) c9_ok Try.func21 (code := code21) (by kernel_rfl) (by kernel_rfl) ?_
  rintro a ⟨b, rfl, h, hb⟩
  exact ⟨anns [(5, getAnn' b), (17, padAnn b)], kcast (vc21 b h hb) (by kernel_rfl)⟩

noncomputable def code22 : Code := match Try.f22.body with | some c => c | none => .skip
set_option maxHeartbeats 4000000 in
theorem vc22 : ∀ (l m : List ChR), okChs l → okChs m → ∃ (g0 : Nat), (g0 ≤ l.length ∧ g0 ≤ m.length ∧ ∀ (j : Nat), j < g0 → sameCh (l.getD j noCh) (m.getD j noCh) = true) ∧
  (0 : Int) = (↑g0 : Int) ∧ (true && true) = true ∧ ∀ (g : Nat), (g ≤ l.length ∧ g ≤ m.length ∧ ∀ (j : Nat), j < g → sameCh (l.getD j noCh) (m.getD j noCh) = true) →
  True ∧ sw (decide ((↑g : Int) < (↑l.length : Int))) (SV.c (Value.int IntKind.i64 (↑g : Int)) = SV.c (Value.int IntKind.i64 (↑g : Int))) True ∧ sw (decide ((↑g : Int) < (↑l.length : Int))) (SV.a (1 : Nat) = SV.a (1 : Nat)) True ∧
  sw (decide ((↑g : Int) < (↑l.length : Int))) ([decide ((↑g : Int) < (↑l.length : Int))] = [decide ((↑g : Int) < (↑l.length : Int))] ∧ SV.c (Value.int IntKind.i64 (↑m.length : Int)) = SV.c (Value.int IntKind.i64 (↑m.length : Int))) True ∧
  sw (decide ((↑g : Int) < (↑l.length : Int))) ([decide ((↑g : Int) < (↑l.length : Int))] = [decide ((↑g : Int) < (↑l.length : Int))] ∧ [decide ((↑g : Int) < (↑l.length : Int))] = [decide ((↑g : Int) < (↑l.length : Int))] ∧
  True ∧ SV.c (Value.bool (decide ((↑g : Int) < (↑m.length : Int)))) = SV.c (Value.bool (decide ((↑g : Int) < (↑m.length : Int))))) True ∧ [decide ((↑g : Int) < (↑l.length : Int))] = [decide ((↑g : Int) < (↑l.length : Int))] ∧
  sw (decide ((↑g : Int) < (↑l.length : Int)) && decide ((↑g : Int) < (↑m.length : Int))) (((0 : Int) ≤ (↑g : Int) ∧ (↑g : Int) < (↑l.length : Int)) ∧ ((0 : Int) ≤ (↑g : Int) ∧
  (↑g : Int) < (↑m.length : Int)) ∧ (∃ (c : ChR), ∃ (d : ChR), [O.agg [O.d (D.v (Value.int IntKind.u8 (l.getD (↑g : Int).toNat noCh).t)), O.d (D.v (Value.int IntKind.u8 (l.getD (↑g : Int).toNat noCh).f)), O.d (D.ints IntKind.u8 (l.getD (↑g : Int).toNat noCh).v)], O.agg [O.d (D.v (Value.int IntKind.u8 (m.getD (↑g : Int).toNat noCh).t)), O.d (D.v (Value.int IntKind.u8 (m.getD (↑g : Int).toNat noCh).f)), O.d (D.ints IntKind.u8 (m.getD (↑g : Int).toNat noCh).v)]] = [O.agg [O.d (D.v (Value.int IntKind.u8 c.t)), O.d (D.v (Value.int IntKind.u8 c.f)), O.d (D.ints IntKind.u8 c.v)], O.agg [O.d (D.v (Value.int IntKind.u8 d.t)), O.d (D.v (Value.int IntKind.u8 d.f)), O.d (D.ints IntKind.u8 d.v)]]) ∧
  sw (!sameCh (ChR.mk (vi (D.v (Value.int IntKind.u8 (l.getD (↑g : Int).toNat noCh).t))) (vi (D.v (Value.int IntKind.u8 (l.getD (↑g : Int).toNat noCh).f))) (vl (D.ints IntKind.u8 (l.getD (↑g : Int).toNat noCh).v))) (ChR.mk (vi (D.v (Value.int IntKind.u8 (m.getD (↑g : Int).toNat noCh).t))) (vi (D.v (Value.int IntKind.u8 (m.getD (↑g : Int).toNat noCh).f))) (vl (D.ints IntKind.u8 (m.getD (↑g : Int).toNat noCh).v)))) (false = sameChs (chsOf (D.recs (3 : Nat) l.length (chCell l))) (chsOf (D.recs (3 : Nat) m.length (chCell m))) ∧
  (true && true) = true) (True ∧ ∃ (g' : Nat), (g' ≤ l.length ∧ g' ≤ m.length ∧ ∀ (j : Nat), j < g' → sameCh (l.getD j noCh) (m.getD j noCh) = true) ∧ l.length - g' < l.length - g ∧
  (IntKind.i64.wrap ((↑g : Int) + (1 : Int)) = (↑g' : Int) ∧ (true && true && true) = true) ∧ (some (SV.a (0 : Nat)) = some (SV.a (0 : Nat)) ∧ some (SV.a (1 : Nat)) = some (SV.a (1 : Nat)) ∧
  True) ∧ some (R.ro (D.recs (3 : Nat) m.length (chCell m))) = some (R.ro (D.recs (3 : Nat) m.length (chCell m))) ∧ some (R.ro (D.recs (3 : Nat) l.length (chCell l))) = some (R.ro (D.recs (3 : Nat) l.length (chCell l))) ∧
  True)) (True ∧ decide ((↑l.length : Int) = (↑m.length : Int)) = sameChs (chsOf (D.recs (3 : Nat) l.length (chCell l))) (chsOf (D.recs (3 : Nat) m.length (chCell m))) ∧
  (true && true) = true) := by
  simp only [↓sw_iff, ↓Bool.and_eq_true, ↓Bool.and_eq_false_iff, ↓decide_eq_true_eq, ↓decide_eq_false_iff_not, ↓Bool.not_eq_true', ↓Bool.not_eq_false', true_and, and_true, implies_true, Int.toNat_natCast, vi, vl, chsOf_chs]
  intro l m hl hm
  obtain ⟨l1, l2⟩ := hl
  obtain ⟨m1, m2⟩ := hm
  refine ⟨0, ⟨Nat.zero_le _, Nat.zero_le _, fun j hj => absurd hj (Nat.not_lt_zero _)⟩, rfl, ?_⟩
  rintro g ⟨h1, h2, h3⟩
  refine ⟨fun hlt => ⟨⟨by omega, by omega⟩, ⟨by omega, by omega⟩, ⟨_, _, rfl⟩, fun he => (sames_false (by omega) (by omega) he).symm, fun he => ⟨g + 1, ⟨by omega, by omega, fun j hj => ?_⟩, by omega, by rw [wrap_i64_id (by omega) (by omega)]; rfl⟩⟩, fun hge => sames_end (by omega) h3⟩
  by_cases e : j = g
  · subst e; exact he
  · exact h3 j (by omega)
set_option maxRecDepth 100000 in
theorem ok22 : FnIs Try.prog 22 samesC := by
  refine fnIs (C := (ctrs c10)) (by kernel_rfl) c10_ok Try.func22 (code := code22) (by kernel_rfl) (by kernel_rfl) ?_
  rintro a ⟨l, m, rfl, hl, hm⟩
  exact ⟨anns [(2, samesAnn l m)], kcast (vc22 l m hl hm) (by kernel_rfl)⟩

end Go.ZR
