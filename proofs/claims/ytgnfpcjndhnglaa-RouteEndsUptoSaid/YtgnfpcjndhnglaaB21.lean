/- RouteEnds: the walk -/
import Derived.Test.YtgnfpcjndhnglaaRows
import Derived.Test.YtgnfpcjndhnglaaB20
namespace Go.YR
open Go.Proofs
open Go.Y Go.YM Go.RowKit
theorem nm_len {k : Nat} (h : k ≤ 8) : (nmF k).length = k := by simp [nmF, eight]; omega
theorem nm_cell : ∀ (i : Nat), i < 8 → [D.v (Value.string { data := #[110, 97] }), D.v (Value.string { data := #[110, 98] }), D.v (Value.string { data := #[110, 99] }), D.v (Value.string { data := #[110, 100] }), D.v (Value.string { data := #[110, 101] }), D.v (Value.string { data := #[110, 102] }), D.v (Value.string { data := #[110, 103] }),
      D.v (Value.string { data := #[110, 104] })].getD i (D.v undef) = .v (.string (eight.getD i noStr)) := by
  intro i hi
  match i, hi with
  | 0, _ => rfl
  | 1, _ => rfl
  | 2, _ => rfl
  | 3, _ => rfl
  | 4, _ => rfl
  | 5, _ => rfl
  | 6, _ => rfl
  | 7, _ => rfl
theorem nm_get {k i : Nat} (h : i < k) : (nmF k).getD i noStr = eight.getD i noStr := by
  simp [nmF, List.getD, List.getElem?_take, h]
theorem eight_inj' : ∀ i, i < 8 → ∀ j, j < 8 → eight.getD i noStr = eight.getD j noStr → i = j := by decide +kernel
theorem eight_inj {i j : Nat} (hi : i < 8) (hj : j < 8) (h : eight.getD i noStr = eight.getD j noStr) : i = j := eight_inj' i hi j hj h
theorem nodup_le {α : Type} [DecidableEq α] : ∀ {l m : List α}, l.Nodup → (∀ x, x ∈ l → x ∈ m) → l.length ≤ m.length
  | [], _, _, _ => Nat.zero_le _
  | a :: l, m, hn, hs => by
    have hn' := List.nodup_cons.1 hn
    have ha := hs a (List.mem_cons_self ..)
    have := nodup_le (l := l) (m := m.erase a) hn'.2 (fun x hx => (List.mem_erase_of_ne (fun e => by subst e; exact hn'.1 hx)).2 (hs x (List.mem_cons_of_mem _ hx)))
    rw [List.length_erase_of_mem ha] at this
    have := List.length_pos_of_mem ha
    simp only [List.length_cons]; omega
theorem list_step {l : List Int} {k : Int} {j : Nat} (h : j < l.length) : listF l k j ++ [(IntKind.i64.wrap (l.getD j 0)).tmod k] = listF l k (j + 1) := by
  unfold listF
  rw [List.take_succ_eq_append_getElem h, List.map_append, show l.getD j 0 = l[j] by simp [List.getD, List.getElem?_eq_getElem h]]
  rfl
theorem peers_step {a j : Nat} : peersF a (j + 1) = peersF a j ++ if (!decide ((j : Int) = (a : Int))) = true then [(j : Int)] else [] := by
  unfold peersF
  rw [List.range_succ, List.filter_append, List.map_append]
  by_cases h : j = a
  · subst h; simp
  · have : ¬ (j : Int) = (a : Int) := by omega
    simp [h, this]
theorem peers_len {a j : Nat} : (peersF a j).length ≤ j := by
  unfold peersF
  rw [List.length_map]
  have := List.length_filter_le (fun x => !decide (x = a)) (List.range j)
  simpa using this
theorem list_len {l : List Int} {k : Int} {j : Nat} : (listF l k j).length ≤ j := by
  unfold listF
  rw [List.length_map]
  exact List.length_take_le _ _
theorem size45 : Try.prog.types[(45 : Nat)].size = 2 := by kernel_rfl
theorem bytes9 : Try.prog.types[(9 : Nat)].bytes = 16 := by kernel_rfl
theorem strs_nm {k : Nat} (h : k ≤ 8) : strsOf (.recs 1 k (strCell (nmF k))) = nmF k := by
  have := strsOf_strs (nmF k)
  rwa [nm_len h] at this
theorem as_nm {k : Nat} (h : k ≤ 8) : asStrs (.recs 1 k (strCell (nmF k))) (nmF k) := by
  have := asStrs_self (nmF k)
  rwa [nm_len h] at this
theorem rts_one (r : ByteArray) (l : List Int) : rtsOf (.recs 2 1 fun i j => [D.v (Value.string r), D.ints IntKind.i64 l].getD (i * 2 + j) (D.v undef)) = [⟨r, l⟩] := rfl
theorem as_rts (r : ByteArray) (l : List Int) : asRts (.recs 2 1 fun i j => [D.v (Value.string r), D.ints IntKind.i64 l].getD (i * 2 + j) (D.v undef)) [⟨r, l⟩] :=
  ⟨rfl, reads_recs fun i hi j hj => by
    obtain rfl : i = 0 := by omega
    match j, hj with
    | 0, _ => rfl
    | 1, _ => rfl⟩
theorem req_no (r : ByteArray) (b : List ByteArray) : reqF r ⟨#[]⟩ b = reqAvp 283 r :: b.map (reqAvp 282) := by
  rw [reqF, if_pos (show (⟨#[]⟩ : ByteArray) = noStr from rfl)]; rfl
theorem find_no (r : ByteArray) (b : List ByteArray) : (findF (reqF r ⟨#[]⟩ b) 293).2 = false := by
  have : (reqF r ⟨#[]⟩ b).find? (isAvp 293) = none := by
    rw [List.find?_eq_none, req_no]
    intro x hx
    rcases List.mem_cons.1 hx with rfl | hx
    · simp [isAvp, reqAvp]
    · obtain ⟨s, _, rfl⟩ := List.mem_map.1 hx
      simp [isAvp, reqAvp]
  rw [findF, this]
theorem bstr_bytes (s : ByteArray) : bstr (bytesOf s) = s := by
  cases s with
  | mk d => simp [bstr, bytesOf, Function.comp_def]
theorem pass_no {r : ByteArray} {b : List ByteArray} {s : ByteArray} (h : passF (reqF r ⟨#[]⟩ b) s = false) : s ∉ b := by
  intro hs
  unfold passF at h
  rw [List.any_eq_false] at h
  have := h (reqAvp 282 s) (by rw [req_no]; exact List.mem_cons_of_mem _ (List.mem_map_of_mem hs))
  simp [isAvp, reqAvp, bstr_bytes] at this
theorem peers_mem {a k : Nat} {x : Int} (h : x ∈ peersF a k) : 0 ≤ x ∧ x < k ∧ x ≠ a := by
  unfold peersF at h
  obtain ⟨y, hy, rfl⟩ := List.mem_map.1 h
  rw [List.mem_filter, List.mem_range] at hy
  have h2 : ¬ y = a := by simpa using hy.2
  omega
theorem nm_small : ∀ s, s ∈ eight → s.size ≤ 1048576 := by decide +kernel
set_option maxHeartbeats 4000000 in
theorem vc18o : ∀ (r h : ByteArray) (b : List ByteArray), small b.length → True ∧ ((!decide (h.data.toList = (ByteArray.mk #[]).data.toList)) = true → True ∧ (80 : Nat) ≤ (140737488355328 : Nat) ∧
  ∃ (g0 : Nat), g0 ≤ b.length ∧ (0 : Int) = (↑g0 : Int) ∧ SV.b true = SV.b true ∧ SV.b false = SV.b false ∧ SV.b false = SV.b false ∧ SV.b false = SV.b false ∧
  SV.c (Value.int IntKind.u32 (9300 : Int)) = SV.c (Value.int IntKind.u32 (9300 : Int)) ∧ SV.c (Value.int IntKind.u32 (0 : Int)) = SV.c (Value.int IntKind.u32 (0 : Int)) ∧
  SV.c (Value.int IntKind.u32 (0 : Int)) = SV.c (Value.int IntKind.u32 (0 : Int)) ∧ SV.c (Value.int IntKind.u32 (0 : Int)) = SV.c (Value.int IntKind.u32 (0 : Int)) ∧
  ((2 : Nat) = (reqF r h (List.take g0 b)).length ∧ ∀ (i : Nat), i < (2 : Nat) → ∀ (j : Nat), j < Try.prog.types[(41 : Nat)].size → (bif i.blt (1 : Nat) then [D.v (Value.int IntKind.u32 (283 : Int)), D.v (Value.int IntKind.u32 (0 : Int)), D.v (Value.bool false), D.v (Value.bool false), D.ints IntKind.u8 (List.map (fun (b : UInt8) => (↑b.toNat : Int)) r.data.toList)].getD (i * Try.prog.types[(41 : Nat)].size + j) (D.v undef) else [D.v (Value.int IntKind.u32 (293 : Int)), D.v (Value.int IntKind.u32 (0 : Int)), D.v (Value.bool false), D.v (Value.bool false), D.ints IntKind.u8 (List.map (fun (b : UInt8) => (↑b.toNat : Int)) h.data.toList)].getD ((i - (1 : Nat)) * Try.prog.types[(41 : Nat)].size + j) (D.v undef)) = avpCell (reqF r h (List.take g0 b)) i j) ∧
  (!(Nat.beq (7 : Nat) (4 : Nat) || false) && (!false && true) && true) = true ∧ ∀ (g : Nat), g ≤ b.length → True ∧ (decide ((↑g : Int) < (↑b.length : Int)) = true →
  ((0 : Int) ≤ (↑g : Int) ∧ (↑g : Int) < (↑b.length : Int)) ∧ (((True ∧ ((reqF r h (List.take g b)).length + (1 : Nat)) * Try.prog.types[(41 : Nat)].bytes ≤ (140737488355328 : Nat) ∧
  (True ∧ ∃ (g' : Nat), g' ≤ b.length ∧ b.length - g' < b.length - g ∧ (IntKind.i64.wrap ((↑g : Int) + (1 : Int)) = (↑g' : Int) ∧ SV.b true = SV.b true ∧
  SV.b false = SV.b false ∧ SV.b false = SV.b false ∧ SV.b false = SV.b false ∧ SV.c (Value.int IntKind.u32 (9300 : Int)) = SV.c (Value.int IntKind.u32 (9300 : Int)) ∧
  SV.c (Value.int IntKind.u32 (0 : Int)) = SV.c (Value.int IntKind.u32 (0 : Int)) ∧ SV.c (Value.int IntKind.u32 (0 : Int)) = SV.c (Value.int IntKind.u32 (0 : Int)) ∧
  SV.c (Value.int IntKind.u32 (0 : Int)) = SV.c (Value.int IntKind.u32 (0 : Int)) ∧ ((reqF r h (List.take g b)).length + (1 : Nat) = (reqF r h (List.take g' b)).length ∧
  ∀ (i : Nat), i < (reqF r h (List.take g b)).length + (1 : Nat) → ∀ (j : Nat), j < (5 : Nat) → (bif i.blt (reqF r h (List.take g b)).length then avpCell (reqF r h (List.take g b)) i j else [D.v (Value.int IntKind.u32 (282 : Int)), D.v (Value.int IntKind.u32 (0 : Int)), D.v (Value.bool false), D.v (Value.bool false), D.ints IntKind.u8 (List.map (fun (b : UInt8) => (↑b.toNat : Int)) (b.getD (↑g : Int).toNat noStr).data.toList)].getD ((i - (reqF r h (List.take g b)).length) * Try.prog.types[(41 : Nat)].size + j) (D.v undef)) = avpCell (reqF r h (List.take g' b)) i j) ∧
  (!(Nat.beq (11 : Nat) (4 : Nat) || false) && (!false && true) && true && ((Nat.ble (8 : Nat) (4 : Nat) || (Nat.beq (4 : Nat) (4 : Nat) || (Nat.beq (7 : Nat) (4 : Nat) || false))) && ((Nat.ble (8 : Nat) (11 : Nat) || (Nat.beq (4 : Nat) (11 : Nat) || (Nat.beq (7 : Nat) (11 : Nat) || false))) && true))) = true) ∧
  (some (SV.p (4 : Nat) (8 : Nat)) = some (SV.p (4 : Nat) (8 : Nat)) ∧ some (SV.a (7 : Nat)) = some (SV.a (7 : Nat)) ∧ some (SV.a (6 : Nat)) = some (SV.a (6 : Nat)) ∧
  some (SV.agg [SV.c (Value.int IntKind.u32 (293 : Int)), SV.c (Value.int IntKind.u32 (0 : Int)), SV.b false, SV.b false, SV.a (5 : Nat)]) = some (SV.agg [SV.c (Value.int IntKind.u32 (293 : Int)), SV.c (Value.int IntKind.u32 (0 : Int)), SV.b false, SV.b false, SV.a (5 : Nat)]) ∧
  some (SV.a (5 : Nat)) = some (SV.a (5 : Nat)) ∧ some (SV.c (Value.string h)) = some (SV.c (Value.string h)) ∧ some (SV.a (3 : Nat)) = some (SV.a (3 : Nat)) ∧
  some (SV.p (4 : Nat) (8 : Nat)) = some (SV.p (4 : Nat) (8 : Nat)) ∧ some (SV.c (Value.bool !decide (h.data.toList = (ByteArray.mk #[]).data.toList))) = some (SV.c (Value.bool !decide (h.data.toList = (ByteArray.mk #[]).data.toList))) ∧
  some (SV.c (Value.string h)) = some (SV.c (Value.string h)) ∧ some (SV.p (4 : Nat) (0 : Nat)) = some (SV.p (4 : Nat) (0 : Nat)) ∧ some (SV.agg [SV.b true, SV.b false, SV.b false, SV.b false, SV.c (Value.int IntKind.u32 (9300 : Int)), SV.c (Value.int IntKind.u32 (0 : Int)), SV.c (Value.int IntKind.u32 (0 : Int)), SV.c (Value.int IntKind.u32 (0 : Int)), SV.a (3 : Nat)]) = some (SV.agg [SV.b true, SV.b false, SV.b false, SV.b false, SV.c (Value.int IntKind.u32 (9300 : Int)), SV.c (Value.int IntKind.u32 (0 : Int)), SV.c (Value.int IntKind.u32 (0 : Int)), SV.c (Value.int IntKind.u32 (0 : Int)), SV.a (3 : Nat)]) ∧
  some (SV.a (3 : Nat)) = some (SV.a (3 : Nat)) ∧ some (SV.agg [SV.c (Value.int IntKind.u32 (283 : Int)), SV.c (Value.int IntKind.u32 (0 : Int)), SV.b false, SV.b false, SV.a (2 : Nat)]) = some (SV.agg [SV.c (Value.int IntKind.u32 (283 : Int)), SV.c (Value.int IntKind.u32 (0 : Int)), SV.b false, SV.b false, SV.a (2 : Nat)]) ∧
  some (SV.a (2 : Nat)) = some (SV.a (2 : Nat)) ∧ some (SV.c (Value.string r)) = some (SV.c (Value.string r)) ∧ some (SV.p (1 : Nat) (0 : Nat)) = some (SV.p (1 : Nat) (0 : Nat)) ∧
  some (SV.c (Value.string r)) = some (SV.c (Value.string r)) ∧ some (SV.c (Value.string h)) = some (SV.c (Value.string h)) ∧ some (SV.a (0 : Nat)) = some (SV.a (0 : Nat)) ∧
  True) ∧ some R.dead = some R.dead ∧ some (R.own (41 : Nat) (D.recs Try.prog.types[(41 : Nat)].size (1 : Nat) fun (i j : Nat) => [D.v (Value.int IntKind.u32 (293 : Int)), D.v (Value.int IntKind.u32 (0 : Int)), D.v (Value.bool false), D.v (Value.bool false), D.ints IntKind.u8 (List.map (fun (b : UInt8) => (↑b.toNat : Int)) h.data.toList)].getD (i * Try.prog.types[(41 : Nat)].size + j) (D.v undef))) = some (R.own (41 : Nat) (D.recs Try.prog.types[(41 : Nat)].size (1 : Nat) fun (i j : Nat) => [D.v (Value.int IntKind.u32 (293 : Int)), D.v (Value.int IntKind.u32 (0 : Int)), D.v (Value.bool false), D.v (Value.bool false), D.ints IntKind.u8 (List.map (fun (b : UInt8) => (↑b.toNat : Int)) h.data.toList)].getD (i * Try.prog.types[(41 : Nat)].size + j) (D.v undef))) ∧
  some (R.ro (D.ints IntKind.u8 (List.map (fun (b : UInt8) => (↑b.toNat : Int)) h.data.toList))) = some (R.ro (D.ints IntKind.u8 (List.map (fun (b : UInt8) => (↑b.toNat : Int)) h.data.toList))) ∧
  some (R.ro (D.ints IntKind.u8 (List.map (fun (b : UInt8) => (↑b.toNat : Int)) r.data.toList))) = some (R.ro (D.ints IntKind.u8 (List.map (fun (b : UInt8) => (↑b.toNat : Int)) r.data.toList))) ∧
  some (R.blk (30 : Nat) [SV.b false, SV.b false, SV.b false, SV.b false, SV.c (Value.int IntKind.u32 (0 : Int)), SV.c (Value.int IntKind.u32 (0 : Int)), SV.c (Value.int IntKind.u32 (0 : Int)), SV.c (Value.int IntKind.u32 (0 : Int)), SV.nil]) = some (R.blk (30 : Nat) [SV.b false, SV.b false, SV.b false, SV.b false, SV.c (Value.int IntKind.u32 (0 : Int)), SV.c (Value.int IntKind.u32 (0 : Int)), SV.c (Value.int IntKind.u32 (0 : Int)), SV.c (Value.int IntKind.u32 (0 : Int)), SV.nil]) ∧
  some (R.own (9 : Nat) (D.recs (1 : Nat) b.length (strCell b))) = some (R.own (9 : Nat) (D.recs (1 : Nat) b.length (strCell b))) ∧ True) ∧ True) ∧ True) ∧
  True) ∧ True) ∧ (decide ((↑g : Int) < (↑b.length : Int)) = false → (b.length = b.length ∧ ∀ (i : Nat), i < b.length → ∀ (j : Nat), j < (1 : Nat) → strCell b i j = strCell b i j) ∧
  true = true ∧ false = false ∧ false = false ∧ false = false ∧ (9300 : Int) = (9300 : Int) ∧ (0 : Int) = (0 : Int) ∧ (0 : Int) = (0 : Int) ∧ (0 : Int) = (0 : Int) ∧
  ((reqF r h (List.take g b)).length = (reqF (vs (D.v (Value.string r))) (vs (D.v (Value.string h))) (strsOf (D.recs (1 : Nat) b.length (strCell b)))).length ∧
  ∀ (i : Nat), i < (reqF r h (List.take g b)).length → ∀ (j : Nat), j < (5 : Nat) → avpCell (reqF r h (List.take g b)) i j = avpCell (reqF (vs (D.v (Value.string r))) (vs (D.v (Value.string h))) (strsOf (D.recs (1 : Nat) b.length (strCell b)))) i j) ∧
  (!(Nat.beq (8 : Nat) (0 : Nat) || false) && (!false && true) && true) = true)) ∧ ((!decide (h.data.toList = (ByteArray.mk #[]).data.toList)) = false → ∃ (g0 : Nat), g0 ≤ b.length ∧
  (0 : Int) = (↑g0 : Int) ∧ SV.b true = SV.b true ∧ SV.b false = SV.b false ∧ SV.b false = SV.b false ∧ SV.b false = SV.b false ∧ SV.c (Value.int IntKind.u32 (9300 : Int)) = SV.c (Value.int IntKind.u32 (9300 : Int)) ∧
  SV.c (Value.int IntKind.u32 (0 : Int)) = SV.c (Value.int IntKind.u32 (0 : Int)) ∧ SV.c (Value.int IntKind.u32 (0 : Int)) = SV.c (Value.int IntKind.u32 (0 : Int)) ∧
  SV.c (Value.int IntKind.u32 (0 : Int)) = SV.c (Value.int IntKind.u32 (0 : Int)) ∧ ((1 : Nat) = (reqF r h (List.take g0 b)).length ∧ ∀ (i : Nat), i < (1 : Nat) →
  ∀ (j : Nat), j < Try.prog.types[(41 : Nat)].size → [D.v (Value.int IntKind.u32 (283 : Int)), D.v (Value.int IntKind.u32 (0 : Int)), D.v (Value.bool false), D.v (Value.bool false), D.ints IntKind.u8 (List.map (fun (b : UInt8) => (↑b.toNat : Int)) r.data.toList)].getD (i * Try.prog.types[(41 : Nat)].size + j) (D.v undef) = avpCell (reqF r h (List.take g0 b)) i j) ∧
  (!(Nat.beq (3 : Nat) (4 : Nat) || false) && (!false && true) && true) = true ∧ ∀ (g : Nat), g ≤ b.length → True ∧ (decide ((↑g : Int) < (↑b.length : Int)) = true →
  ((0 : Int) ≤ (↑g : Int) ∧ (↑g : Int) < (↑b.length : Int)) ∧ (((True ∧ ((reqF r h (List.take g b)).length + (1 : Nat)) * Try.prog.types[(41 : Nat)].bytes ≤ (140737488355328 : Nat) ∧
  (True ∧ ∃ (g' : Nat), g' ≤ b.length ∧ b.length - g' < b.length - g ∧ (IntKind.i64.wrap ((↑g : Int) + (1 : Int)) = (↑g' : Int) ∧ SV.b true = SV.b true ∧
  SV.b false = SV.b false ∧ SV.b false = SV.b false ∧ SV.b false = SV.b false ∧ SV.c (Value.int IntKind.u32 (9300 : Int)) = SV.c (Value.int IntKind.u32 (9300 : Int)) ∧
  SV.c (Value.int IntKind.u32 (0 : Int)) = SV.c (Value.int IntKind.u32 (0 : Int)) ∧ SV.c (Value.int IntKind.u32 (0 : Int)) = SV.c (Value.int IntKind.u32 (0 : Int)) ∧
  SV.c (Value.int IntKind.u32 (0 : Int)) = SV.c (Value.int IntKind.u32 (0 : Int)) ∧ ((reqF r h (List.take g b)).length + (1 : Nat) = (reqF r h (List.take g' b)).length ∧
  ∀ (i : Nat), i < (reqF r h (List.take g b)).length + (1 : Nat) → ∀ (j : Nat), j < (5 : Nat) → (bif i.blt (reqF r h (List.take g b)).length then avpCell (reqF r h (List.take g b)) i j else [D.v (Value.int IntKind.u32 (282 : Int)), D.v (Value.int IntKind.u32 (0 : Int)), D.v (Value.bool false), D.v (Value.bool false), D.ints IntKind.u8 (List.map (fun (b : UInt8) => (↑b.toNat : Int)) (b.getD (↑g : Int).toNat noStr).data.toList)].getD ((i - (reqF r h (List.take g b)).length) * Try.prog.types[(41 : Nat)].size + j) (D.v undef)) = avpCell (reqF r h (List.take g' b)) i j) ∧
  (!(Nat.beq (8 : Nat) (4 : Nat) || false) && (!false && true) && true && ((Nat.ble (5 : Nat) (4 : Nat) || (Nat.beq (4 : Nat) (4 : Nat) || (Nat.beq (3 : Nat) (4 : Nat) || false))) && ((Nat.ble (5 : Nat) (8 : Nat) || (Nat.beq (4 : Nat) (8 : Nat) || (Nat.beq (3 : Nat) (8 : Nat) || false))) && true))) = true) ∧
  (some (SV.c (Value.bool !decide (h.data.toList = (ByteArray.mk #[]).data.toList))) = some (SV.c (Value.bool !decide (h.data.toList = (ByteArray.mk #[]).data.toList))) ∧
  some (SV.c (Value.string h)) = some (SV.c (Value.string h)) ∧ some (SV.p (4 : Nat) (0 : Nat)) = some (SV.p (4 : Nat) (0 : Nat)) ∧ some (SV.agg [SV.b true, SV.b false, SV.b false, SV.b false, SV.c (Value.int IntKind.u32 (9300 : Int)), SV.c (Value.int IntKind.u32 (0 : Int)), SV.c (Value.int IntKind.u32 (0 : Int)), SV.c (Value.int IntKind.u32 (0 : Int)), SV.a (3 : Nat)]) = some (SV.agg [SV.b true, SV.b false, SV.b false, SV.b false, SV.c (Value.int IntKind.u32 (9300 : Int)), SV.c (Value.int IntKind.u32 (0 : Int)), SV.c (Value.int IntKind.u32 (0 : Int)), SV.c (Value.int IntKind.u32 (0 : Int)), SV.a (3 : Nat)]) ∧
  some (SV.a (3 : Nat)) = some (SV.a (3 : Nat)) ∧ some (SV.agg [SV.c (Value.int IntKind.u32 (283 : Int)), SV.c (Value.int IntKind.u32 (0 : Int)), SV.b false, SV.b false, SV.a (2 : Nat)]) = some (SV.agg [SV.c (Value.int IntKind.u32 (283 : Int)), SV.c (Value.int IntKind.u32 (0 : Int)), SV.b false, SV.b false, SV.a (2 : Nat)]) ∧
  some (SV.a (2 : Nat)) = some (SV.a (2 : Nat)) ∧ some (SV.c (Value.string r)) = some (SV.c (Value.string r)) ∧ some (SV.p (1 : Nat) (0 : Nat)) = some (SV.p (1 : Nat) (0 : Nat)) ∧
  some (SV.c (Value.string r)) = some (SV.c (Value.string r)) ∧ some (SV.c (Value.string h)) = some (SV.c (Value.string h)) ∧ some (SV.a (0 : Nat)) = some (SV.a (0 : Nat)) ∧
  True) ∧ some (R.ro (D.ints IntKind.u8 (List.map (fun (b : UInt8) => (↑b.toNat : Int)) r.data.toList))) = some (R.ro (D.ints IntKind.u8 (List.map (fun (b : UInt8) => (↑b.toNat : Int)) r.data.toList))) ∧
  some (R.blk (30 : Nat) [SV.b false, SV.b false, SV.b false, SV.b false, SV.c (Value.int IntKind.u32 (0 : Int)), SV.c (Value.int IntKind.u32 (0 : Int)), SV.c (Value.int IntKind.u32 (0 : Int)), SV.c (Value.int IntKind.u32 (0 : Int)), SV.nil]) = some (R.blk (30 : Nat) [SV.b false, SV.b false, SV.b false, SV.b false, SV.c (Value.int IntKind.u32 (0 : Int)), SV.c (Value.int IntKind.u32 (0 : Int)), SV.c (Value.int IntKind.u32 (0 : Int)), SV.c (Value.int IntKind.u32 (0 : Int)), SV.nil]) ∧
  some (R.own (9 : Nat) (D.recs (1 : Nat) b.length (strCell b))) = some (R.own (9 : Nat) (D.recs (1 : Nat) b.length (strCell b))) ∧ True) ∧ True) ∧ True) ∧
  True) ∧ True) ∧ (decide ((↑g : Int) < (↑b.length : Int)) = false → (b.length = b.length ∧ ∀ (i : Nat), i < b.length → ∀ (j : Nat), j < (1 : Nat) → strCell b i j = strCell b i j) ∧
  true = true ∧ false = false ∧ false = false ∧ false = false ∧ (9300 : Int) = (9300 : Int) ∧ (0 : Int) = (0 : Int) ∧ (0 : Int) = (0 : Int) ∧ (0 : Int) = (0 : Int) ∧
  ((reqF r h (List.take g b)).length = (reqF (vs (D.v (Value.string r))) (vs (D.v (Value.string h))) (strsOf (D.recs (1 : Nat) b.length (strCell b)))).length ∧
  ∀ (i : Nat), i < (reqF r h (List.take g b)).length → ∀ (j : Nat), j < (5 : Nat) → avpCell (reqF r h (List.take g b)) i j = avpCell (reqF (vs (D.v (Value.string r))) (vs (D.v (Value.string h))) (strsOf (D.recs (1 : Nat) b.length (strCell b)))) i j) ∧
  (!(Nat.beq (5 : Nat) (0 : Nat) || false) && (!false && true) && true) = true)) := by
  simp only [true_and, and_true, implies_true, Bool.and_self, Bool.not_false, Int.toNat_natCast, vs, List.getD_cons_succ, List.getD_cons_zero, strsOf_strs, at_, dO, size41, bytes41]
  intro r h b hb
  unfold small at hb
  refine ⟨fun e => ⟨by omega, 0, Nat.zero_le _, rfl, ⟨?_, fun i hi j hj => ?_⟩, rfl, ?_⟩, fun e => ⟨0, Nat.zero_le _, rfl, ⟨?_, fun i hi j hj => ?_⟩, rfl, ?_⟩⟩
  · have hne : ¬ h = noStr := by rw [← noStr_iff]; simpa using e
    rw [reqF, if_neg hne]; rfl
  · have hne : ¬ h = noStr := by rw [← noStr_iff]; simpa using e
    have he : reqF r h (b.take 0) = [reqAvp 283 r] ++ [reqAvp 293 h] := by rw [reqF, if_neg hne]; rfl
    rw [he, ← app_cell [reqAvp 283 r] (reqAvp 293 h) hi hj]
    by_cases h0 : i = 0
    · subst h0
      simp only [Nat.zero_mul, Nat.zero_add]
      exact cell_of (a := reqAvp 283 r) (l := [reqAvp 283 r]) (i := 0) rfl hj
    · have h1 : i = 1 := by omega
      subst h1; rfl
  · rintro g hg
    refine ⟨fun hc => ?_, fun hc => ?_⟩
    · have hlt : g < b.length := by have := of_decide_eq_true hc; omega
      have hl := reqF_len r h (b.take g)
      have hl2 : (b.take g).length ≤ b.length := by rw [List.length_take]; omega
      refine ⟨by omega, by omega, g + 1, hlt, by omega, wrap_nat (by omega), ⟨?_, fun i hi j hj => ?_⟩, rfl⟩
      · rw [reqF_succ r h b hlt, List.length_append]; rfl
      · rw [reqF_succ r h b hlt]
        exact app_cell _ (reqAvp 282 (b.getD g noStr)) hi hj
    · have e : b.take g = b := List.take_of_length_le (by have := of_decide_eq_false hc; omega)
      rw [e]
      exact ⟨⟨rfl, fun _ _ _ _ => rfl⟩, by first | rfl | exact ⟨rfl, fun _ _ _ _ => rfl⟩⟩
  · have hne : h = noStr := by rw [← noStr_iff]; simpa using e
    rw [reqF, if_pos hne]; rfl
  · have hne : h = noStr := by rw [← noStr_iff]; simpa using e
    have he : reqF r h (b.take 0) = [reqAvp 283 r] := by rw [reqF, if_pos hne]; rfl
    rw [he]
    have h0 : i = 0 := by omega
    subst h0
    rw [Nat.zero_mul, Nat.zero_add]
    exact cell_of (a := reqAvp 283 r) (l := [reqAvp 283 r]) (i := 0) rfl hj
  · rintro g hg
    refine ⟨fun hc => ?_, fun hc => ?_⟩
    · have hlt : g < b.length := by have := of_decide_eq_true hc; omega
      have hl := reqF_len r h (b.take g)
      have hl2 : (b.take g).length ≤ b.length := by rw [List.length_take]; omega
      refine ⟨by omega, by omega, g + 1, hlt, by omega, wrap_nat (by omega), ⟨?_, fun i hi j hj => ?_⟩, rfl⟩
      · rw [reqF_succ r h b hlt, List.length_append]; rfl
      · rw [reqF_succ r h b hlt]
        exact app_cell _ (reqAvp 282 (b.getD g noStr)) hi hj
    · have e : b.take g = b := List.take_of_length_le (by have := of_decide_eq_false hc; omega)
      rw [e]
      exact ⟨⟨rfl, fun _ _ _ _ => rfl⟩, by first | rfl | exact ⟨rfl, fun _ _ _ _ => rfl⟩⟩
set_option maxRecDepth 100000 in
theorem ok18o : FnIs Try.prog 18 requestOC := by
  refine fnIs (C := ctrs b0) (by kernel_rfl) b0_ok Try.func18 (code := code18) (by kernel_rfl) (by kernel_rfl) ?_
  rintro a ⟨r, h, b, rfl, hb⟩
  exact ⟨anns [(5, reqAnn r h b)], kcast (vc18o r h b hb) (by kernel_rfl)⟩
theorem b20_ok : COk Try.prog (ctrs b20) := cok_cons ok11 (cok_cons ok13w (cok_cons ok17 (cok_cons ok18o cok_nil)))

noncomputable def code6 : Code := match Try.f6.body with | some c => c | none => .skip
set_option maxHeartbeats 4000000 in
theorem vc6 : let y := vs (D.v (Value.string (ByteArray.mk #[]))); ∀ (via : List (List Int)), let y_1 := nmF via.length; ∀ (realm : ByteArray), small via.length → (∀ (l : List Int), l ∈ via →
  small l.length) → realm.size ≤ (1048576 : Nat) → ([] : List O) = [] ∧ ((!true) = false → True ∧ (decide ((↑via.length : Int) < (1 : Int)) = false → True ∧ (decide ((8 : Int) < (↑via.length : Int)) = false →
  (∃ (l : List Int), [O.d (D.ints IntKind.u8 (List.map (fun (b : UInt8) => (↑b.toNat : Int)) realm.data.toList))] = [O.d (D.ints IntKind.u8 l)] ∧ small l.length) ∧
  ((!okName (vl (D.ints IntKind.u8 (List.map (fun (b : UInt8) => (↑b.toNat : Int)) realm.data.toList)))) = true → ([] : List O) = [] ∧ true = true ∧ (true && true) = true) ∧
  ((!okName (vl (D.ints IntKind.u8 (List.map (fun (b : UInt8) => (↑b.toNat : Int)) realm.data.toList)))) = false → ((0 : Int) ≤ (↑via.length : Int) ∧ (↑via.length : Int) ≤ (↑(8 : Nat) : Int)) ∧
  ((0 : Int) ≤ (↑via.length : Int) ∧ (↑via.length : Int) ≤ (↑(8 : Nat) : Int)) ∧ ∃ (g0 : EndS), (g0.a < via.length ∧ g0.by_.length = g0.i ∧ (∀ (x : ByteArray), x ∈ g0.by_ →
  x ∈ y_1) ∧ g0.by_.Nodup ∧ ¬y_1.getD g0.a noStr ∈ g0.by_) ∧ (0 : Int) = (↑g0.i : Int) ∧ (0 : Int) = (↑g0.a : Int) ∧ (-2 : Int) = g0.fr ∧ g0.by_.length = (0 : Nat) ∧
  ((↑via.length : Int).toNat = via.length ∧ ∀ (i : Nat), i < (↑via.length : Int).toNat → ∀ (j : Nat), j < Try.prog.types[(9 : Nat)].size → [D.v (Value.string (ByteArray.mk #[(110 : UInt8), (97 : UInt8)])), D.v (Value.string (ByteArray.mk #[(110 : UInt8), (98 : UInt8)])), D.v (Value.string (ByteArray.mk #[(110 : UInt8), (99 : UInt8)])), D.v (Value.string (ByteArray.mk #[(110 : UInt8), (100 : UInt8)])), D.v (Value.string (ByteArray.mk #[(110 : UInt8), (101 : UInt8)])), D.v (Value.string (ByteArray.mk #[(110 : UInt8), (102 : UInt8)])), D.v (Value.string (ByteArray.mk #[(110 : UInt8), (103 : UInt8)])), D.v (Value.string (ByteArray.mk #[(110 : UInt8), (104 : UInt8)]))].getD (i * Try.prog.types[(9 : Nat)].size + j) (D.v undef) = strCell y_1 i j) ∧
  (true && true) = true ∧ ∀ (g : EndS), let y_2 := strsOf (D.recs (1 : Nat) g.by_.length (strCell g.by_)); let y_3 := reqF (vs (D.v (Value.string realm))) y y_2;
  g.a < via.length ∧ g.by_.length = g.i ∧ (∀ (x : ByteArray), x ∈ g.by_ → x ∈ y_1) ∧ g.by_.Nodup ∧ ¬y_1.getD g.a noStr ∈ g.by_ → True ∧ (decide ((↑g.i : Int) ≤ (↑via.length : Int)) = true →
  ∃ (p : Nat), ∃ (g0_1 : Nat), (g0_1 ≤ (via.getD p []).length ∧ g0_1 ≤ (20 : Nat)) ∧ (0 : Int) = (↑g0_1 : Int) ∧ listF (via.getD p []) (↑via.length : Int) g0_1 = [] ∧
  (true && true) = true ∧ ∀ (g_1 : Nat), let y_4 := listF (via.getD p []) (↑via.length : Int) g_1; g_1 ≤ (via.getD p []).length ∧ g_1 ≤ (20 : Nat) → ((0 : Int) ≤ (↑g.a : Int) ∧
  (↑g.a : Int) < (↑via.length : Int)) ∧ True ∧ (allT [decide ((↑g_1 : Int) < (↑(via.getD (↑g.a : Int).toNat []).length : Int))] → SV.c (Value.int IntKind.i64 (↑g_1 : Int)) = SV.c (Value.int IntKind.i64 (↑g_1 : Int))) ∧
  (allT [decide ((↑g_1 : Int) < (↑(via.getD (↑g.a : Int).toNat []).length : Int))] → [decide ((↑g_1 : Int) < (↑(via.getD (↑g.a : Int).toNat []).length : Int))] = [decide ((↑g_1 : Int) < (↑(via.getD (↑g.a : Int).toNat []).length : Int))] ∧
  True ∧ SV.c (Value.bool (decide ((↑g_1 : Int) < (20 : Int)))) = SV.c (Value.bool (decide ((↑g_1 : Int) < (20 : Int))))) ∧ [decide ((↑g_1 : Int) < (↑(via.getD (↑g.a : Int).toNat []).length : Int))] = [decide ((↑g_1 : Int) < (↑(via.getD (↑g.a : Int).toNat []).length : Int))] ∧
  ((decide ((↑g_1 : Int) < (↑(via.getD (↑g.a : Int).toNat []).length : Int)) && decide ((↑g_1 : Int) < (20 : Int))) = true → ((0 : Int) ≤ (↑g.a : Int) ∧ (↑g.a : Int) < (↑via.length : Int)) ∧
  ((0 : Int) ≤ (↑g_1 : Int) ∧ (↑g_1 : Int) < (↑(via.getD (↑g.a : Int).toNat []).length : Int)) ∧ (↑via.length : Int) ≠ (0 : Int) ∧ True ∧ (y_4.length + (1 : Nat)) * Try.prog.types[(3 : Nat)].bytes ≤ (140737488355328 : Nat) ∧
  True ∧ ∃ (g' : Nat), (g' ≤ (via.getD p []).length ∧ g' ≤ (20 : Nat)) ∧ (20 : Nat) - g' < (20 : Nat) - g_1 ∧ (IntKind.i64.wrap ((↑g_1 : Int) + (1 : Int)) = (↑g' : Int) ∧
  y_4 ++ [(IntKind.i64.wrap ((via.getD (↑g.a : Int).toNat []).getD (↑g_1 : Int).toNat (0 : Int))).tmod (↑via.length : Int)] = listF (via.getD p []) (↑via.length : Int) g' ∧
  (!false && true && true && ((Nat.ble (8 : Nat) (12 : Nat) || false) && true)) = true) ∧ (some (SV.c (Value.bool (decide ((↑g.i : Int) ≤ (↑via.length : Int))))) = some (SV.c (Value.bool (decide ((↑g.i : Int) ≤ (↑via.length : Int))))) ∧
  some (SV.c (Value.int IntKind.i64 (↑via.length : Int))) = some (SV.c (Value.int IntKind.i64 (↑via.length : Int))) ∧ some (SV.c (Value.int IntKind.i64 (↑g.i : Int))) = some (SV.c (Value.int IntKind.i64 (↑g.i : Int))) ∧
  some (SV.c (Value.int IntKind.i64 (↑g.i : Int))) = some (SV.c (Value.int IntKind.i64 (↑g.i : Int))) ∧ some (SV.c (Value.int IntKind.i64 (↑g.a : Int))) = some (SV.c (Value.int IntKind.i64 (↑g.a : Int))) ∧
  some (SV.c (Value.int IntKind.i64 g.fr)) = some (SV.c (Value.int IntKind.i64 g.fr)) ∧ some (SV.a (6 : Nat)) = some (SV.a (6 : Nat)) ∧ some (SV.a (7 : Nat)) = some (SV.a (7 : Nat)) ∧
  some (SV.a (5 : Nat)) = some (SV.a (5 : Nat)) ∧ some (SV.a (5 : Nat)) = some (SV.a (5 : Nat)) ∧ some (SV.c (Value.int IntKind.i64 (↑via.length : Int))) = some (SV.c (Value.int IntKind.i64 (↑via.length : Int))) ∧
  some (SV.a (4 : Nat)) = some (SV.a (4 : Nat)) ∧ some (SV.a (3 : Nat)) = some (SV.a (3 : Nat)) ∧ some (SV.c (Value.int IntKind.i64 (↑via.length : Int))) = some (SV.c (Value.int IntKind.i64 (↑via.length : Int))) ∧
  some (SV.a (2 : Nat)) = some (SV.a (2 : Nat)) ∧ some (SV.c (Value.bool !okName (vl (D.ints IntKind.u8 (List.map (fun (b : UInt8) => (↑b.toNat : Int)) realm.data.toList))))) = some (SV.c (Value.bool !okName (vl (D.ints IntKind.u8 (List.map (fun (b : UInt8) => (↑b.toNat : Int)) realm.data.toList))))) ∧
  some (SV.c (Value.bool !okName (vl (D.ints IntKind.u8 (List.map (fun (b : UInt8) => (↑b.toNat : Int)) realm.data.toList))))) = some (SV.c (Value.bool !okName (vl (D.ints IntKind.u8 (List.map (fun (b : UInt8) => (↑b.toNat : Int)) realm.data.toList))))) ∧
  some (SV.c (Value.bool (okName (vl (D.ints IntKind.u8 (List.map (fun (b : UInt8) => (↑b.toNat : Int)) realm.data.toList)))))) = some (SV.c (Value.bool (okName (vl (D.ints IntKind.u8 (List.map (fun (b : UInt8) => (↑b.toNat : Int)) realm.data.toList)))))) ∧
  some (SV.a (1 : Nat)) = some (SV.a (1 : Nat)) ∧ some (SV.c (Value.string realm)) = some (SV.c (Value.string realm)) ∧ some (SV.b false) = some (SV.b false) ∧
  some (SV.c (Value.bool (decide ((8 : Int) < (↑via.length : Int))))) = some (SV.c (Value.bool (decide ((8 : Int) < (↑via.length : Int))))) ∧ some (SV.c (Value.bool (decide ((8 : Int) < (↑via.length : Int))))) = some (SV.c (Value.bool (decide ((8 : Int) < (↑via.length : Int))))) ∧
  some (SV.c (Value.int IntKind.i64 (↑via.length : Int))) = some (SV.c (Value.int IntKind.i64 (↑via.length : Int))) ∧ some (SV.b false) = some (SV.b false) ∧
  some (SV.c (Value.bool (decide ((↑via.length : Int) < (1 : Int))))) = some (SV.c (Value.bool (decide ((↑via.length : Int) < (1 : Int))))) ∧ some (SV.c (Value.bool (decide ((↑via.length : Int) < (1 : Int))))) = some (SV.c (Value.bool (decide ((↑via.length : Int) < (1 : Int))))) ∧
  some (SV.c (Value.int IntKind.i64 (↑via.length : Int))) = some (SV.c (Value.int IntKind.i64 (↑via.length : Int))) ∧ some (SV.b false) = some (SV.b false) ∧
  some (SV.c (Value.bool !true)) = some (SV.c (Value.bool !true)) ∧ some (SV.c (Value.bool true)) = some (SV.c (Value.bool true)) ∧ some (SV.c (Value.int IntKind.i64 (↑via.length : Int))) = some (SV.c (Value.int IntKind.i64 (↑via.length : Int))) ∧
  some (SV.c (Value.int IntKind.i64 (↑via.length : Int))) = some (SV.c (Value.int IntKind.i64 (↑via.length : Int))) ∧ some (SV.a (0 : Nat)) = some (SV.a (0 : Nat)) ∧
  some (SV.a (0 : Nat)) = some (SV.a (0 : Nat)) ∧ some (SV.c (Value.string realm)) = some (SV.c (Value.string realm)) ∧ True) ∧ some (R.ro (D.recs (1 : Nat) via.length (strCell y_1))) = some (R.ro (D.recs (1 : Nat) via.length (strCell y_1))) ∧
  some (R.own (9 : Nat) (D.recs (1 : Nat) g.by_.length (strCell g.by_))) = some (R.own (9 : Nat) (D.recs (1 : Nat) g.by_.length (strCell g.by_))) ∧ some (R.ro (D.ints IntKind.i64 (List.take (↑via.length : Int).toNat [(0 : Int), (1 : Int), (2 : Int), (3 : Int), (4 : Int), (5 : Int), (6 : Int), (7 : Int)]))) = some (R.ro (D.ints IntKind.i64 (List.take (↑via.length : Int).toNat [(0 : Int), (1 : Int), (2 : Int), (3 : Int), (4 : Int), (5 : Int), (6 : Int), (7 : Int)]))) ∧
  some (R.ro (D.ints IntKind.i64 [(0 : Int), (1 : Int), (2 : Int), (3 : Int), (4 : Int), (5 : Int), (6 : Int), (7 : Int)])) = some (R.ro (D.ints IntKind.i64 [(0 : Int), (1 : Int), (2 : Int), (3 : Int), (4 : Int), (5 : Int), (6 : Int), (7 : Int)])) ∧
  some (R.ro (D.recs Try.prog.types[(9 : Nat)].size (↑via.length : Int).toNat fun (i j : Nat) => [D.v (Value.string (ByteArray.mk #[(110 : UInt8), (97 : UInt8)])), D.v (Value.string (ByteArray.mk #[(110 : UInt8), (98 : UInt8)])), D.v (Value.string (ByteArray.mk #[(110 : UInt8), (99 : UInt8)])), D.v (Value.string (ByteArray.mk #[(110 : UInt8), (100 : UInt8)])), D.v (Value.string (ByteArray.mk #[(110 : UInt8), (101 : UInt8)])), D.v (Value.string (ByteArray.mk #[(110 : UInt8), (102 : UInt8)])), D.v (Value.string (ByteArray.mk #[(110 : UInt8), (103 : UInt8)])), D.v (Value.string (ByteArray.mk #[(110 : UInt8), (104 : UInt8)]))].getD (i * Try.prog.types[(9 : Nat)].size + j) (D.v undef))) = some (R.ro (D.recs Try.prog.types[(9 : Nat)].size (↑via.length : Int).toNat fun (i j : Nat) => [D.v (Value.string (ByteArray.mk #[(110 : UInt8), (97 : UInt8)])), D.v (Value.string (ByteArray.mk #[(110 : UInt8), (98 : UInt8)])), D.v (Value.string (ByteArray.mk #[(110 : UInt8), (99 : UInt8)])), D.v (Value.string (ByteArray.mk #[(110 : UInt8), (100 : UInt8)])), D.v (Value.string (ByteArray.mk #[(110 : UInt8), (101 : UInt8)])), D.v (Value.string (ByteArray.mk #[(110 : UInt8), (102 : UInt8)])), D.v (Value.string (ByteArray.mk #[(110 : UInt8), (103 : UInt8)])), D.v (Value.string (ByteArray.mk #[(110 : UInt8), (104 : UInt8)]))].getD (i * Try.prog.types[(9 : Nat)].size + j) (D.v undef))) ∧
  some (R.ro (D.recs Try.prog.types[(9 : Nat)].size (8 : Nat) fun (i j : Nat) => [D.v (Value.string (ByteArray.mk #[(110 : UInt8), (97 : UInt8)])), D.v (Value.string (ByteArray.mk #[(110 : UInt8), (98 : UInt8)])), D.v (Value.string (ByteArray.mk #[(110 : UInt8), (99 : UInt8)])), D.v (Value.string (ByteArray.mk #[(110 : UInt8), (100 : UInt8)])), D.v (Value.string (ByteArray.mk #[(110 : UInt8), (101 : UInt8)])), D.v (Value.string (ByteArray.mk #[(110 : UInt8), (102 : UInt8)])), D.v (Value.string (ByteArray.mk #[(110 : UInt8), (103 : UInt8)])), D.v (Value.string (ByteArray.mk #[(110 : UInt8), (104 : UInt8)]))].getD (i * Try.prog.types[(9 : Nat)].size + j) (D.v undef))) = some (R.ro (D.recs Try.prog.types[(9 : Nat)].size (8 : Nat) fun (i j : Nat) => [D.v (Value.string (ByteArray.mk #[(110 : UInt8), (97 : UInt8)])), D.v (Value.string (ByteArray.mk #[(110 : UInt8), (98 : UInt8)])), D.v (Value.string (ByteArray.mk #[(110 : UInt8), (99 : UInt8)])), D.v (Value.string (ByteArray.mk #[(110 : UInt8), (100 : UInt8)])), D.v (Value.string (ByteArray.mk #[(110 : UInt8), (101 : UInt8)])), D.v (Value.string (ByteArray.mk #[(110 : UInt8), (102 : UInt8)])), D.v (Value.string (ByteArray.mk #[(110 : UInt8), (103 : UInt8)])), D.v (Value.string (ByteArray.mk #[(110 : UInt8), (104 : UInt8)]))].getD (i * Try.prog.types[(9 : Nat)].size + j) (D.v undef))) ∧
  some (R.ro (D.ints IntKind.u8 (List.map (fun (b : UInt8) => (↑b.toNat : Int)) realm.data.toList))) = some (R.ro (D.ints IntKind.u8 (List.map (fun (b : UInt8) => (↑b.toNat : Int)) realm.data.toList))) ∧
  some (R.ro (D.recs (1 : Nat) via.length (viaCell via))) = some (R.ro (D.recs (1 : Nat) via.length (viaCell via))) ∧ True) ∧ ((decide ((↑g_1 : Int) < (↑(via.getD (↑g.a : Int).toNat []).length : Int)) && decide ((↑g_1 : Int) < (20 : Int))) = false →
  ∃ (p_1 : Nat), ∃ (g0_2 : Nat), g0_2 ≤ via.length ∧ (0 : Int) = (↑g0_2 : Int) ∧ peersF p_1 g0_2 = [] ∧ (true && true) = true ∧ ∀ (g_2 : Nat), let y_5 := pickA [O.agg [O.d (D.v (Value.string (y_1.getD (↑g.a : Int).toNat noStr))), O.d (D.v (Value.string (ByteArray.mk #[(120 : UInt8), (45 : UInt8)] ++ realm.extract (0 : Nat) (Int.toNat (1 : Int))))), O.d (D.v (Value.bool false)), O.d (D.ints IntKind.i64 (peersF p_1 g_2)), O.d (D.recs Try.prog.types[(45 : Nat)].size (1 : Nat) fun (i j : Nat) => [D.v (Value.string realm), D.ints IntKind.i64 y_4].getD (i * Try.prog.types[(45 : Nat)].size + j) (D.v undef))], O.d (D.recs (1 : Nat) via.length (strCell y_1)), O.d (D.ints IntKind.i64 (List.take (↑via.length : Int).toNat [(0 : Int), (1 : Int), (2 : Int), (3 : Int), (4 : Int), (5 : Int), (6 : Int), (7 : Int)])), O.agg [O.d (D.v (Value.bool true)), O.d (D.v (Value.bool false)), O.d (D.v (Value.bool false)), O.d (D.v (Value.bool false)), O.d (D.v (Value.int IntKind.u32 (9300 : Int))), O.d (D.v (Value.int IntKind.u32 (0 : Int))), O.d (D.v (Value.int IntKind.u32 (0 : Int))), O.d (D.v (Value.int IntKind.u32 (0 : Int))), O.d (D.recs (5 : Nat) y_3.length (avpCell y_3))], O.d (D.v (Value.int IntKind.i64 g.fr))];
  g_2 ≤ via.length → True ∧ (decide ((↑g_2 : Int) < (↑via.length : Int)) = true → True ∧ ((!decide ((↑g_2 : Int) = (↑g.a : Int))) = true → True ∧ ((peersF p_1 g_2).length + (1 : Nat)) * Try.prog.types[(3 : Nat)].bytes ≤ (140737488355328 : Nat) ∧
  True ∧ ∃ (g' : Nat), g' ≤ via.length ∧ via.length - g' < via.length - g_2 ∧ (IntKind.i64.wrap ((↑g_2 : Int) + (1 : Int)) = (↑g' : Int) ∧ peersF p_1 g_2 ++ [(↑g_2 : Int)] = peersF p_1 g' ∧
  (!false && true && true && ((Nat.ble (10 : Nat) (12 : Nat) || false) && true)) = true) ∧ (some (SV.c (Value.bool (decide ((↑g_1 : Int) < (↑(via.getD (↑g.a : Int).toNat []).length : Int)) && decide ((↑g_1 : Int) < (20 : Int))))) = some (SV.c (Value.bool (decide ((↑g_1 : Int) < (↑(via.getD (↑g.a : Int).toNat []).length : Int)) && decide ((↑g_1 : Int) < (20 : Int))))) ∧
  some (SV.w [decide ((↑g_1 : Int) < (↑(via.getD (↑g.a : Int).toNat []).length : Int))] (SV.c (Value.bool (decide ((↑g_1 : Int) < (20 : Int)))))) = some (SV.w [decide ((↑g_1 : Int) < (↑(via.getD (↑g.a : Int).toNat []).length : Int))] (SV.c (Value.bool (decide ((↑g_1 : Int) < (20 : Int)))))) ∧
  some (SV.w [decide ((↑g_1 : Int) < (↑(via.getD (↑g.a : Int).toNat []).length : Int))] (SV.c (Value.int IntKind.i64 (↑g_1 : Int)))) = some (SV.w [decide ((↑g_1 : Int) < (↑(via.getD (↑g.a : Int).toNat []).length : Int))] (SV.c (Value.int IntKind.i64 (↑g_1 : Int)))) ∧
  some (SV.c (Value.bool (decide ((↑g_1 : Int) < (↑(via.getD (↑g.a : Int).toNat []).length : Int))))) = some (SV.c (Value.bool (decide ((↑g_1 : Int) < (↑(via.getD (↑g.a : Int).toNat []).length : Int))))) ∧
  some (SV.c (Value.bool (decide ((↑g_1 : Int) < (↑(via.getD (↑g.a : Int).toNat []).length : Int))))) = some (SV.c (Value.bool (decide ((↑g_1 : Int) < (↑(via.getD (↑g.a : Int).toNat []).length : Int))))) ∧
  some (SV.c (Value.int IntKind.i64 (↑(via.getD (↑g.a : Int).toNat []).length : Int))) = some (SV.c (Value.int IntKind.i64 (↑(via.getD (↑g.a : Int).toNat []).length : Int))) ∧
  some (SV.a (9 : Nat)) = some (SV.a (9 : Nat)) ∧ some (SV.e (0 : Nat) Try.prog.types[(36 : Nat)].size (↑g.a : Int).toNat (0 : Nat)) = some (SV.e (0 : Nat) Try.prog.types[(36 : Nat)].size (↑g.a : Int).toNat (0 : Nat)) ∧
  some (SV.c (Value.int IntKind.i64 (↑g.a : Int))) = some (SV.c (Value.int IntKind.i64 (↑g.a : Int))) ∧ some (SV.a (0 : Nat)) = some (SV.a (0 : Nat)) ∧ some (SV.c (Value.int IntKind.i64 (↑g_1 : Int))) = some (SV.c (Value.int IntKind.i64 (↑g_1 : Int))) ∧
  some (SV.c (Value.int IntKind.i64 (↑g_1 : Int))) = some (SV.c (Value.int IntKind.i64 (↑g_1 : Int))) ∧ some (SV.a (8 : Nat)) = some (SV.a (8 : Nat)) ∧ some (SV.c (Value.bool (decide ((↑g.i : Int) ≤ (↑via.length : Int))))) = some (SV.c (Value.bool (decide ((↑g.i : Int) ≤ (↑via.length : Int))))) ∧
  some (SV.c (Value.int IntKind.i64 (↑via.length : Int))) = some (SV.c (Value.int IntKind.i64 (↑via.length : Int))) ∧ some (SV.c (Value.int IntKind.i64 (↑g.i : Int))) = some (SV.c (Value.int IntKind.i64 (↑g.i : Int))) ∧
  some (SV.c (Value.int IntKind.i64 (↑g.i : Int))) = some (SV.c (Value.int IntKind.i64 (↑g.i : Int))) ∧ some (SV.c (Value.int IntKind.i64 (↑g.a : Int))) = some (SV.c (Value.int IntKind.i64 (↑g.a : Int))) ∧
  some (SV.c (Value.int IntKind.i64 g.fr)) = some (SV.c (Value.int IntKind.i64 g.fr)) ∧ some (SV.a (6 : Nat)) = some (SV.a (6 : Nat)) ∧ some (SV.a (7 : Nat)) = some (SV.a (7 : Nat)) ∧
  some (SV.a (5 : Nat)) = some (SV.a (5 : Nat)) ∧ some (SV.a (5 : Nat)) = some (SV.a (5 : Nat)) ∧ some (SV.c (Value.int IntKind.i64 (↑via.length : Int))) = some (SV.c (Value.int IntKind.i64 (↑via.length : Int))) ∧
  some (SV.a (4 : Nat)) = some (SV.a (4 : Nat)) ∧ some (SV.a (3 : Nat)) = some (SV.a (3 : Nat)) ∧ some (SV.c (Value.int IntKind.i64 (↑via.length : Int))) = some (SV.c (Value.int IntKind.i64 (↑via.length : Int))) ∧
  some (SV.a (2 : Nat)) = some (SV.a (2 : Nat)) ∧ some (SV.c (Value.bool !okName (vl (D.ints IntKind.u8 (List.map (fun (b : UInt8) => (↑b.toNat : Int)) realm.data.toList))))) = some (SV.c (Value.bool !okName (vl (D.ints IntKind.u8 (List.map (fun (b : UInt8) => (↑b.toNat : Int)) realm.data.toList))))) ∧
  some (SV.c (Value.bool !okName (vl (D.ints IntKind.u8 (List.map (fun (b : UInt8) => (↑b.toNat : Int)) realm.data.toList))))) = some (SV.c (Value.bool !okName (vl (D.ints IntKind.u8 (List.map (fun (b : UInt8) => (↑b.toNat : Int)) realm.data.toList))))) ∧
  some (SV.c (Value.bool (okName (vl (D.ints IntKind.u8 (List.map (fun (b : UInt8) => (↑b.toNat : Int)) realm.data.toList)))))) = some (SV.c (Value.bool (okName (vl (D.ints IntKind.u8 (List.map (fun (b : UInt8) => (↑b.toNat : Int)) realm.data.toList)))))) ∧
  some (SV.a (1 : Nat)) = some (SV.a (1 : Nat)) ∧ some (SV.c (Value.string realm)) = some (SV.c (Value.string realm)) ∧ some (SV.b false) = some (SV.b false) ∧
  some (SV.c (Value.bool (decide ((8 : Int) < (↑via.length : Int))))) = some (SV.c (Value.bool (decide ((8 : Int) < (↑via.length : Int))))) ∧ some (SV.c (Value.bool (decide ((8 : Int) < (↑via.length : Int))))) = some (SV.c (Value.bool (decide ((8 : Int) < (↑via.length : Int))))) ∧
  some (SV.c (Value.int IntKind.i64 (↑via.length : Int))) = some (SV.c (Value.int IntKind.i64 (↑via.length : Int))) ∧ some (SV.b false) = some (SV.b false) ∧
  some (SV.c (Value.bool (decide ((↑via.length : Int) < (1 : Int))))) = some (SV.c (Value.bool (decide ((↑via.length : Int) < (1 : Int))))) ∧ some (SV.c (Value.bool (decide ((↑via.length : Int) < (1 : Int))))) = some (SV.c (Value.bool (decide ((↑via.length : Int) < (1 : Int))))) ∧
  some (SV.c (Value.int IntKind.i64 (↑via.length : Int))) = some (SV.c (Value.int IntKind.i64 (↑via.length : Int))) ∧ some (SV.b false) = some (SV.b false) ∧
  some (SV.c (Value.bool !true)) = some (SV.c (Value.bool !true)) ∧ some (SV.c (Value.bool true)) = some (SV.c (Value.bool true)) ∧ some (SV.c (Value.int IntKind.i64 (↑via.length : Int))) = some (SV.c (Value.int IntKind.i64 (↑via.length : Int))) ∧
  some (SV.c (Value.int IntKind.i64 (↑via.length : Int))) = some (SV.c (Value.int IntKind.i64 (↑via.length : Int))) ∧ some (SV.a (0 : Nat)) = some (SV.a (0 : Nat)) ∧
  some (SV.a (0 : Nat)) = some (SV.a (0 : Nat)) ∧ some (SV.c (Value.string realm)) = some (SV.c (Value.string realm)) ∧ True) ∧ some (R.ro (D.ints IntKind.u8 (via.getD (↑g.a : Int).toNat []))) = some (R.ro (D.ints IntKind.u8 (via.getD (↑g.a : Int).toNat []))) ∧
  some (R.own (3 : Nat) (D.ints IntKind.i64 y_4)) = some (R.own (3 : Nat) (D.ints IntKind.i64 y_4)) ∧ some (R.ro (D.recs (1 : Nat) via.length (strCell y_1))) = some (R.ro (D.recs (1 : Nat) via.length (strCell y_1))) ∧
  some (R.own (9 : Nat) (D.recs (1 : Nat) g.by_.length (strCell g.by_))) = some (R.own (9 : Nat) (D.recs (1 : Nat) g.by_.length (strCell g.by_))) ∧ some (R.ro (D.ints IntKind.i64 (List.take (↑via.length : Int).toNat [(0 : Int), (1 : Int), (2 : Int), (3 : Int), (4 : Int), (5 : Int), (6 : Int), (7 : Int)]))) = some (R.ro (D.ints IntKind.i64 (List.take (↑via.length : Int).toNat [(0 : Int), (1 : Int), (2 : Int), (3 : Int), (4 : Int), (5 : Int), (6 : Int), (7 : Int)]))) ∧
  some (R.ro (D.ints IntKind.i64 [(0 : Int), (1 : Int), (2 : Int), (3 : Int), (4 : Int), (5 : Int), (6 : Int), (7 : Int)])) = some (R.ro (D.ints IntKind.i64 [(0 : Int), (1 : Int), (2 : Int), (3 : Int), (4 : Int), (5 : Int), (6 : Int), (7 : Int)])) ∧
  some (R.ro (D.recs Try.prog.types[(9 : Nat)].size (↑via.length : Int).toNat fun (i j : Nat) => [D.v (Value.string (ByteArray.mk #[(110 : UInt8), (97 : UInt8)])), D.v (Value.string (ByteArray.mk #[(110 : UInt8), (98 : UInt8)])), D.v (Value.string (ByteArray.mk #[(110 : UInt8), (99 : UInt8)])), D.v (Value.string (ByteArray.mk #[(110 : UInt8), (100 : UInt8)])), D.v (Value.string (ByteArray.mk #[(110 : UInt8), (101 : UInt8)])), D.v (Value.string (ByteArray.mk #[(110 : UInt8), (102 : UInt8)])), D.v (Value.string (ByteArray.mk #[(110 : UInt8), (103 : UInt8)])), D.v (Value.string (ByteArray.mk #[(110 : UInt8), (104 : UInt8)]))].getD (i * Try.prog.types[(9 : Nat)].size + j) (D.v undef))) = some (R.ro (D.recs Try.prog.types[(9 : Nat)].size (↑via.length : Int).toNat fun (i j : Nat) => [D.v (Value.string (ByteArray.mk #[(110 : UInt8), (97 : UInt8)])), D.v (Value.string (ByteArray.mk #[(110 : UInt8), (98 : UInt8)])), D.v (Value.string (ByteArray.mk #[(110 : UInt8), (99 : UInt8)])), D.v (Value.string (ByteArray.mk #[(110 : UInt8), (100 : UInt8)])), D.v (Value.string (ByteArray.mk #[(110 : UInt8), (101 : UInt8)])), D.v (Value.string (ByteArray.mk #[(110 : UInt8), (102 : UInt8)])), D.v (Value.string (ByteArray.mk #[(110 : UInt8), (103 : UInt8)])), D.v (Value.string (ByteArray.mk #[(110 : UInt8), (104 : UInt8)]))].getD (i * Try.prog.types[(9 : Nat)].size + j) (D.v undef))) ∧
  some (R.ro (D.recs Try.prog.types[(9 : Nat)].size (8 : Nat) fun (i j : Nat) => [D.v (Value.string (ByteArray.mk #[(110 : UInt8), (97 : UInt8)])), D.v (Value.string (ByteArray.mk #[(110 : UInt8), (98 : UInt8)])), D.v (Value.string (ByteArray.mk #[(110 : UInt8), (99 : UInt8)])), D.v (Value.string (ByteArray.mk #[(110 : UInt8), (100 : UInt8)])), D.v (Value.string (ByteArray.mk #[(110 : UInt8), (101 : UInt8)])), D.v (Value.string (ByteArray.mk #[(110 : UInt8), (102 : UInt8)])), D.v (Value.string (ByteArray.mk #[(110 : UInt8), (103 : UInt8)])), D.v (Value.string (ByteArray.mk #[(110 : UInt8), (104 : UInt8)]))].getD (i * Try.prog.types[(9 : Nat)].size + j) (D.v undef))) = some (R.ro (D.recs Try.prog.types[(9 : Nat)].size (8 : Nat) fun (i j : Nat) => [D.v (Value.string (ByteArray.mk #[(110 : UInt8), (97 : UInt8)])), D.v (Value.string (ByteArray.mk #[(110 : UInt8), (98 : UInt8)])), D.v (Value.string (ByteArray.mk #[(110 : UInt8), (99 : UInt8)])), D.v (Value.string (ByteArray.mk #[(110 : UInt8), (100 : UInt8)])), D.v (Value.string (ByteArray.mk #[(110 : UInt8), (101 : UInt8)])), D.v (Value.string (ByteArray.mk #[(110 : UInt8), (102 : UInt8)])), D.v (Value.string (ByteArray.mk #[(110 : UInt8), (103 : UInt8)])), D.v (Value.string (ByteArray.mk #[(110 : UInt8), (104 : UInt8)]))].getD (i * Try.prog.types[(9 : Nat)].size + j) (D.v undef))) ∧
  some (R.ro (D.ints IntKind.u8 (List.map (fun (b : UInt8) => (↑b.toNat : Int)) realm.data.toList))) = some (R.ro (D.ints IntKind.u8 (List.map (fun (b : UInt8) => (↑b.toNat : Int)) realm.data.toList))) ∧
  some (R.ro (D.recs (1 : Nat) via.length (viaCell via))) = some (R.ro (D.recs (1 : Nat) via.length (viaCell via))) ∧ True) ∧ ((!decide ((↑g_2 : Int) = (↑g.a : Int))) = false →
  True ∧ ∃ (g' : Nat), g' ≤ via.length ∧ via.length - g' < via.length - g_2 ∧ (IntKind.i64.wrap ((↑g_2 : Int) + (1 : Int)) = (↑g' : Int) ∧ peersF p_1 g_2 = peersF p_1 g' ∧
  (!false && true && true && ((Nat.ble (10 : Nat) (10 : Nat) || false) && true)) = true) ∧ (some (SV.c (Value.bool (decide ((↑g_1 : Int) < (↑(via.getD (↑g.a : Int).toNat []).length : Int)) && decide ((↑g_1 : Int) < (20 : Int))))) = some (SV.c (Value.bool (decide ((↑g_1 : Int) < (↑(via.getD (↑g.a : Int).toNat []).length : Int)) && decide ((↑g_1 : Int) < (20 : Int))))) ∧
  some (SV.w [decide ((↑g_1 : Int) < (↑(via.getD (↑g.a : Int).toNat []).length : Int))] (SV.c (Value.bool (decide ((↑g_1 : Int) < (20 : Int)))))) = some (SV.w [decide ((↑g_1 : Int) < (↑(via.getD (↑g.a : Int).toNat []).length : Int))] (SV.c (Value.bool (decide ((↑g_1 : Int) < (20 : Int)))))) ∧
  some (SV.w [decide ((↑g_1 : Int) < (↑(via.getD (↑g.a : Int).toNat []).length : Int))] (SV.c (Value.int IntKind.i64 (↑g_1 : Int)))) = some (SV.w [decide ((↑g_1 : Int) < (↑(via.getD (↑g.a : Int).toNat []).length : Int))] (SV.c (Value.int IntKind.i64 (↑g_1 : Int)))) ∧
  some (SV.c (Value.bool (decide ((↑g_1 : Int) < (↑(via.getD (↑g.a : Int).toNat []).length : Int))))) = some (SV.c (Value.bool (decide ((↑g_1 : Int) < (↑(via.getD (↑g.a : Int).toNat []).length : Int))))) ∧
  some (SV.c (Value.bool (decide ((↑g_1 : Int) < (↑(via.getD (↑g.a : Int).toNat []).length : Int))))) = some (SV.c (Value.bool (decide ((↑g_1 : Int) < (↑(via.getD (↑g.a : Int).toNat []).length : Int))))) ∧
  some (SV.c (Value.int IntKind.i64 (↑(via.getD (↑g.a : Int).toNat []).length : Int))) = some (SV.c (Value.int IntKind.i64 (↑(via.getD (↑g.a : Int).toNat []).length : Int))) ∧
  some (SV.a (9 : Nat)) = some (SV.a (9 : Nat)) ∧ some (SV.e (0 : Nat) Try.prog.types[(36 : Nat)].size (↑g.a : Int).toNat (0 : Nat)) = some (SV.e (0 : Nat) Try.prog.types[(36 : Nat)].size (↑g.a : Int).toNat (0 : Nat)) ∧
  some (SV.c (Value.int IntKind.i64 (↑g.a : Int))) = some (SV.c (Value.int IntKind.i64 (↑g.a : Int))) ∧ some (SV.a (0 : Nat)) = some (SV.a (0 : Nat)) ∧ some (SV.c (Value.int IntKind.i64 (↑g_1 : Int))) = some (SV.c (Value.int IntKind.i64 (↑g_1 : Int))) ∧
  some (SV.c (Value.int IntKind.i64 (↑g_1 : Int))) = some (SV.c (Value.int IntKind.i64 (↑g_1 : Int))) ∧ some (SV.a (8 : Nat)) = some (SV.a (8 : Nat)) ∧ some (SV.c (Value.bool (decide ((↑g.i : Int) ≤ (↑via.length : Int))))) = some (SV.c (Value.bool (decide ((↑g.i : Int) ≤ (↑via.length : Int))))) ∧
  some (SV.c (Value.int IntKind.i64 (↑via.length : Int))) = some (SV.c (Value.int IntKind.i64 (↑via.length : Int))) ∧ some (SV.c (Value.int IntKind.i64 (↑g.i : Int))) = some (SV.c (Value.int IntKind.i64 (↑g.i : Int))) ∧
  some (SV.c (Value.int IntKind.i64 (↑g.i : Int))) = some (SV.c (Value.int IntKind.i64 (↑g.i : Int))) ∧ some (SV.c (Value.int IntKind.i64 (↑g.a : Int))) = some (SV.c (Value.int IntKind.i64 (↑g.a : Int))) ∧
  some (SV.c (Value.int IntKind.i64 g.fr)) = some (SV.c (Value.int IntKind.i64 g.fr)) ∧ some (SV.a (6 : Nat)) = some (SV.a (6 : Nat)) ∧ some (SV.a (7 : Nat)) = some (SV.a (7 : Nat)) ∧
  some (SV.a (5 : Nat)) = some (SV.a (5 : Nat)) ∧ some (SV.a (5 : Nat)) = some (SV.a (5 : Nat)) ∧ some (SV.c (Value.int IntKind.i64 (↑via.length : Int))) = some (SV.c (Value.int IntKind.i64 (↑via.length : Int))) ∧
  some (SV.a (4 : Nat)) = some (SV.a (4 : Nat)) ∧ some (SV.a (3 : Nat)) = some (SV.a (3 : Nat)) ∧ some (SV.c (Value.int IntKind.i64 (↑via.length : Int))) = some (SV.c (Value.int IntKind.i64 (↑via.length : Int))) ∧
  some (SV.a (2 : Nat)) = some (SV.a (2 : Nat)) ∧ some (SV.c (Value.bool !okName (vl (D.ints IntKind.u8 (List.map (fun (b : UInt8) => (↑b.toNat : Int)) realm.data.toList))))) = some (SV.c (Value.bool !okName (vl (D.ints IntKind.u8 (List.map (fun (b : UInt8) => (↑b.toNat : Int)) realm.data.toList))))) ∧
  some (SV.c (Value.bool !okName (vl (D.ints IntKind.u8 (List.map (fun (b : UInt8) => (↑b.toNat : Int)) realm.data.toList))))) = some (SV.c (Value.bool !okName (vl (D.ints IntKind.u8 (List.map (fun (b : UInt8) => (↑b.toNat : Int)) realm.data.toList))))) ∧
  some (SV.c (Value.bool (okName (vl (D.ints IntKind.u8 (List.map (fun (b : UInt8) => (↑b.toNat : Int)) realm.data.toList)))))) = some (SV.c (Value.bool (okName (vl (D.ints IntKind.u8 (List.map (fun (b : UInt8) => (↑b.toNat : Int)) realm.data.toList)))))) ∧
  some (SV.a (1 : Nat)) = some (SV.a (1 : Nat)) ∧ some (SV.c (Value.string realm)) = some (SV.c (Value.string realm)) ∧ some (SV.b false) = some (SV.b false) ∧
  some (SV.c (Value.bool (decide ((8 : Int) < (↑via.length : Int))))) = some (SV.c (Value.bool (decide ((8 : Int) < (↑via.length : Int))))) ∧ some (SV.c (Value.bool (decide ((8 : Int) < (↑via.length : Int))))) = some (SV.c (Value.bool (decide ((8 : Int) < (↑via.length : Int))))) ∧
  some (SV.c (Value.int IntKind.i64 (↑via.length : Int))) = some (SV.c (Value.int IntKind.i64 (↑via.length : Int))) ∧ some (SV.b false) = some (SV.b false) ∧
  some (SV.c (Value.bool (decide ((↑via.length : Int) < (1 : Int))))) = some (SV.c (Value.bool (decide ((↑via.length : Int) < (1 : Int))))) ∧ some (SV.c (Value.bool (decide ((↑via.length : Int) < (1 : Int))))) = some (SV.c (Value.bool (decide ((↑via.length : Int) < (1 : Int))))) ∧
  some (SV.c (Value.int IntKind.i64 (↑via.length : Int))) = some (SV.c (Value.int IntKind.i64 (↑via.length : Int))) ∧ some (SV.b false) = some (SV.b false) ∧
  some (SV.c (Value.bool !true)) = some (SV.c (Value.bool !true)) ∧ some (SV.c (Value.bool true)) = some (SV.c (Value.bool true)) ∧ some (SV.c (Value.int IntKind.i64 (↑via.length : Int))) = some (SV.c (Value.int IntKind.i64 (↑via.length : Int))) ∧
  some (SV.c (Value.int IntKind.i64 (↑via.length : Int))) = some (SV.c (Value.int IntKind.i64 (↑via.length : Int))) ∧ some (SV.a (0 : Nat)) = some (SV.a (0 : Nat)) ∧
  some (SV.a (0 : Nat)) = some (SV.a (0 : Nat)) ∧ some (SV.c (Value.string realm)) = some (SV.c (Value.string realm)) ∧ True) ∧ some (R.ro (D.ints IntKind.u8 (via.getD (↑g.a : Int).toNat []))) = some (R.ro (D.ints IntKind.u8 (via.getD (↑g.a : Int).toNat []))) ∧
  some (R.own (3 : Nat) (D.ints IntKind.i64 y_4)) = some (R.own (3 : Nat) (D.ints IntKind.i64 y_4)) ∧ some (R.ro (D.recs (1 : Nat) via.length (strCell y_1))) = some (R.ro (D.recs (1 : Nat) via.length (strCell y_1))) ∧
  some (R.own (9 : Nat) (D.recs (1 : Nat) g.by_.length (strCell g.by_))) = some (R.own (9 : Nat) (D.recs (1 : Nat) g.by_.length (strCell g.by_))) ∧ some (R.ro (D.ints IntKind.i64 (List.take (↑via.length : Int).toNat [(0 : Int), (1 : Int), (2 : Int), (3 : Int), (4 : Int), (5 : Int), (6 : Int), (7 : Int)]))) = some (R.ro (D.ints IntKind.i64 (List.take (↑via.length : Int).toNat [(0 : Int), (1 : Int), (2 : Int), (3 : Int), (4 : Int), (5 : Int), (6 : Int), (7 : Int)]))) ∧
  some (R.ro (D.ints IntKind.i64 [(0 : Int), (1 : Int), (2 : Int), (3 : Int), (4 : Int), (5 : Int), (6 : Int), (7 : Int)])) = some (R.ro (D.ints IntKind.i64 [(0 : Int), (1 : Int), (2 : Int), (3 : Int), (4 : Int), (5 : Int), (6 : Int), (7 : Int)])) ∧
  some (R.ro (D.recs Try.prog.types[(9 : Nat)].size (↑via.length : Int).toNat fun (i j : Nat) => [D.v (Value.string (ByteArray.mk #[(110 : UInt8), (97 : UInt8)])), D.v (Value.string (ByteArray.mk #[(110 : UInt8), (98 : UInt8)])), D.v (Value.string (ByteArray.mk #[(110 : UInt8), (99 : UInt8)])), D.v (Value.string (ByteArray.mk #[(110 : UInt8), (100 : UInt8)])), D.v (Value.string (ByteArray.mk #[(110 : UInt8), (101 : UInt8)])), D.v (Value.string (ByteArray.mk #[(110 : UInt8), (102 : UInt8)])), D.v (Value.string (ByteArray.mk #[(110 : UInt8), (103 : UInt8)])), D.v (Value.string (ByteArray.mk #[(110 : UInt8), (104 : UInt8)]))].getD (i * Try.prog.types[(9 : Nat)].size + j) (D.v undef))) = some (R.ro (D.recs Try.prog.types[(9 : Nat)].size (↑via.length : Int).toNat fun (i j : Nat) => [D.v (Value.string (ByteArray.mk #[(110 : UInt8), (97 : UInt8)])), D.v (Value.string (ByteArray.mk #[(110 : UInt8), (98 : UInt8)])), D.v (Value.string (ByteArray.mk #[(110 : UInt8), (99 : UInt8)])), D.v (Value.string (ByteArray.mk #[(110 : UInt8), (100 : UInt8)])), D.v (Value.string (ByteArray.mk #[(110 : UInt8), (101 : UInt8)])), D.v (Value.string (ByteArray.mk #[(110 : UInt8), (102 : UInt8)])), D.v (Value.string (ByteArray.mk #[(110 : UInt8), (103 : UInt8)])), D.v (Value.string (ByteArray.mk #[(110 : UInt8), (104 : UInt8)]))].getD (i * Try.prog.types[(9 : Nat)].size + j) (D.v undef))) ∧
  some (R.ro (D.recs Try.prog.types[(9 : Nat)].size (8 : Nat) fun (i j : Nat) => [D.v (Value.string (ByteArray.mk #[(110 : UInt8), (97 : UInt8)])), D.v (Value.string (ByteArray.mk #[(110 : UInt8), (98 : UInt8)])), D.v (Value.string (ByteArray.mk #[(110 : UInt8), (99 : UInt8)])), D.v (Value.string (ByteArray.mk #[(110 : UInt8), (100 : UInt8)])), D.v (Value.string (ByteArray.mk #[(110 : UInt8), (101 : UInt8)])), D.v (Value.string (ByteArray.mk #[(110 : UInt8), (102 : UInt8)])), D.v (Value.string (ByteArray.mk #[(110 : UInt8), (103 : UInt8)])), D.v (Value.string (ByteArray.mk #[(110 : UInt8), (104 : UInt8)]))].getD (i * Try.prog.types[(9 : Nat)].size + j) (D.v undef))) = some (R.ro (D.recs Try.prog.types[(9 : Nat)].size (8 : Nat) fun (i j : Nat) => [D.v (Value.string (ByteArray.mk #[(110 : UInt8), (97 : UInt8)])), D.v (Value.string (ByteArray.mk #[(110 : UInt8), (98 : UInt8)])), D.v (Value.string (ByteArray.mk #[(110 : UInt8), (99 : UInt8)])), D.v (Value.string (ByteArray.mk #[(110 : UInt8), (100 : UInt8)])), D.v (Value.string (ByteArray.mk #[(110 : UInt8), (101 : UInt8)])), D.v (Value.string (ByteArray.mk #[(110 : UInt8), (102 : UInt8)])), D.v (Value.string (ByteArray.mk #[(110 : UInt8), (103 : UInt8)])), D.v (Value.string (ByteArray.mk #[(110 : UInt8), (104 : UInt8)]))].getD (i * Try.prog.types[(9 : Nat)].size + j) (D.v undef))) ∧
  some (R.ro (D.ints IntKind.u8 (List.map (fun (b : UInt8) => (↑b.toNat : Int)) realm.data.toList))) = some (R.ro (D.ints IntKind.u8 (List.map (fun (b : UInt8) => (↑b.toNat : Int)) realm.data.toList))) ∧
  some (R.ro (D.recs (1 : Nat) via.length (viaCell via))) = some (R.ro (D.recs (1 : Nat) via.length (viaCell via))) ∧ True)) ∧ (decide ((↑g_2 : Int) < (↑via.length : Int)) = false →
  ((0 : Int) ≤ (↑g.a : Int) ∧ (↑g.a : Int) < (↑via.length : Int)) ∧ ((0 : Int) ≤ (1 : Int) ∧ (1 : Int) ≤ (↑realm.size : Int)) ∧ (↑((ByteArray.mk #[(120 : UInt8), (45 : UInt8)]).size + (realm.extract (0 : Nat) (Int.toNat (1 : Int))).size) : Int) ≤ (9223372036854775807 : Int) ∧
  (((((∃ (r : ByteArray), ∃ (h : ByteArray), ∃ (b : List ByteArray), [O.d (D.v (Value.string realm)), O.d (D.v (Value.string (ByteArray.mk #[]))), O.own (9 : Nat) (D.recs (1 : Nat) g.by_.length (strCell g.by_))] = [O.d (D.v (Value.string r)), O.d (D.v (Value.string h)), O.own (9 : Nat) (D.recs (1 : Nat) b.length (strCell b))] ∧
  small b.length) ∧ ((∃ (n : NdR), ∃ (names : List ByteArray), ∃ (up : List Int), ∃ (m : MsgR), ∃ (fr : Int), ∃ (R : D), ∃ (N : D), ∃ (A : D), [O.agg [O.d (D.v (Value.string (y_1.getD (↑g.a : Int).toNat noStr))), O.d (D.v (Value.string (ByteArray.mk #[(120 : UInt8), (45 : UInt8)] ++ realm.extract (0 : Nat) (Int.toNat (1 : Int))))), O.d (D.v (Value.bool false)), O.d (D.ints IntKind.i64 (peersF p_1 g_2)), O.d (D.recs Try.prog.types[(45 : Nat)].size (1 : Nat) fun (i j : Nat) => [D.v (Value.string realm), D.ints IntKind.i64 y_4].getD (i * Try.prog.types[(45 : Nat)].size + j) (D.v undef))], O.d (D.recs (1 : Nat) via.length (strCell y_1)), O.d (D.ints IntKind.i64 (List.take (↑via.length : Int).toNat [(0 : Int), (1 : Int), (2 : Int), (3 : Int), (4 : Int), (5 : Int), (6 : Int), (7 : Int)])), O.agg [O.d (D.v (Value.bool true)), O.d (D.v (Value.bool false)), O.d (D.v (Value.bool false)), O.d (D.v (Value.bool false)), O.d (D.v (Value.int IntKind.u32 (9300 : Int))), O.d (D.v (Value.int IntKind.u32 (0 : Int))), O.d (D.v (Value.int IntKind.u32 (0 : Int))), O.d (D.v (Value.int IntKind.u32 (0 : Int))), O.d (D.recs (5 : Nat) y_3.length (avpCell y_3))], O.d (D.v (Value.int IntKind.i64 g.fr))] = [O.agg [O.d (D.v (Value.string n.host)), O.d (D.v (Value.string n.realm)), O.d (D.v (Value.bool n.serves)), O.d (D.ints IntKind.i64 n.peers), O.d R], O.d N, O.d (D.ints IntKind.i64 up), O.agg [O.d (D.v (Value.bool m.b0)), O.d (D.v (Value.bool m.b1)), O.d (D.v (Value.bool m.b2)), O.d (D.v (Value.bool m.b3)), O.d (D.v (Value.int IntKind.u32 m.n0)), O.d (D.v (Value.int IntKind.u32 m.n1)), O.d (D.v (Value.int IntKind.u32 m.n2)), O.d (D.v (Value.int IntKind.u32 m.n3)), O.d A], O.d (D.v (Value.int IntKind.i64 fr))] ∧
  (small n.peers.length ∧ small names.length ∧ small up.length ∧ okAvps m.avps) ∧ okNd n ∧ asRts R n.routes ∧ asStrs N names ∧ asAvps A m.avps) ∧ True ∧ ((!decide (y_5.snd = (0 : Int))) = true →
  true = true ∧ (true && true) = true) ∧ ((!decide (y_5.snd = (0 : Int))) = false → True ∧ (decide (y_5.fst = (↑g.a : Int)) = false → True ∧ (decide (y_5.fst < (0 : Int)) = false →
  True ∧ (decide ((↑via.length : Int) ≤ y_5.fst) = true → false = true ∧ (true && true) = true) ∧ (decide ((↑via.length : Int) ≤ y_5.fst) = false → ((0 : Int) ≤ (↑g.a : Int) ∧
  (↑g.a : Int) < (↑via.length : Int)) ∧ True ∧ (g.by_.length + (1 : Nat)) * Try.prog.types[(9 : Nat)].bytes ≤ (140737488355328 : Nat) ∧ ∃ (p_2 : List ByteArray), ∃ (g0_3 : Nat), g0_3 ≤ p_2.length ∧
  (0 : Int) = (↑g0_3 : Int) ∧ (g.by_.length + (1 : Nat) = p_2.length ∧ ∀ (i : Nat), i < g.by_.length + (1 : Nat) → ∀ (j : Nat), j < (1 : Nat) → (bif i.blt g.by_.length then strCell g.by_ i j else [D.v (Value.string (y_1.getD (↑g.a : Int).toNat noStr))].getD ((i - g.by_.length) * Try.prog.types[(9 : Nat)].size + j) (D.v undef)) = strCell p_2 i j) ∧
  (!false && true && true) = true ∧ ∀ (g_3 : Nat), g_3 ≤ p_2.length → True ∧ (decide ((↑g_3 : Int) < (↑p_2.length : Int)) = true → ((0 : Int) ≤ (↑g_3 : Int) ∧
  (↑g_3 : Int) < (↑p_2.length : Int)) ∧ ((0 : Int) ≤ y_5.fst ∧ y_5.fst < (↑via.length : Int)) ∧ True ∧ (decide ((p_2.getD (↑g_3 : Int).toNat noStr).data.toList = (y_1.getD y_5.fst.toNat noStr).data.toList) = true →
  false = true ∧ (true && true) = true) ∧ (decide ((p_2.getD (↑g_3 : Int).toNat noStr).data.toList = (y_1.getD y_5.fst.toNat noStr).data.toList) = false →
  True ∧ ∃ (g' : Nat), g' ≤ p_2.length ∧ p_2.length - g' < p_2.length - g_3 ∧ (IntKind.i64.wrap ((↑g_3 : Int) + (1 : Int)) = (↑g' : Int) ∧ (p_2.length = p_2.length ∧
  ∀ (i : Nat), i < p_2.length → ∀ (j : Nat), j < (1 : Nat) → strCell p_2 i j = strCell p_2 i j) ∧ (!false && true && true && ((Nat.ble (16 : Nat) (16 : Nat) || (Nat.beq (15 : Nat) (16 : Nat) || false)) && true)) = true) ∧
  (some (SV.a (15 : Nat)) = some (SV.a (15 : Nat)) ∧ some (SV.a (14 : Nat)) = some (SV.a (14 : Nat)) ∧ some (SV.c (Value.string (y_1.getD (↑g.a : Int).toNat noStr))) = some (SV.c (Value.string (y_1.getD (↑g.a : Int).toNat noStr))) ∧
  some (SV.e (7 : Nat) Try.prog.types[(9 : Nat)].size (↑g.a : Int).toNat (0 : Nat)) = some (SV.e (7 : Nat) Try.prog.types[(9 : Nat)].size (↑g.a : Int).toNat (0 : Nat)) ∧
  some (SV.c (Value.int IntKind.i64 (↑g.a : Int))) = some (SV.c (Value.int IntKind.i64 (↑g.a : Int))) ∧ some (SV.a (7 : Nat)) = some (SV.a (7 : Nat)) ∧ some (SV.a (6 : Nat)) = some (SV.a (6 : Nat)) ∧
  some (SV.c (Value.bool (decide ((↑via.length : Int) ≤ y_5.fst)))) = some (SV.c (Value.bool (decide ((↑via.length : Int) ≤ y_5.fst)))) ∧ some (SV.c (Value.bool (decide ((↑via.length : Int) ≤ y_5.fst)))) = some (SV.c (Value.bool (decide ((↑via.length : Int) ≤ y_5.fst)))) ∧
  some (SV.c (Value.int IntKind.i64 (↑via.length : Int))) = some (SV.c (Value.int IntKind.i64 (↑via.length : Int))) ∧ some (SV.c (Value.int IntKind.i64 y_5.fst)) = some (SV.c (Value.int IntKind.i64 y_5.fst)) ∧
  some (SV.b false) = some (SV.b false) ∧ some (SV.c (Value.bool (decide (y_5.fst < (0 : Int))))) = some (SV.c (Value.bool (decide (y_5.fst < (0 : Int))))) ∧
  some (SV.c (Value.bool (decide (y_5.fst < (0 : Int))))) = some (SV.c (Value.bool (decide (y_5.fst < (0 : Int))))) ∧ some (SV.c (Value.int IntKind.i64 y_5.fst)) = some (SV.c (Value.int IntKind.i64 y_5.fst)) ∧
  some (SV.b false) = some (SV.b false) ∧ some (SV.c (Value.bool (decide (y_5.fst = (↑g.a : Int))))) = some (SV.c (Value.bool (decide (y_5.fst = (↑g.a : Int))))) ∧
  some (SV.c (Value.int IntKind.i64 (↑g.a : Int))) = some (SV.c (Value.int IntKind.i64 (↑g.a : Int))) ∧ some (SV.c (Value.int IntKind.i64 y_5.fst)) = some (SV.c (Value.int IntKind.i64 y_5.fst)) ∧
  some (SV.c (Value.bool !decide (y_5.snd = (0 : Int)))) = some (SV.c (Value.bool !decide (y_5.snd = (0 : Int)))) ∧ some (SV.c (Value.int IntKind.i64 y_5.snd)) = some (SV.c (Value.int IntKind.i64 y_5.snd)) ∧
  some (SV.c (Value.int IntKind.i64 y_5.snd)) = some (SV.c (Value.int IntKind.i64 y_5.snd)) ∧ some (SV.c (Value.int IntKind.i64 y_5.fst)) = some (SV.c (Value.int IntKind.i64 y_5.fst)) ∧
  some (SV.c (Value.int IntKind.i64 y_5.snd)) = some (SV.c (Value.int IntKind.i64 y_5.snd)) ∧ some (SV.c (Value.int IntKind.i64 y_5.fst)) = some (SV.c (Value.int IntKind.i64 y_5.fst)) ∧
  some (SV.tup [SV.c (Value.int IntKind.i64 y_5.fst), SV.c (Value.int IntKind.i64 y_5.snd)]) = some (SV.tup [SV.c (Value.int IntKind.i64 y_5.fst), SV.c (Value.int IntKind.i64 y_5.snd)]) ∧
  some (SV.tup [SV.c (Value.int IntKind.i64 y_5.fst), SV.c (Value.int IntKind.i64 y_5.snd)]) = some (SV.tup [SV.c (Value.int IntKind.i64 y_5.fst), SV.c (Value.int IntKind.i64 y_5.snd)]) ∧
  some (SV.agg [SV.c (Value.bool true), SV.c (Value.bool false), SV.c (Value.bool false), SV.c (Value.bool false), SV.c (Value.int IntKind.u32 (9300 : Int)), SV.c (Value.int IntKind.u32 (0 : Int)), SV.c (Value.int IntKind.u32 (0 : Int)), SV.c (Value.int IntKind.u32 (0 : Int)), SV.a (13 : Nat)]) = some (SV.agg [SV.c (Value.bool true), SV.c (Value.bool false), SV.c (Value.bool false), SV.c (Value.bool false), SV.c (Value.int IntKind.u32 (9300 : Int)), SV.c (Value.int IntKind.u32 (0 : Int)), SV.c (Value.int IntKind.u32 (0 : Int)), SV.c (Value.int IntKind.u32 (0 : Int)), SV.a (13 : Nat)]) ∧
  some (SV.c (Value.int IntKind.i64 g.fr)) = some (SV.c (Value.int IntKind.i64 g.fr)) ∧ some (SV.a (6 : Nat)) = some (SV.a (6 : Nat)) ∧ some (SV.c (Value.string realm)) = some (SV.c (Value.string realm)) ∧
  some (SV.a (5 : Nat)) = some (SV.a (5 : Nat)) ∧ some (SV.a (7 : Nat)) = some (SV.a (7 : Nat)) ∧ some (SV.agg [SV.c (Value.string (y_1.getD (↑g.a : Int).toNat noStr)), SV.c (Value.string (ByteArray.mk #[(120 : UInt8), (45 : UInt8)] ++ realm.extract (0 : Nat) (Int.toNat (1 : Int)))), SV.b false, SV.a (10 : Nat), SV.a (11 : Nat)]) = some (SV.agg [SV.c (Value.string (y_1.getD (↑g.a : Int).toNat noStr)), SV.c (Value.string (ByteArray.mk #[(120 : UInt8), (45 : UInt8)] ++ realm.extract (0 : Nat) (Int.toNat (1 : Int)))), SV.b false, SV.a (10 : Nat), SV.a (11 : Nat)]) ∧
  some (SV.p (12 : Nat) (0 : Nat)) = some (SV.p (12 : Nat) (0 : Nat)) ∧ some (SV.agg [SV.c (Value.string (y_1.getD (↑g.a : Int).toNat noStr)), SV.c (Value.string (ByteArray.mk #[(120 : UInt8), (45 : UInt8)] ++ realm.extract (0 : Nat) (Int.toNat (1 : Int)))), SV.b false, SV.a (10 : Nat), SV.a (11 : Nat)]) = some (SV.agg [SV.c (Value.string (y_1.getD (↑g.a : Int).toNat noStr)), SV.c (Value.string (ByteArray.mk #[(120 : UInt8), (45 : UInt8)] ++ realm.extract (0 : Nat) (Int.toNat (1 : Int)))), SV.b false, SV.a (10 : Nat), SV.a (11 : Nat)]) ∧
  some (SV.a (11 : Nat)) = some (SV.a (11 : Nat)) ∧ some (SV.agg [SV.c (Value.string realm), SV.a (8 : Nat)]) = some (SV.agg [SV.c (Value.string realm), SV.a (8 : Nat)]) ∧
  some (SV.a (8 : Nat)) = some (SV.a (8 : Nat)) ∧ some (SV.c (Value.string realm)) = some (SV.c (Value.string realm)) ∧ some (SV.a (10 : Nat)) = some (SV.a (10 : Nat)) ∧
  some (SV.c (Value.string (ByteArray.mk #[(120 : UInt8), (45 : UInt8)] ++ realm.extract (0 : Nat) (Int.toNat (1 : Int))))) = some (SV.c (Value.string (ByteArray.mk #[(120 : UInt8), (45 : UInt8)] ++ realm.extract (0 : Nat) (Int.toNat (1 : Int))))) ∧
  some (SV.c (Value.string (realm.extract (0 : Nat) (Int.toNat (1 : Int))))) = some (SV.c (Value.string (realm.extract (0 : Nat) (Int.toNat (1 : Int))))) ∧
  some (SV.c (Value.string realm)) = some (SV.c (Value.string realm)) ∧ some (SV.c (Value.string (y_1.getD (↑g.a : Int).toNat noStr))) = some (SV.c (Value.string (y_1.getD (↑g.a : Int).toNat noStr))) ∧
  some (SV.e (7 : Nat) Try.prog.types[(9 : Nat)].size (↑g.a : Int).toNat (0 : Nat)) = some (SV.e (7 : Nat) Try.prog.types[(9 : Nat)].size (↑g.a : Int).toNat (0 : Nat)) ∧
  some (SV.c (Value.int IntKind.i64 (↑g.a : Int))) = some (SV.c (Value.int IntKind.i64 (↑g.a : Int))) ∧ some (SV.a (7 : Nat)) = some (SV.a (7 : Nat)) ∧ some (SV.c (Value.bool (decide ((↑g_2 : Int) < (↑via.length : Int))))) = some (SV.c (Value.bool (decide ((↑g_2 : Int) < (↑via.length : Int))))) ∧
  some (SV.c (Value.int IntKind.i64 (↑via.length : Int))) = some (SV.c (Value.int IntKind.i64 (↑via.length : Int))) ∧ some (SV.c (Value.int IntKind.i64 (↑g_2 : Int))) = some (SV.c (Value.int IntKind.i64 (↑g_2 : Int))) ∧
  some (SV.c (Value.int IntKind.i64 (↑g_2 : Int))) = some (SV.c (Value.int IntKind.i64 (↑g_2 : Int))) ∧ some (SV.a (10 : Nat)) = some (SV.a (10 : Nat)) ∧
  some (SV.c (Value.bool (decide ((↑g_1 : Int) < (↑(via.getD (↑g.a : Int).toNat []).length : Int)) && decide ((↑g_1 : Int) < (20 : Int))))) = some (SV.c (Value.bool (decide ((↑g_1 : Int) < (↑(via.getD (↑g.a : Int).toNat []).length : Int)) && decide ((↑g_1 : Int) < (20 : Int))))) ∧
  some (SV.w [decide ((↑g_1 : Int) < (↑(via.getD (↑g.a : Int).toNat []).length : Int))] (SV.c (Value.bool (decide ((↑g_1 : Int) < (20 : Int)))))) = some (SV.w [decide ((↑g_1 : Int) < (↑(via.getD (↑g.a : Int).toNat []).length : Int))] (SV.c (Value.bool (decide ((↑g_1 : Int) < (20 : Int)))))) ∧
  some (SV.w [decide ((↑g_1 : Int) < (↑(via.getD (↑g.a : Int).toNat []).length : Int))] (SV.c (Value.int IntKind.i64 (↑g_1 : Int)))) = some (SV.w [decide ((↑g_1 : Int) < (↑(via.getD (↑g.a : Int).toNat []).length : Int))] (SV.c (Value.int IntKind.i64 (↑g_1 : Int)))) ∧
  some (SV.c (Value.bool (decide ((↑g_1 : Int) < (↑(via.getD (↑g.a : Int).toNat []).length : Int))))) = some (SV.c (Value.bool (decide ((↑g_1 : Int) < (↑(via.getD (↑g.a : Int).toNat []).length : Int))))) ∧
  some (SV.c (Value.bool (decide ((↑g_1 : Int) < (↑(via.getD (↑g.a : Int).toNat []).length : Int))))) = some (SV.c (Value.bool (decide ((↑g_1 : Int) < (↑(via.getD (↑g.a : Int).toNat []).length : Int))))) ∧
  some (SV.c (Value.int IntKind.i64 (↑(via.getD (↑g.a : Int).toNat []).length : Int))) = some (SV.c (Value.int IntKind.i64 (↑(via.getD (↑g.a : Int).toNat []).length : Int))) ∧
  some (SV.a (9 : Nat)) = some (SV.a (9 : Nat)) ∧ some (SV.e (0 : Nat) Try.prog.types[(36 : Nat)].size (↑g.a : Int).toNat (0 : Nat)) = some (SV.e (0 : Nat) Try.prog.types[(36 : Nat)].size (↑g.a : Int).toNat (0 : Nat)) ∧
  some (SV.c (Value.int IntKind.i64 (↑g.a : Int))) = some (SV.c (Value.int IntKind.i64 (↑g.a : Int))) ∧ some (SV.a (0 : Nat)) = some (SV.a (0 : Nat)) ∧ some (SV.c (Value.int IntKind.i64 (↑g_1 : Int))) = some (SV.c (Value.int IntKind.i64 (↑g_1 : Int))) ∧
  some (SV.c (Value.int IntKind.i64 (↑g_1 : Int))) = some (SV.c (Value.int IntKind.i64 (↑g_1 : Int))) ∧ some (SV.a (8 : Nat)) = some (SV.a (8 : Nat)) ∧ some (SV.c (Value.bool (decide ((↑g.i : Int) ≤ (↑via.length : Int))))) = some (SV.c (Value.bool (decide ((↑g.i : Int) ≤ (↑via.length : Int))))) ∧
  some (SV.c (Value.int IntKind.i64 (↑via.length : Int))) = some (SV.c (Value.int IntKind.i64 (↑via.length : Int))) ∧ some (SV.c (Value.int IntKind.i64 (↑g.i : Int))) = some (SV.c (Value.int IntKind.i64 (↑g.i : Int))) ∧
  some (SV.c (Value.int IntKind.i64 (↑g.i : Int))) = some (SV.c (Value.int IntKind.i64 (↑g.i : Int))) ∧ some (SV.c (Value.int IntKind.i64 (↑g.a : Int))) = some (SV.c (Value.int IntKind.i64 (↑g.a : Int))) ∧
  some (SV.c (Value.int IntKind.i64 g.fr)) = some (SV.c (Value.int IntKind.i64 g.fr)) ∧ some (SV.a (7 : Nat)) = some (SV.a (7 : Nat)) ∧ some (SV.a (5 : Nat)) = some (SV.a (5 : Nat)) ∧
  some (SV.a (5 : Nat)) = some (SV.a (5 : Nat)) ∧ some (SV.c (Value.int IntKind.i64 (↑via.length : Int))) = some (SV.c (Value.int IntKind.i64 (↑via.length : Int))) ∧
  some (SV.a (4 : Nat)) = some (SV.a (4 : Nat)) ∧ some (SV.a (3 : Nat)) = some (SV.a (3 : Nat)) ∧ some (SV.c (Value.int IntKind.i64 (↑via.length : Int))) = some (SV.c (Value.int IntKind.i64 (↑via.length : Int))) ∧
  some (SV.a (2 : Nat)) = some (SV.a (2 : Nat)) ∧ some (SV.c (Value.bool !okName (vl (D.ints IntKind.u8 (List.map (fun (b : UInt8) => (↑b.toNat : Int)) realm.data.toList))))) = some (SV.c (Value.bool !okName (vl (D.ints IntKind.u8 (List.map (fun (b : UInt8) => (↑b.toNat : Int)) realm.data.toList))))) ∧
  some (SV.c (Value.bool !okName (vl (D.ints IntKind.u8 (List.map (fun (b : UInt8) => (↑b.toNat : Int)) realm.data.toList))))) = some (SV.c (Value.bool !okName (vl (D.ints IntKind.u8 (List.map (fun (b : UInt8) => (↑b.toNat : Int)) realm.data.toList))))) ∧
  some (SV.c (Value.bool (okName (vl (D.ints IntKind.u8 (List.map (fun (b : UInt8) => (↑b.toNat : Int)) realm.data.toList)))))) = some (SV.c (Value.bool (okName (vl (D.ints IntKind.u8 (List.map (fun (b : UInt8) => (↑b.toNat : Int)) realm.data.toList)))))) ∧
  some (SV.a (1 : Nat)) = some (SV.a (1 : Nat)) ∧ some (SV.c (Value.string realm)) = some (SV.c (Value.string realm)) ∧ some (SV.b false) = some (SV.b false) ∧
  some (SV.c (Value.bool (decide ((8 : Int) < (↑via.length : Int))))) = some (SV.c (Value.bool (decide ((8 : Int) < (↑via.length : Int))))) ∧ some (SV.c (Value.bool (decide ((8 : Int) < (↑via.length : Int))))) = some (SV.c (Value.bool (decide ((8 : Int) < (↑via.length : Int))))) ∧
  some (SV.c (Value.int IntKind.i64 (↑via.length : Int))) = some (SV.c (Value.int IntKind.i64 (↑via.length : Int))) ∧ some (SV.b false) = some (SV.b false) ∧
  some (SV.c (Value.bool (decide ((↑via.length : Int) < (1 : Int))))) = some (SV.c (Value.bool (decide ((↑via.length : Int) < (1 : Int))))) ∧ some (SV.c (Value.bool (decide ((↑via.length : Int) < (1 : Int))))) = some (SV.c (Value.bool (decide ((↑via.length : Int) < (1 : Int))))) ∧
  some (SV.c (Value.int IntKind.i64 (↑via.length : Int))) = some (SV.c (Value.int IntKind.i64 (↑via.length : Int))) ∧ some (SV.b false) = some (SV.b false) ∧
  some (SV.c (Value.bool !true)) = some (SV.c (Value.bool !true)) ∧ some (SV.c (Value.bool true)) = some (SV.c (Value.bool true)) ∧ some (SV.c (Value.int IntKind.i64 (↑via.length : Int))) = some (SV.c (Value.int IntKind.i64 (↑via.length : Int))) ∧
  some (SV.c (Value.int IntKind.i64 (↑via.length : Int))) = some (SV.c (Value.int IntKind.i64 (↑via.length : Int))) ∧ some (SV.a (0 : Nat)) = some (SV.a (0 : Nat)) ∧
  some (SV.a (0 : Nat)) = some (SV.a (0 : Nat)) ∧ some (SV.c (Value.string realm)) = some (SV.c (Value.string realm)) ∧ True) ∧ some R.dead = some R.dead ∧
  some (R.own (9 : Nat) (D.recs Try.prog.types[(9 : Nat)].size (1 : Nat) fun (i j : Nat) => [D.v (Value.string (y_1.getD (↑g.a : Int).toNat noStr))].getD (i * Try.prog.types[(9 : Nat)].size + j) (D.v undef))) = some (R.own (9 : Nat) (D.recs Try.prog.types[(9 : Nat)].size (1 : Nat) fun (i j : Nat) => [D.v (Value.string (y_1.getD (↑g.a : Int).toNat noStr))].getD (i * Try.prog.types[(9 : Nat)].size + j) (D.v undef))) ∧
  some (R.blk (25 : Nat) [SV.c (Value.string (y_1.getD (↑g.a : Int).toNat noStr)), SV.c (Value.string (ByteArray.mk #[(120 : UInt8), (45 : UInt8)] ++ realm.extract (0 : Nat) (Int.toNat (1 : Int)))), SV.b false, SV.a (10 : Nat), SV.a (11 : Nat)]) = some (R.blk (25 : Nat) [SV.c (Value.string (y_1.getD (↑g.a : Int).toNat noStr)), SV.c (Value.string (ByteArray.mk #[(120 : UInt8), (45 : UInt8)] ++ realm.extract (0 : Nat) (Int.toNat (1 : Int)))), SV.b false, SV.a (10 : Nat), SV.a (11 : Nat)]) ∧
  some (R.own (41 : Nat) (D.recs (5 : Nat) y_3.length (avpCell y_3))) = some (R.own (41 : Nat) (D.recs (5 : Nat) y_3.length (avpCell y_3))) ∧ some (R.own (45 : Nat) (D.recs Try.prog.types[(45 : Nat)].size (1 : Nat) fun (i j : Nat) => [D.v (Value.string realm), D.ints IntKind.i64 y_4].getD (i * Try.prog.types[(45 : Nat)].size + j) (D.v undef))) = some (R.own (45 : Nat) (D.recs Try.prog.types[(45 : Nat)].size (1 : Nat) fun (i j : Nat) => [D.v (Value.string realm), D.ints IntKind.i64 y_4].getD (i * Try.prog.types[(45 : Nat)].size + j) (D.v undef))) ∧
  some (R.ro (D.ints IntKind.i64 y_4)) = some (R.ro (D.ints IntKind.i64 y_4)) ∧ some (R.own (3 : Nat) (D.ints IntKind.i64 (peersF p_1 g_2))) = some (R.own (3 : Nat) (D.ints IntKind.i64 (peersF p_1 g_2))) ∧
  some (R.ro (D.ints IntKind.u8 (via.getD (↑g.a : Int).toNat []))) = some (R.ro (D.ints IntKind.u8 (via.getD (↑g.a : Int).toNat []))) ∧ some (R.ro (D.recs (1 : Nat) via.length (strCell y_1))) = some (R.ro (D.recs (1 : Nat) via.length (strCell y_1))) ∧
  some (R.ro (D.ints IntKind.i64 (List.take (↑via.length : Int).toNat [(0 : Int), (1 : Int), (2 : Int), (3 : Int), (4 : Int), (5 : Int), (6 : Int), (7 : Int)]))) = some (R.ro (D.ints IntKind.i64 (List.take (↑via.length : Int).toNat [(0 : Int), (1 : Int), (2 : Int), (3 : Int), (4 : Int), (5 : Int), (6 : Int), (7 : Int)]))) ∧
  some (R.ro (D.ints IntKind.i64 [(0 : Int), (1 : Int), (2 : Int), (3 : Int), (4 : Int), (5 : Int), (6 : Int), (7 : Int)])) = some (R.ro (D.ints IntKind.i64 [(0 : Int), (1 : Int), (2 : Int), (3 : Int), (4 : Int), (5 : Int), (6 : Int), (7 : Int)])) ∧
  some (R.ro (D.recs Try.prog.types[(9 : Nat)].size (↑via.length : Int).toNat fun (i j : Nat) => [D.v (Value.string (ByteArray.mk #[(110 : UInt8), (97 : UInt8)])), D.v (Value.string (ByteArray.mk #[(110 : UInt8), (98 : UInt8)])), D.v (Value.string (ByteArray.mk #[(110 : UInt8), (99 : UInt8)])), D.v (Value.string (ByteArray.mk #[(110 : UInt8), (100 : UInt8)])), D.v (Value.string (ByteArray.mk #[(110 : UInt8), (101 : UInt8)])), D.v (Value.string (ByteArray.mk #[(110 : UInt8), (102 : UInt8)])), D.v (Value.string (ByteArray.mk #[(110 : UInt8), (103 : UInt8)])), D.v (Value.string (ByteArray.mk #[(110 : UInt8), (104 : UInt8)]))].getD (i * Try.prog.types[(9 : Nat)].size + j) (D.v undef))) = some (R.ro (D.recs Try.prog.types[(9 : Nat)].size (↑via.length : Int).toNat fun (i j : Nat) => [D.v (Value.string (ByteArray.mk #[(110 : UInt8), (97 : UInt8)])), D.v (Value.string (ByteArray.mk #[(110 : UInt8), (98 : UInt8)])), D.v (Value.string (ByteArray.mk #[(110 : UInt8), (99 : UInt8)])), D.v (Value.string (ByteArray.mk #[(110 : UInt8), (100 : UInt8)])), D.v (Value.string (ByteArray.mk #[(110 : UInt8), (101 : UInt8)])), D.v (Value.string (ByteArray.mk #[(110 : UInt8), (102 : UInt8)])), D.v (Value.string (ByteArray.mk #[(110 : UInt8), (103 : UInt8)])), D.v (Value.string (ByteArray.mk #[(110 : UInt8), (104 : UInt8)]))].getD (i * Try.prog.types[(9 : Nat)].size + j) (D.v undef))) ∧
  some (R.ro (D.recs Try.prog.types[(9 : Nat)].size (8 : Nat) fun (i j : Nat) => [D.v (Value.string (ByteArray.mk #[(110 : UInt8), (97 : UInt8)])), D.v (Value.string (ByteArray.mk #[(110 : UInt8), (98 : UInt8)])), D.v (Value.string (ByteArray.mk #[(110 : UInt8), (99 : UInt8)])), D.v (Value.string (ByteArray.mk #[(110 : UInt8), (100 : UInt8)])), D.v (Value.string (ByteArray.mk #[(110 : UInt8), (101 : UInt8)])), D.v (Value.string (ByteArray.mk #[(110 : UInt8), (102 : UInt8)])), D.v (Value.string (ByteArray.mk #[(110 : UInt8), (103 : UInt8)])), D.v (Value.string (ByteArray.mk #[(110 : UInt8), (104 : UInt8)]))].getD (i * Try.prog.types[(9 : Nat)].size + j) (D.v undef))) = some (R.ro (D.recs Try.prog.types[(9 : Nat)].size (8 : Nat) fun (i j : Nat) => [D.v (Value.string (ByteArray.mk #[(110 : UInt8), (97 : UInt8)])), D.v (Value.string (ByteArray.mk #[(110 : UInt8), (98 : UInt8)])), D.v (Value.string (ByteArray.mk #[(110 : UInt8), (99 : UInt8)])), D.v (Value.string (ByteArray.mk #[(110 : UInt8), (100 : UInt8)])), D.v (Value.string (ByteArray.mk #[(110 : UInt8), (101 : UInt8)])), D.v (Value.string (ByteArray.mk #[(110 : UInt8), (102 : UInt8)])), D.v (Value.string (ByteArray.mk #[(110 : UInt8), (103 : UInt8)])), D.v (Value.string (ByteArray.mk #[(110 : UInt8), (104 : UInt8)]))].getD (i * Try.prog.types[(9 : Nat)].size + j) (D.v undef))) ∧
  some (R.ro (D.ints IntKind.u8 (List.map (fun (b : UInt8) => (↑b.toNat : Int)) realm.data.toList))) = some (R.ro (D.ints IntKind.u8 (List.map (fun (b : UInt8) => (↑b.toNat : Int)) realm.data.toList))) ∧
  some (R.ro (D.recs (1 : Nat) via.length (viaCell via))) = some (R.ro (D.recs (1 : Nat) via.length (viaCell via))) ∧ True)) ∧ (decide ((↑g_3 : Int) < (↑p_2.length : Int)) = false →
  True ∧ ∃ (g' : EndS), (g'.a < via.length ∧ g'.by_.length = g'.i ∧ (∀ (x : ByteArray), x ∈ g'.by_ → x ∈ y_1) ∧ g'.by_.Nodup ∧ ¬y_1.getD g'.a noStr ∈ g'.by_) ∧
  (60 : Nat) - g'.i < (60 : Nat) - g.i ∧ (IntKind.i64.wrap ((↑g.i : Int) + (1 : Int)) = (↑g'.i : Int) ∧ y_5.fst = (↑g'.a : Int) ∧ (↑g.a : Int) = g'.fr ∧ (p_2.length = g'.by_.length ∧
  ∀ (i : Nat), i < p_2.length → ∀ (j : Nat), j < (1 : Nat) → strCell p_2 i j = strCell g'.by_ i j) ∧ (via.length = via.length ∧ ∀ (i : Nat), i < via.length →
  ∀ (j : Nat), j < (1 : Nat) → strCell y_1 i j = strCell y_1 i j) ∧ (!false && true && true && ((Nat.ble (6 : Nat) (16 : Nat) || false) && true)) = true) ∧
  (some (SV.a (5 : Nat)) = some (SV.a (5 : Nat)) ∧ some (SV.a (5 : Nat)) = some (SV.a (5 : Nat)) ∧ some (SV.c (Value.int IntKind.i64 (↑via.length : Int))) = some (SV.c (Value.int IntKind.i64 (↑via.length : Int))) ∧
  some (SV.a (4 : Nat)) = some (SV.a (4 : Nat)) ∧ some (SV.a (3 : Nat)) = some (SV.a (3 : Nat)) ∧ some (SV.c (Value.int IntKind.i64 (↑via.length : Int))) = some (SV.c (Value.int IntKind.i64 (↑via.length : Int))) ∧
  some (SV.a (2 : Nat)) = some (SV.a (2 : Nat)) ∧ some (SV.c (Value.bool !okName (vl (D.ints IntKind.u8 (List.map (fun (b : UInt8) => (↑b.toNat : Int)) realm.data.toList))))) = some (SV.c (Value.bool !okName (vl (D.ints IntKind.u8 (List.map (fun (b : UInt8) => (↑b.toNat : Int)) realm.data.toList))))) ∧
  some (SV.c (Value.bool !okName (vl (D.ints IntKind.u8 (List.map (fun (b : UInt8) => (↑b.toNat : Int)) realm.data.toList))))) = some (SV.c (Value.bool !okName (vl (D.ints IntKind.u8 (List.map (fun (b : UInt8) => (↑b.toNat : Int)) realm.data.toList))))) ∧
  some (SV.c (Value.bool (okName (vl (D.ints IntKind.u8 (List.map (fun (b : UInt8) => (↑b.toNat : Int)) realm.data.toList)))))) = some (SV.c (Value.bool (okName (vl (D.ints IntKind.u8 (List.map (fun (b : UInt8) => (↑b.toNat : Int)) realm.data.toList)))))) ∧
  some (SV.a (1 : Nat)) = some (SV.a (1 : Nat)) ∧ some (SV.c (Value.string realm)) = some (SV.c (Value.string realm)) ∧ some (SV.b false) = some (SV.b false) ∧
  some (SV.c (Value.bool (decide ((8 : Int) < (↑via.length : Int))))) = some (SV.c (Value.bool (decide ((8 : Int) < (↑via.length : Int))))) ∧ some (SV.c (Value.bool (decide ((8 : Int) < (↑via.length : Int))))) = some (SV.c (Value.bool (decide ((8 : Int) < (↑via.length : Int))))) ∧
  some (SV.c (Value.int IntKind.i64 (↑via.length : Int))) = some (SV.c (Value.int IntKind.i64 (↑via.length : Int))) ∧ some (SV.b false) = some (SV.b false) ∧
  some (SV.c (Value.bool (decide ((↑via.length : Int) < (1 : Int))))) = some (SV.c (Value.bool (decide ((↑via.length : Int) < (1 : Int))))) ∧ some (SV.c (Value.bool (decide ((↑via.length : Int) < (1 : Int))))) = some (SV.c (Value.bool (decide ((↑via.length : Int) < (1 : Int))))) ∧
  some (SV.c (Value.int IntKind.i64 (↑via.length : Int))) = some (SV.c (Value.int IntKind.i64 (↑via.length : Int))) ∧ some (SV.b false) = some (SV.b false) ∧
  some (SV.c (Value.bool !true)) = some (SV.c (Value.bool !true)) ∧ some (SV.c (Value.bool true)) = some (SV.c (Value.bool true)) ∧ some (SV.c (Value.int IntKind.i64 (↑via.length : Int))) = some (SV.c (Value.int IntKind.i64 (↑via.length : Int))) ∧
  some (SV.c (Value.int IntKind.i64 (↑via.length : Int))) = some (SV.c (Value.int IntKind.i64 (↑via.length : Int))) ∧ some (SV.a (0 : Nat)) = some (SV.a (0 : Nat)) ∧
  some (SV.a (0 : Nat)) = some (SV.a (0 : Nat)) ∧ some (SV.c (Value.string realm)) = some (SV.c (Value.string realm)) ∧ True) ∧ some (R.ro (D.ints IntKind.i64 (List.take (↑via.length : Int).toNat [(0 : Int), (1 : Int), (2 : Int), (3 : Int), (4 : Int), (5 : Int), (6 : Int), (7 : Int)]))) = some (R.ro (D.ints IntKind.i64 (List.take (↑via.length : Int).toNat [(0 : Int), (1 : Int), (2 : Int), (3 : Int), (4 : Int), (5 : Int), (6 : Int), (7 : Int)]))) ∧
  some (R.ro (D.ints IntKind.i64 [(0 : Int), (1 : Int), (2 : Int), (3 : Int), (4 : Int), (5 : Int), (6 : Int), (7 : Int)])) = some (R.ro (D.ints IntKind.i64 [(0 : Int), (1 : Int), (2 : Int), (3 : Int), (4 : Int), (5 : Int), (6 : Int), (7 : Int)])) ∧
  some (R.ro (D.recs Try.prog.types[(9 : Nat)].size (↑via.length : Int).toNat fun (i j : Nat) => [D.v (Value.string (ByteArray.mk #[(110 : UInt8), (97 : UInt8)])), D.v (Value.string (ByteArray.mk #[(110 : UInt8), (98 : UInt8)])), D.v (Value.string (ByteArray.mk #[(110 : UInt8), (99 : UInt8)])), D.v (Value.string (ByteArray.mk #[(110 : UInt8), (100 : UInt8)])), D.v (Value.string (ByteArray.mk #[(110 : UInt8), (101 : UInt8)])), D.v (Value.string (ByteArray.mk #[(110 : UInt8), (102 : UInt8)])), D.v (Value.string (ByteArray.mk #[(110 : UInt8), (103 : UInt8)])), D.v (Value.string (ByteArray.mk #[(110 : UInt8), (104 : UInt8)]))].getD (i * Try.prog.types[(9 : Nat)].size + j) (D.v undef))) = some (R.ro (D.recs Try.prog.types[(9 : Nat)].size (↑via.length : Int).toNat fun (i j : Nat) => [D.v (Value.string (ByteArray.mk #[(110 : UInt8), (97 : UInt8)])), D.v (Value.string (ByteArray.mk #[(110 : UInt8), (98 : UInt8)])), D.v (Value.string (ByteArray.mk #[(110 : UInt8), (99 : UInt8)])), D.v (Value.string (ByteArray.mk #[(110 : UInt8), (100 : UInt8)])), D.v (Value.string (ByteArray.mk #[(110 : UInt8), (101 : UInt8)])), D.v (Value.string (ByteArray.mk #[(110 : UInt8), (102 : UInt8)])), D.v (Value.string (ByteArray.mk #[(110 : UInt8), (103 : UInt8)])), D.v (Value.string (ByteArray.mk #[(110 : UInt8), (104 : UInt8)]))].getD (i * Try.prog.types[(9 : Nat)].size + j) (D.v undef))) ∧
  some (R.ro (D.recs Try.prog.types[(9 : Nat)].size (8 : Nat) fun (i j : Nat) => [D.v (Value.string (ByteArray.mk #[(110 : UInt8), (97 : UInt8)])), D.v (Value.string (ByteArray.mk #[(110 : UInt8), (98 : UInt8)])), D.v (Value.string (ByteArray.mk #[(110 : UInt8), (99 : UInt8)])), D.v (Value.string (ByteArray.mk #[(110 : UInt8), (100 : UInt8)])), D.v (Value.string (ByteArray.mk #[(110 : UInt8), (101 : UInt8)])), D.v (Value.string (ByteArray.mk #[(110 : UInt8), (102 : UInt8)])), D.v (Value.string (ByteArray.mk #[(110 : UInt8), (103 : UInt8)])), D.v (Value.string (ByteArray.mk #[(110 : UInt8), (104 : UInt8)]))].getD (i * Try.prog.types[(9 : Nat)].size + j) (D.v undef))) = some (R.ro (D.recs Try.prog.types[(9 : Nat)].size (8 : Nat) fun (i j : Nat) => [D.v (Value.string (ByteArray.mk #[(110 : UInt8), (97 : UInt8)])), D.v (Value.string (ByteArray.mk #[(110 : UInt8), (98 : UInt8)])), D.v (Value.string (ByteArray.mk #[(110 : UInt8), (99 : UInt8)])), D.v (Value.string (ByteArray.mk #[(110 : UInt8), (100 : UInt8)])), D.v (Value.string (ByteArray.mk #[(110 : UInt8), (101 : UInt8)])), D.v (Value.string (ByteArray.mk #[(110 : UInt8), (102 : UInt8)])), D.v (Value.string (ByteArray.mk #[(110 : UInt8), (103 : UInt8)])), D.v (Value.string (ByteArray.mk #[(110 : UInt8), (104 : UInt8)]))].getD (i * Try.prog.types[(9 : Nat)].size + j) (D.v undef))) ∧
  some (R.ro (D.ints IntKind.u8 (List.map (fun (b : UInt8) => (↑b.toNat : Int)) realm.data.toList))) = some (R.ro (D.ints IntKind.u8 (List.map (fun (b : UInt8) => (↑b.toNat : Int)) realm.data.toList))) ∧
  some (R.ro (D.recs (1 : Nat) via.length (viaCell via))) = some (R.ro (D.recs (1 : Nat) via.length (viaCell via))) ∧ True))) ∧ (decide (y_5.fst < (0 : Int)) = !false →
  false = true ∧ (true && true) = true)) ∧ (decide (y_5.fst = (↑g.a : Int)) = !false → false = true ∧ (true && true) = true))) ∧ True) ∧ True) ∧ True) ∧ True) ∧
  (((((∃ (r : ByteArray), ∃ (h : ByteArray), ∃ (b : List ByteArray), [O.d (D.v (Value.string realm)), O.d (D.v (Value.string (ByteArray.mk #[]))), O.own (9 : Nat) (D.recs (1 : Nat) g.by_.length (strCell g.by_))] = [O.d (D.v (Value.string r)), O.d (D.v (Value.string h)), O.own (9 : Nat) (D.recs (1 : Nat) b.length (strCell b))] ∧
  small b.length) ∧ ((∃ (n : NdR), ∃ (names : List ByteArray), ∃ (up : List Int), ∃ (m : MsgR), ∃ (fr : Int), ∃ (R : D), ∃ (N : D), ∃ (A : D), [O.agg [O.d (D.v (Value.string (y_1.getD (↑g.a : Int).toNat noStr))), O.d (D.v (Value.string (ByteArray.mk #[(120 : UInt8), (45 : UInt8)] ++ realm.extract (0 : Nat) (Int.toNat (1 : Int))))), O.d (D.v (Value.bool false)), O.d (D.ints IntKind.i64 (peersF p_1 g_2)), O.d (D.recs Try.prog.types[(45 : Nat)].size (1 : Nat) fun (i j : Nat) => [D.v (Value.string realm), D.ints IntKind.i64 y_4].getD (i * Try.prog.types[(45 : Nat)].size + j) (D.v undef))], O.d (D.recs (1 : Nat) via.length (strCell y_1)), O.d (D.ints IntKind.i64 (List.take (↑via.length : Int).toNat [(0 : Int), (1 : Int), (2 : Int), (3 : Int), (4 : Int), (5 : Int), (6 : Int), (7 : Int)])), O.agg [O.d (D.v (Value.bool true)), O.d (D.v (Value.bool false)), O.d (D.v (Value.bool false)), O.d (D.v (Value.bool false)), O.d (D.v (Value.int IntKind.u32 (9300 : Int))), O.d (D.v (Value.int IntKind.u32 (0 : Int))), O.d (D.v (Value.int IntKind.u32 (0 : Int))), O.d (D.v (Value.int IntKind.u32 (0 : Int))), O.d (D.recs (5 : Nat) y_3.length (avpCell y_3))], O.d (D.v (Value.int IntKind.i64 g.fr))] = [O.agg [O.d (D.v (Value.string n.host)), O.d (D.v (Value.string n.realm)), O.d (D.v (Value.bool n.serves)), O.d (D.ints IntKind.i64 n.peers), O.d R], O.d N, O.d (D.ints IntKind.i64 up), O.agg [O.d (D.v (Value.bool m.b0)), O.d (D.v (Value.bool m.b1)), O.d (D.v (Value.bool m.b2)), O.d (D.v (Value.bool m.b3)), O.d (D.v (Value.int IntKind.u32 m.n0)), O.d (D.v (Value.int IntKind.u32 m.n1)), O.d (D.v (Value.int IntKind.u32 m.n2)), O.d (D.v (Value.int IntKind.u32 m.n3)), O.d A], O.d (D.v (Value.int IntKind.i64 fr))] ∧
  (small n.peers.length ∧ small names.length ∧ small up.length ∧ okAvps m.avps) ∧ okNd n ∧ asRts R n.routes ∧ asStrs N names ∧ asAvps A m.avps) ∧ True ∧ ((!decide (y_5.snd = (0 : Int))) = true →
  true = true ∧ (true && true) = true) ∧ ((!decide (y_5.snd = (0 : Int))) = false → True ∧ (decide (y_5.fst = (↑g.a : Int)) = false → True ∧ (decide (y_5.fst < (0 : Int)) = false →
  True ∧ (decide ((↑via.length : Int) ≤ y_5.fst) = true → false = true ∧ (true && true) = true) ∧ (decide ((↑via.length : Int) ≤ y_5.fst) = false → ((0 : Int) ≤ (↑g.a : Int) ∧
  (↑g.a : Int) < (↑via.length : Int)) ∧ True ∧ (g.by_.length + (1 : Nat)) * Try.prog.types[(9 : Nat)].bytes ≤ (140737488355328 : Nat) ∧ ∃ (p_2 : List ByteArray), ∃ (g0_3 : Nat), g0_3 ≤ p_2.length ∧
  (0 : Int) = (↑g0_3 : Int) ∧ (g.by_.length + (1 : Nat) = p_2.length ∧ ∀ (i : Nat), i < g.by_.length + (1 : Nat) → ∀ (j : Nat), j < (1 : Nat) → (bif i.blt g.by_.length then strCell g.by_ i j else [D.v (Value.string (y_1.getD (↑g.a : Int).toNat noStr))].getD ((i - g.by_.length) * Try.prog.types[(9 : Nat)].size + j) (D.v undef)) = strCell p_2 i j) ∧
  (!false && true && true) = true ∧ ∀ (g_3 : Nat), g_3 ≤ p_2.length → True ∧ (decide ((↑g_3 : Int) < (↑p_2.length : Int)) = true → ((0 : Int) ≤ (↑g_3 : Int) ∧
  (↑g_3 : Int) < (↑p_2.length : Int)) ∧ ((0 : Int) ≤ y_5.fst ∧ y_5.fst < (↑via.length : Int)) ∧ True ∧ (decide ((p_2.getD (↑g_3 : Int).toNat noStr).data.toList = (y_1.getD y_5.fst.toNat noStr).data.toList) = true →
  false = true ∧ (true && true) = true) ∧ (decide ((p_2.getD (↑g_3 : Int).toNat noStr).data.toList = (y_1.getD y_5.fst.toNat noStr).data.toList) = false →
  True ∧ ∃ (g' : Nat), g' ≤ p_2.length ∧ p_2.length - g' < p_2.length - g_3 ∧ (IntKind.i64.wrap ((↑g_3 : Int) + (1 : Int)) = (↑g' : Int) ∧ (p_2.length = p_2.length ∧
  ∀ (i : Nat), i < p_2.length → ∀ (j : Nat), j < (1 : Nat) → strCell p_2 i j = strCell p_2 i j) ∧ (!false && true && true && ((Nat.ble (16 : Nat) (16 : Nat) || (Nat.beq (15 : Nat) (16 : Nat) || false)) && true)) = true) ∧
  (some (SV.a (15 : Nat)) = some (SV.a (15 : Nat)) ∧ some (SV.a (14 : Nat)) = some (SV.a (14 : Nat)) ∧ some (SV.c (Value.string (y_1.getD (↑g.a : Int).toNat noStr))) = some (SV.c (Value.string (y_1.getD (↑g.a : Int).toNat noStr))) ∧
  some (SV.e (7 : Nat) Try.prog.types[(9 : Nat)].size (↑g.a : Int).toNat (0 : Nat)) = some (SV.e (7 : Nat) Try.prog.types[(9 : Nat)].size (↑g.a : Int).toNat (0 : Nat)) ∧
  some (SV.c (Value.int IntKind.i64 (↑g.a : Int))) = some (SV.c (Value.int IntKind.i64 (↑g.a : Int))) ∧ some (SV.a (7 : Nat)) = some (SV.a (7 : Nat)) ∧ some (SV.a (6 : Nat)) = some (SV.a (6 : Nat)) ∧
  some (SV.c (Value.bool (decide ((↑via.length : Int) ≤ y_5.fst)))) = some (SV.c (Value.bool (decide ((↑via.length : Int) ≤ y_5.fst)))) ∧ some (SV.c (Value.bool (decide ((↑via.length : Int) ≤ y_5.fst)))) = some (SV.c (Value.bool (decide ((↑via.length : Int) ≤ y_5.fst)))) ∧
  some (SV.c (Value.int IntKind.i64 (↑via.length : Int))) = some (SV.c (Value.int IntKind.i64 (↑via.length : Int))) ∧ some (SV.c (Value.int IntKind.i64 y_5.fst)) = some (SV.c (Value.int IntKind.i64 y_5.fst)) ∧
  some (SV.b false) = some (SV.b false) ∧ some (SV.c (Value.bool (decide (y_5.fst < (0 : Int))))) = some (SV.c (Value.bool (decide (y_5.fst < (0 : Int))))) ∧
  some (SV.c (Value.bool (decide (y_5.fst < (0 : Int))))) = some (SV.c (Value.bool (decide (y_5.fst < (0 : Int))))) ∧ some (SV.c (Value.int IntKind.i64 y_5.fst)) = some (SV.c (Value.int IntKind.i64 y_5.fst)) ∧
  some (SV.b false) = some (SV.b false) ∧ some (SV.c (Value.bool (decide (y_5.fst = (↑g.a : Int))))) = some (SV.c (Value.bool (decide (y_5.fst = (↑g.a : Int))))) ∧
  some (SV.c (Value.int IntKind.i64 (↑g.a : Int))) = some (SV.c (Value.int IntKind.i64 (↑g.a : Int))) ∧ some (SV.c (Value.int IntKind.i64 y_5.fst)) = some (SV.c (Value.int IntKind.i64 y_5.fst)) ∧
  some (SV.c (Value.bool !decide (y_5.snd = (0 : Int)))) = some (SV.c (Value.bool !decide (y_5.snd = (0 : Int)))) ∧ some (SV.c (Value.int IntKind.i64 y_5.snd)) = some (SV.c (Value.int IntKind.i64 y_5.snd)) ∧
  some (SV.c (Value.int IntKind.i64 y_5.snd)) = some (SV.c (Value.int IntKind.i64 y_5.snd)) ∧ some (SV.c (Value.int IntKind.i64 y_5.fst)) = some (SV.c (Value.int IntKind.i64 y_5.fst)) ∧
  some (SV.c (Value.int IntKind.i64 y_5.snd)) = some (SV.c (Value.int IntKind.i64 y_5.snd)) ∧ some (SV.c (Value.int IntKind.i64 y_5.fst)) = some (SV.c (Value.int IntKind.i64 y_5.fst)) ∧
  some (SV.tup [SV.c (Value.int IntKind.i64 y_5.fst), SV.c (Value.int IntKind.i64 y_5.snd)]) = some (SV.tup [SV.c (Value.int IntKind.i64 y_5.fst), SV.c (Value.int IntKind.i64 y_5.snd)]) ∧
  some (SV.tup [SV.c (Value.int IntKind.i64 y_5.fst), SV.c (Value.int IntKind.i64 y_5.snd)]) = some (SV.tup [SV.c (Value.int IntKind.i64 y_5.fst), SV.c (Value.int IntKind.i64 y_5.snd)]) ∧
  some (SV.agg [SV.c (Value.bool true), SV.c (Value.bool false), SV.c (Value.bool false), SV.c (Value.bool false), SV.c (Value.int IntKind.u32 (9300 : Int)), SV.c (Value.int IntKind.u32 (0 : Int)), SV.c (Value.int IntKind.u32 (0 : Int)), SV.c (Value.int IntKind.u32 (0 : Int)), SV.a (13 : Nat)]) = some (SV.agg [SV.c (Value.bool true), SV.c (Value.bool false), SV.c (Value.bool false), SV.c (Value.bool false), SV.c (Value.int IntKind.u32 (9300 : Int)), SV.c (Value.int IntKind.u32 (0 : Int)), SV.c (Value.int IntKind.u32 (0 : Int)), SV.c (Value.int IntKind.u32 (0 : Int)), SV.a (13 : Nat)]) ∧
  some (SV.c (Value.int IntKind.i64 g.fr)) = some (SV.c (Value.int IntKind.i64 g.fr)) ∧ some (SV.a (6 : Nat)) = some (SV.a (6 : Nat)) ∧ some (SV.c (Value.string realm)) = some (SV.c (Value.string realm)) ∧
  some (SV.a (5 : Nat)) = some (SV.a (5 : Nat)) ∧ some (SV.a (7 : Nat)) = some (SV.a (7 : Nat)) ∧ some (SV.agg [SV.c (Value.string (y_1.getD (↑g.a : Int).toNat noStr)), SV.c (Value.string (ByteArray.mk #[(120 : UInt8), (45 : UInt8)] ++ realm.extract (0 : Nat) (Int.toNat (1 : Int)))), SV.b false, SV.a (10 : Nat), SV.a (12 : Nat)]) = some (SV.agg [SV.c (Value.string (y_1.getD (↑g.a : Int).toNat noStr)), SV.c (Value.string (ByteArray.mk #[(120 : UInt8), (45 : UInt8)] ++ realm.extract (0 : Nat) (Int.toNat (1 : Int)))), SV.b false, SV.a (10 : Nat), SV.a (12 : Nat)]) ∧
  some (SV.agg [SV.c (Value.string (y_1.getD (↑g.a : Int).toNat noStr)), SV.c (Value.string (ByteArray.mk #[(120 : UInt8), (45 : UInt8)] ++ realm.extract (0 : Nat) (Int.toNat (1 : Int)))), SV.b false, SV.a (10 : Nat), SV.a (12 : Nat)]) = some (SV.agg [SV.c (Value.string (y_1.getD (↑g.a : Int).toNat noStr)), SV.c (Value.string (ByteArray.mk #[(120 : UInt8), (45 : UInt8)] ++ realm.extract (0 : Nat) (Int.toNat (1 : Int)))), SV.b false, SV.a (10 : Nat), SV.a (12 : Nat)]) ∧
  some (SV.a (12 : Nat)) = some (SV.a (12 : Nat)) ∧ some (SV.p (11 : Nat) (0 : Nat)) = some (SV.p (11 : Nat) (0 : Nat)) ∧ some (SV.agg [SV.c (Value.string realm), SV.a (8 : Nat)]) = some (SV.agg [SV.c (Value.string realm), SV.a (8 : Nat)]) ∧
  some (SV.a (8 : Nat)) = some (SV.a (8 : Nat)) ∧ some (SV.c (Value.string realm)) = some (SV.c (Value.string realm)) ∧ some (SV.a (10 : Nat)) = some (SV.a (10 : Nat)) ∧
  some (SV.c (Value.string (ByteArray.mk #[(120 : UInt8), (45 : UInt8)] ++ realm.extract (0 : Nat) (Int.toNat (1 : Int))))) = some (SV.c (Value.string (ByteArray.mk #[(120 : UInt8), (45 : UInt8)] ++ realm.extract (0 : Nat) (Int.toNat (1 : Int))))) ∧
  some (SV.c (Value.string (realm.extract (0 : Nat) (Int.toNat (1 : Int))))) = some (SV.c (Value.string (realm.extract (0 : Nat) (Int.toNat (1 : Int))))) ∧
  some (SV.c (Value.string realm)) = some (SV.c (Value.string realm)) ∧ some (SV.c (Value.string (y_1.getD (↑g.a : Int).toNat noStr))) = some (SV.c (Value.string (y_1.getD (↑g.a : Int).toNat noStr))) ∧
  some (SV.e (7 : Nat) Try.prog.types[(9 : Nat)].size (↑g.a : Int).toNat (0 : Nat)) = some (SV.e (7 : Nat) Try.prog.types[(9 : Nat)].size (↑g.a : Int).toNat (0 : Nat)) ∧
  some (SV.c (Value.int IntKind.i64 (↑g.a : Int))) = some (SV.c (Value.int IntKind.i64 (↑g.a : Int))) ∧ some (SV.a (7 : Nat)) = some (SV.a (7 : Nat)) ∧ some (SV.c (Value.bool (decide ((↑g_2 : Int) < (↑via.length : Int))))) = some (SV.c (Value.bool (decide ((↑g_2 : Int) < (↑via.length : Int))))) ∧
  some (SV.c (Value.int IntKind.i64 (↑via.length : Int))) = some (SV.c (Value.int IntKind.i64 (↑via.length : Int))) ∧ some (SV.c (Value.int IntKind.i64 (↑g_2 : Int))) = some (SV.c (Value.int IntKind.i64 (↑g_2 : Int))) ∧
  some (SV.c (Value.int IntKind.i64 (↑g_2 : Int))) = some (SV.c (Value.int IntKind.i64 (↑g_2 : Int))) ∧ some (SV.a (10 : Nat)) = some (SV.a (10 : Nat)) ∧
  some (SV.c (Value.bool (decide ((↑g_1 : Int) < (↑(via.getD (↑g.a : Int).toNat []).length : Int)) && decide ((↑g_1 : Int) < (20 : Int))))) = some (SV.c (Value.bool (decide ((↑g_1 : Int) < (↑(via.getD (↑g.a : Int).toNat []).length : Int)) && decide ((↑g_1 : Int) < (20 : Int))))) ∧
  some (SV.w [decide ((↑g_1 : Int) < (↑(via.getD (↑g.a : Int).toNat []).length : Int))] (SV.c (Value.bool (decide ((↑g_1 : Int) < (20 : Int)))))) = some (SV.w [decide ((↑g_1 : Int) < (↑(via.getD (↑g.a : Int).toNat []).length : Int))] (SV.c (Value.bool (decide ((↑g_1 : Int) < (20 : Int)))))) ∧
  some (SV.w [decide ((↑g_1 : Int) < (↑(via.getD (↑g.a : Int).toNat []).length : Int))] (SV.c (Value.int IntKind.i64 (↑g_1 : Int)))) = some (SV.w [decide ((↑g_1 : Int) < (↑(via.getD (↑g.a : Int).toNat []).length : Int))] (SV.c (Value.int IntKind.i64 (↑g_1 : Int)))) ∧
  some (SV.c (Value.bool (decide ((↑g_1 : Int) < (↑(via.getD (↑g.a : Int).toNat []).length : Int))))) = some (SV.c (Value.bool (decide ((↑g_1 : Int) < (↑(via.getD (↑g.a : Int).toNat []).length : Int))))) ∧
  some (SV.c (Value.bool (decide ((↑g_1 : Int) < (↑(via.getD (↑g.a : Int).toNat []).length : Int))))) = some (SV.c (Value.bool (decide ((↑g_1 : Int) < (↑(via.getD (↑g.a : Int).toNat []).length : Int))))) ∧
  some (SV.c (Value.int IntKind.i64 (↑(via.getD (↑g.a : Int).toNat []).length : Int))) = some (SV.c (Value.int IntKind.i64 (↑(via.getD (↑g.a : Int).toNat []).length : Int))) ∧
  some (SV.a (9 : Nat)) = some (SV.a (9 : Nat)) ∧ some (SV.e (0 : Nat) Try.prog.types[(36 : Nat)].size (↑g.a : Int).toNat (0 : Nat)) = some (SV.e (0 : Nat) Try.prog.types[(36 : Nat)].size (↑g.a : Int).toNat (0 : Nat)) ∧
  some (SV.c (Value.int IntKind.i64 (↑g.a : Int))) = some (SV.c (Value.int IntKind.i64 (↑g.a : Int))) ∧ some (SV.a (0 : Nat)) = some (SV.a (0 : Nat)) ∧ some (SV.c (Value.int IntKind.i64 (↑g_1 : Int))) = some (SV.c (Value.int IntKind.i64 (↑g_1 : Int))) ∧
  some (SV.c (Value.int IntKind.i64 (↑g_1 : Int))) = some (SV.c (Value.int IntKind.i64 (↑g_1 : Int))) ∧ some (SV.a (8 : Nat)) = some (SV.a (8 : Nat)) ∧ some (SV.c (Value.bool (decide ((↑g.i : Int) ≤ (↑via.length : Int))))) = some (SV.c (Value.bool (decide ((↑g.i : Int) ≤ (↑via.length : Int))))) ∧
  some (SV.c (Value.int IntKind.i64 (↑via.length : Int))) = some (SV.c (Value.int IntKind.i64 (↑via.length : Int))) ∧ some (SV.c (Value.int IntKind.i64 (↑g.i : Int))) = some (SV.c (Value.int IntKind.i64 (↑g.i : Int))) ∧
  some (SV.c (Value.int IntKind.i64 (↑g.i : Int))) = some (SV.c (Value.int IntKind.i64 (↑g.i : Int))) ∧ some (SV.c (Value.int IntKind.i64 (↑g.a : Int))) = some (SV.c (Value.int IntKind.i64 (↑g.a : Int))) ∧
  some (SV.c (Value.int IntKind.i64 g.fr)) = some (SV.c (Value.int IntKind.i64 g.fr)) ∧ some (SV.a (7 : Nat)) = some (SV.a (7 : Nat)) ∧ some (SV.a (5 : Nat)) = some (SV.a (5 : Nat)) ∧
  some (SV.a (5 : Nat)) = some (SV.a (5 : Nat)) ∧ some (SV.c (Value.int IntKind.i64 (↑via.length : Int))) = some (SV.c (Value.int IntKind.i64 (↑via.length : Int))) ∧
  some (SV.a (4 : Nat)) = some (SV.a (4 : Nat)) ∧ some (SV.a (3 : Nat)) = some (SV.a (3 : Nat)) ∧ some (SV.c (Value.int IntKind.i64 (↑via.length : Int))) = some (SV.c (Value.int IntKind.i64 (↑via.length : Int))) ∧
  some (SV.a (2 : Nat)) = some (SV.a (2 : Nat)) ∧ some (SV.c (Value.bool !okName (vl (D.ints IntKind.u8 (List.map (fun (b : UInt8) => (↑b.toNat : Int)) realm.data.toList))))) = some (SV.c (Value.bool !okName (vl (D.ints IntKind.u8 (List.map (fun (b : UInt8) => (↑b.toNat : Int)) realm.data.toList))))) ∧
  some (SV.c (Value.bool !okName (vl (D.ints IntKind.u8 (List.map (fun (b : UInt8) => (↑b.toNat : Int)) realm.data.toList))))) = some (SV.c (Value.bool !okName (vl (D.ints IntKind.u8 (List.map (fun (b : UInt8) => (↑b.toNat : Int)) realm.data.toList))))) ∧
  some (SV.c (Value.bool (okName (vl (D.ints IntKind.u8 (List.map (fun (b : UInt8) => (↑b.toNat : Int)) realm.data.toList)))))) = some (SV.c (Value.bool (okName (vl (D.ints IntKind.u8 (List.map (fun (b : UInt8) => (↑b.toNat : Int)) realm.data.toList)))))) ∧
  some (SV.a (1 : Nat)) = some (SV.a (1 : Nat)) ∧ some (SV.c (Value.string realm)) = some (SV.c (Value.string realm)) ∧ some (SV.b false) = some (SV.b false) ∧
  some (SV.c (Value.bool (decide ((8 : Int) < (↑via.length : Int))))) = some (SV.c (Value.bool (decide ((8 : Int) < (↑via.length : Int))))) ∧ some (SV.c (Value.bool (decide ((8 : Int) < (↑via.length : Int))))) = some (SV.c (Value.bool (decide ((8 : Int) < (↑via.length : Int))))) ∧
  some (SV.c (Value.int IntKind.i64 (↑via.length : Int))) = some (SV.c (Value.int IntKind.i64 (↑via.length : Int))) ∧ some (SV.b false) = some (SV.b false) ∧
  some (SV.c (Value.bool (decide ((↑via.length : Int) < (1 : Int))))) = some (SV.c (Value.bool (decide ((↑via.length : Int) < (1 : Int))))) ∧ some (SV.c (Value.bool (decide ((↑via.length : Int) < (1 : Int))))) = some (SV.c (Value.bool (decide ((↑via.length : Int) < (1 : Int))))) ∧
  some (SV.c (Value.int IntKind.i64 (↑via.length : Int))) = some (SV.c (Value.int IntKind.i64 (↑via.length : Int))) ∧ some (SV.b false) = some (SV.b false) ∧
  some (SV.c (Value.bool !true)) = some (SV.c (Value.bool !true)) ∧ some (SV.c (Value.bool true)) = some (SV.c (Value.bool true)) ∧ some (SV.c (Value.int IntKind.i64 (↑via.length : Int))) = some (SV.c (Value.int IntKind.i64 (↑via.length : Int))) ∧
  some (SV.c (Value.int IntKind.i64 (↑via.length : Int))) = some (SV.c (Value.int IntKind.i64 (↑via.length : Int))) ∧ some (SV.a (0 : Nat)) = some (SV.a (0 : Nat)) ∧
  some (SV.a (0 : Nat)) = some (SV.a (0 : Nat)) ∧ some (SV.c (Value.string realm)) = some (SV.c (Value.string realm)) ∧ True) ∧ some R.dead = some R.dead ∧
  some (R.own (9 : Nat) (D.recs Try.prog.types[(9 : Nat)].size (1 : Nat) fun (i j : Nat) => [D.v (Value.string (y_1.getD (↑g.a : Int).toNat noStr))].getD (i * Try.prog.types[(9 : Nat)].size + j) (D.v undef))) = some (R.own (9 : Nat) (D.recs Try.prog.types[(9 : Nat)].size (1 : Nat) fun (i j : Nat) => [D.v (Value.string (y_1.getD (↑g.a : Int).toNat noStr))].getD (i * Try.prog.types[(9 : Nat)].size + j) (D.v undef))) ∧
  some (R.blk (25 : Nat) [SV.c (Value.string (y_1.getD (↑g.a : Int).toNat noStr)), SV.c (Value.string (ByteArray.mk #[(120 : UInt8), (45 : UInt8)] ++ realm.extract (0 : Nat) (Int.toNat (1 : Int)))), SV.b false, SV.a (10 : Nat), SV.a (12 : Nat)]) = some (R.blk (25 : Nat) [SV.c (Value.string (y_1.getD (↑g.a : Int).toNat noStr)), SV.c (Value.string (ByteArray.mk #[(120 : UInt8), (45 : UInt8)] ++ realm.extract (0 : Nat) (Int.toNat (1 : Int)))), SV.b false, SV.a (10 : Nat), SV.a (12 : Nat)]) ∧
  some (R.own (41 : Nat) (D.recs (5 : Nat) y_3.length (avpCell y_3))) = some (R.own (41 : Nat) (D.recs (5 : Nat) y_3.length (avpCell y_3))) ∧ some (R.own (45 : Nat) (D.recs Try.prog.types[(45 : Nat)].size (1 : Nat) fun (i j : Nat) => [D.v (Value.string realm), D.ints IntKind.i64 y_4].getD (i * Try.prog.types[(45 : Nat)].size + j) (D.v undef))) = some (R.own (45 : Nat) (D.recs Try.prog.types[(45 : Nat)].size (1 : Nat) fun (i j : Nat) => [D.v (Value.string realm), D.ints IntKind.i64 y_4].getD (i * Try.prog.types[(45 : Nat)].size + j) (D.v undef))) ∧
  some (R.ro (D.ints IntKind.i64 y_4)) = some (R.ro (D.ints IntKind.i64 y_4)) ∧ some (R.own (3 : Nat) (D.ints IntKind.i64 (peersF p_1 g_2))) = some (R.own (3 : Nat) (D.ints IntKind.i64 (peersF p_1 g_2))) ∧
  some (R.ro (D.ints IntKind.u8 (via.getD (↑g.a : Int).toNat []))) = some (R.ro (D.ints IntKind.u8 (via.getD (↑g.a : Int).toNat []))) ∧ some (R.ro (D.recs (1 : Nat) via.length (strCell y_1))) = some (R.ro (D.recs (1 : Nat) via.length (strCell y_1))) ∧
  some (R.ro (D.ints IntKind.i64 (List.take (↑via.length : Int).toNat [(0 : Int), (1 : Int), (2 : Int), (3 : Int), (4 : Int), (5 : Int), (6 : Int), (7 : Int)]))) = some (R.ro (D.ints IntKind.i64 (List.take (↑via.length : Int).toNat [(0 : Int), (1 : Int), (2 : Int), (3 : Int), (4 : Int), (5 : Int), (6 : Int), (7 : Int)]))) ∧
  some (R.ro (D.ints IntKind.i64 [(0 : Int), (1 : Int), (2 : Int), (3 : Int), (4 : Int), (5 : Int), (6 : Int), (7 : Int)])) = some (R.ro (D.ints IntKind.i64 [(0 : Int), (1 : Int), (2 : Int), (3 : Int), (4 : Int), (5 : Int), (6 : Int), (7 : Int)])) ∧
  some (R.ro (D.recs Try.prog.types[(9 : Nat)].size (↑via.length : Int).toNat fun (i j : Nat) => [D.v (Value.string (ByteArray.mk #[(110 : UInt8), (97 : UInt8)])), D.v (Value.string (ByteArray.mk #[(110 : UInt8), (98 : UInt8)])), D.v (Value.string (ByteArray.mk #[(110 : UInt8), (99 : UInt8)])), D.v (Value.string (ByteArray.mk #[(110 : UInt8), (100 : UInt8)])), D.v (Value.string (ByteArray.mk #[(110 : UInt8), (101 : UInt8)])), D.v (Value.string (ByteArray.mk #[(110 : UInt8), (102 : UInt8)])), D.v (Value.string (ByteArray.mk #[(110 : UInt8), (103 : UInt8)])), D.v (Value.string (ByteArray.mk #[(110 : UInt8), (104 : UInt8)]))].getD (i * Try.prog.types[(9 : Nat)].size + j) (D.v undef))) = some (R.ro (D.recs Try.prog.types[(9 : Nat)].size (↑via.length : Int).toNat fun (i j : Nat) => [D.v (Value.string (ByteArray.mk #[(110 : UInt8), (97 : UInt8)])), D.v (Value.string (ByteArray.mk #[(110 : UInt8), (98 : UInt8)])), D.v (Value.string (ByteArray.mk #[(110 : UInt8), (99 : UInt8)])), D.v (Value.string (ByteArray.mk #[(110 : UInt8), (100 : UInt8)])), D.v (Value.string (ByteArray.mk #[(110 : UInt8), (101 : UInt8)])), D.v (Value.string (ByteArray.mk #[(110 : UInt8), (102 : UInt8)])), D.v (Value.string (ByteArray.mk #[(110 : UInt8), (103 : UInt8)])), D.v (Value.string (ByteArray.mk #[(110 : UInt8), (104 : UInt8)]))].getD (i * Try.prog.types[(9 : Nat)].size + j) (D.v undef))) ∧
  some (R.ro (D.recs Try.prog.types[(9 : Nat)].size (8 : Nat) fun (i j : Nat) => [D.v (Value.string (ByteArray.mk #[(110 : UInt8), (97 : UInt8)])), D.v (Value.string (ByteArray.mk #[(110 : UInt8), (98 : UInt8)])), D.v (Value.string (ByteArray.mk #[(110 : UInt8), (99 : UInt8)])), D.v (Value.string (ByteArray.mk #[(110 : UInt8), (100 : UInt8)])), D.v (Value.string (ByteArray.mk #[(110 : UInt8), (101 : UInt8)])), D.v (Value.string (ByteArray.mk #[(110 : UInt8), (102 : UInt8)])), D.v (Value.string (ByteArray.mk #[(110 : UInt8), (103 : UInt8)])), D.v (Value.string (ByteArray.mk #[(110 : UInt8), (104 : UInt8)]))].getD (i * Try.prog.types[(9 : Nat)].size + j) (D.v undef))) = some (R.ro (D.recs Try.prog.types[(9 : Nat)].size (8 : Nat) fun (i j : Nat) => [D.v (Value.string (ByteArray.mk #[(110 : UInt8), (97 : UInt8)])), D.v (Value.string (ByteArray.mk #[(110 : UInt8), (98 : UInt8)])), D.v (Value.string (ByteArray.mk #[(110 : UInt8), (99 : UInt8)])), D.v (Value.string (ByteArray.mk #[(110 : UInt8), (100 : UInt8)])), D.v (Value.string (ByteArray.mk #[(110 : UInt8), (101 : UInt8)])), D.v (Value.string (ByteArray.mk #[(110 : UInt8), (102 : UInt8)])), D.v (Value.string (ByteArray.mk #[(110 : UInt8), (103 : UInt8)])), D.v (Value.string (ByteArray.mk #[(110 : UInt8), (104 : UInt8)]))].getD (i * Try.prog.types[(9 : Nat)].size + j) (D.v undef))) ∧
  some (R.ro (D.ints IntKind.u8 (List.map (fun (b : UInt8) => (↑b.toNat : Int)) realm.data.toList))) = some (R.ro (D.ints IntKind.u8 (List.map (fun (b : UInt8) => (↑b.toNat : Int)) realm.data.toList))) ∧
  some (R.ro (D.recs (1 : Nat) via.length (viaCell via))) = some (R.ro (D.recs (1 : Nat) via.length (viaCell via))) ∧ True)) ∧ (decide ((↑g_3 : Int) < (↑p_2.length : Int)) = false →
  True ∧ ∃ (g' : EndS), (g'.a < via.length ∧ g'.by_.length = g'.i ∧ (∀ (x : ByteArray), x ∈ g'.by_ → x ∈ y_1) ∧ g'.by_.Nodup ∧ ¬y_1.getD g'.a noStr ∈ g'.by_) ∧
  (60 : Nat) - g'.i < (60 : Nat) - g.i ∧ (IntKind.i64.wrap ((↑g.i : Int) + (1 : Int)) = (↑g'.i : Int) ∧ y_5.fst = (↑g'.a : Int) ∧ (↑g.a : Int) = g'.fr ∧ (p_2.length = g'.by_.length ∧
  ∀ (i : Nat), i < p_2.length → ∀ (j : Nat), j < (1 : Nat) → strCell p_2 i j = strCell g'.by_ i j) ∧ (via.length = via.length ∧ ∀ (i : Nat), i < via.length →
  ∀ (j : Nat), j < (1 : Nat) → strCell y_1 i j = strCell y_1 i j) ∧ (!false && true && true && ((Nat.ble (6 : Nat) (16 : Nat) || false) && true)) = true) ∧
  (some (SV.a (5 : Nat)) = some (SV.a (5 : Nat)) ∧ some (SV.a (5 : Nat)) = some (SV.a (5 : Nat)) ∧ some (SV.c (Value.int IntKind.i64 (↑via.length : Int))) = some (SV.c (Value.int IntKind.i64 (↑via.length : Int))) ∧
  some (SV.a (4 : Nat)) = some (SV.a (4 : Nat)) ∧ some (SV.a (3 : Nat)) = some (SV.a (3 : Nat)) ∧ some (SV.c (Value.int IntKind.i64 (↑via.length : Int))) = some (SV.c (Value.int IntKind.i64 (↑via.length : Int))) ∧
  some (SV.a (2 : Nat)) = some (SV.a (2 : Nat)) ∧ some (SV.c (Value.bool !okName (vl (D.ints IntKind.u8 (List.map (fun (b : UInt8) => (↑b.toNat : Int)) realm.data.toList))))) = some (SV.c (Value.bool !okName (vl (D.ints IntKind.u8 (List.map (fun (b : UInt8) => (↑b.toNat : Int)) realm.data.toList))))) ∧
  some (SV.c (Value.bool !okName (vl (D.ints IntKind.u8 (List.map (fun (b : UInt8) => (↑b.toNat : Int)) realm.data.toList))))) = some (SV.c (Value.bool !okName (vl (D.ints IntKind.u8 (List.map (fun (b : UInt8) => (↑b.toNat : Int)) realm.data.toList))))) ∧
  some (SV.c (Value.bool (okName (vl (D.ints IntKind.u8 (List.map (fun (b : UInt8) => (↑b.toNat : Int)) realm.data.toList)))))) = some (SV.c (Value.bool (okName (vl (D.ints IntKind.u8 (List.map (fun (b : UInt8) => (↑b.toNat : Int)) realm.data.toList)))))) ∧
  some (SV.a (1 : Nat)) = some (SV.a (1 : Nat)) ∧ some (SV.c (Value.string realm)) = some (SV.c (Value.string realm)) ∧ some (SV.b false) = some (SV.b false) ∧
  some (SV.c (Value.bool (decide ((8 : Int) < (↑via.length : Int))))) = some (SV.c (Value.bool (decide ((8 : Int) < (↑via.length : Int))))) ∧ some (SV.c (Value.bool (decide ((8 : Int) < (↑via.length : Int))))) = some (SV.c (Value.bool (decide ((8 : Int) < (↑via.length : Int))))) ∧
  some (SV.c (Value.int IntKind.i64 (↑via.length : Int))) = some (SV.c (Value.int IntKind.i64 (↑via.length : Int))) ∧ some (SV.b false) = some (SV.b false) ∧
  some (SV.c (Value.bool (decide ((↑via.length : Int) < (1 : Int))))) = some (SV.c (Value.bool (decide ((↑via.length : Int) < (1 : Int))))) ∧ some (SV.c (Value.bool (decide ((↑via.length : Int) < (1 : Int))))) = some (SV.c (Value.bool (decide ((↑via.length : Int) < (1 : Int))))) ∧
  some (SV.c (Value.int IntKind.i64 (↑via.length : Int))) = some (SV.c (Value.int IntKind.i64 (↑via.length : Int))) ∧ some (SV.b false) = some (SV.b false) ∧
  some (SV.c (Value.bool !true)) = some (SV.c (Value.bool !true)) ∧ some (SV.c (Value.bool true)) = some (SV.c (Value.bool true)) ∧ some (SV.c (Value.int IntKind.i64 (↑via.length : Int))) = some (SV.c (Value.int IntKind.i64 (↑via.length : Int))) ∧
  some (SV.c (Value.int IntKind.i64 (↑via.length : Int))) = some (SV.c (Value.int IntKind.i64 (↑via.length : Int))) ∧ some (SV.a (0 : Nat)) = some (SV.a (0 : Nat)) ∧
  some (SV.a (0 : Nat)) = some (SV.a (0 : Nat)) ∧ some (SV.c (Value.string realm)) = some (SV.c (Value.string realm)) ∧ True) ∧ some (R.ro (D.ints IntKind.i64 (List.take (↑via.length : Int).toNat [(0 : Int), (1 : Int), (2 : Int), (3 : Int), (4 : Int), (5 : Int), (6 : Int), (7 : Int)]))) = some (R.ro (D.ints IntKind.i64 (List.take (↑via.length : Int).toNat [(0 : Int), (1 : Int), (2 : Int), (3 : Int), (4 : Int), (5 : Int), (6 : Int), (7 : Int)]))) ∧
  some (R.ro (D.ints IntKind.i64 [(0 : Int), (1 : Int), (2 : Int), (3 : Int), (4 : Int), (5 : Int), (6 : Int), (7 : Int)])) = some (R.ro (D.ints IntKind.i64 [(0 : Int), (1 : Int), (2 : Int), (3 : Int), (4 : Int), (5 : Int), (6 : Int), (7 : Int)])) ∧
  some (R.ro (D.recs Try.prog.types[(9 : Nat)].size (↑via.length : Int).toNat fun (i j : Nat) => [D.v (Value.string (ByteArray.mk #[(110 : UInt8), (97 : UInt8)])), D.v (Value.string (ByteArray.mk #[(110 : UInt8), (98 : UInt8)])), D.v (Value.string (ByteArray.mk #[(110 : UInt8), (99 : UInt8)])), D.v (Value.string (ByteArray.mk #[(110 : UInt8), (100 : UInt8)])), D.v (Value.string (ByteArray.mk #[(110 : UInt8), (101 : UInt8)])), D.v (Value.string (ByteArray.mk #[(110 : UInt8), (102 : UInt8)])), D.v (Value.string (ByteArray.mk #[(110 : UInt8), (103 : UInt8)])), D.v (Value.string (ByteArray.mk #[(110 : UInt8), (104 : UInt8)]))].getD (i * Try.prog.types[(9 : Nat)].size + j) (D.v undef))) = some (R.ro (D.recs Try.prog.types[(9 : Nat)].size (↑via.length : Int).toNat fun (i j : Nat) => [D.v (Value.string (ByteArray.mk #[(110 : UInt8), (97 : UInt8)])), D.v (Value.string (ByteArray.mk #[(110 : UInt8), (98 : UInt8)])), D.v (Value.string (ByteArray.mk #[(110 : UInt8), (99 : UInt8)])), D.v (Value.string (ByteArray.mk #[(110 : UInt8), (100 : UInt8)])), D.v (Value.string (ByteArray.mk #[(110 : UInt8), (101 : UInt8)])), D.v (Value.string (ByteArray.mk #[(110 : UInt8), (102 : UInt8)])), D.v (Value.string (ByteArray.mk #[(110 : UInt8), (103 : UInt8)])), D.v (Value.string (ByteArray.mk #[(110 : UInt8), (104 : UInt8)]))].getD (i * Try.prog.types[(9 : Nat)].size + j) (D.v undef))) ∧
  some (R.ro (D.recs Try.prog.types[(9 : Nat)].size (8 : Nat) fun (i j : Nat) => [D.v (Value.string (ByteArray.mk #[(110 : UInt8), (97 : UInt8)])), D.v (Value.string (ByteArray.mk #[(110 : UInt8), (98 : UInt8)])), D.v (Value.string (ByteArray.mk #[(110 : UInt8), (99 : UInt8)])), D.v (Value.string (ByteArray.mk #[(110 : UInt8), (100 : UInt8)])), D.v (Value.string (ByteArray.mk #[(110 : UInt8), (101 : UInt8)])), D.v (Value.string (ByteArray.mk #[(110 : UInt8), (102 : UInt8)])), D.v (Value.string (ByteArray.mk #[(110 : UInt8), (103 : UInt8)])), D.v (Value.string (ByteArray.mk #[(110 : UInt8), (104 : UInt8)]))].getD (i * Try.prog.types[(9 : Nat)].size + j) (D.v undef))) = some (R.ro (D.recs Try.prog.types[(9 : Nat)].size (8 : Nat) fun (i j : Nat) => [D.v (Value.string (ByteArray.mk #[(110 : UInt8), (97 : UInt8)])), D.v (Value.string (ByteArray.mk #[(110 : UInt8), (98 : UInt8)])), D.v (Value.string (ByteArray.mk #[(110 : UInt8), (99 : UInt8)])), D.v (Value.string (ByteArray.mk #[(110 : UInt8), (100 : UInt8)])), D.v (Value.string (ByteArray.mk #[(110 : UInt8), (101 : UInt8)])), D.v (Value.string (ByteArray.mk #[(110 : UInt8), (102 : UInt8)])), D.v (Value.string (ByteArray.mk #[(110 : UInt8), (103 : UInt8)])), D.v (Value.string (ByteArray.mk #[(110 : UInt8), (104 : UInt8)]))].getD (i * Try.prog.types[(9 : Nat)].size + j) (D.v undef))) ∧
  some (R.ro (D.ints IntKind.u8 (List.map (fun (b : UInt8) => (↑b.toNat : Int)) realm.data.toList))) = some (R.ro (D.ints IntKind.u8 (List.map (fun (b : UInt8) => (↑b.toNat : Int)) realm.data.toList))) ∧
  some (R.ro (D.recs (1 : Nat) via.length (viaCell via))) = some (R.ro (D.recs (1 : Nat) via.length (viaCell via))) ∧ True))) ∧ (decide (y_5.fst < (0 : Int)) = !false →
  false = true ∧ (true && true) = true)) ∧ (decide (y_5.fst = (↑g.a : Int)) = !false → false = true ∧ (true && true) = true))) ∧ True) ∧ True) ∧ True) ∧ True) ∧
  True))) ∧ (decide ((↑g.i : Int) ≤ (↑via.length : Int)) = false → false = true ∧ (true && true) = true))) ∧ (decide ((8 : Int) < (↑via.length : Int)) = !false →
  ([] : List O) = [] ∧ true = true ∧ (true && true) = true)) ∧ (decide ((↑via.length : Int) < (1 : Int)) = !false → ([] : List O) = [] ∧ true = true ∧ (true && true) = true)) ∧
  ((!true) = !false → ([] : List O) = [] ∧ true = true ∧ (true && true) = true) := by
  simp only [true_and, and_true, implies_true, allT, Bool.and_self, Bool.not_false, List.mem_singleton, List.mem_cons, List.not_mem_nil, or_false, forall_eq, Int.toNat_natCast, vi, vb, vl, vs, strsOf_strs, rtsOf_rts, avpsOf_avps, mAvps, at_, dO, List.map_cons, List.map_nil, bytes_dec, Nat.zero_add, List.nil_append, List.length_cons, List.length_nil, bytes3, size9, pickA, Nat.mul_one, Nat.ble, Nat.beq, Bool.or_false, Bool.true_or, Bool.false_or, Bool.not_true, Bool.and_true, Bool.true_and]
  intro via realm h1 h2 h3 _ k1 k2
  have k1 := of_decide_eq_false k1
  have k2 := of_decide_eq_false k2
  generalize hk : via.length = k at *
  have hk8 : k ≤ 8 := by omega
  refine ⟨⟨_, rfl, by simpa [small] using h3⟩, fun hnm => ⟨⟨by omega, by omega⟩, ⟨by omega, by omega⟩, ⟨0, 0, -2, []⟩, ⟨by show 0 < k; omega, rfl, (fun x hx => by cases hx), List.nodup_nil, (fun hx => by cases hx)⟩, rfl, rfl, rfl, rfl, ?_, ?_⟩⟩
  · intro i hi j hj
    obtain rfl : j = 0 := by omega
    rw [Nat.add_zero, nm_cell i (by omega), strCell, nm_get hi]
  rintro ⟨i, a, fr, by_⟩ ⟨q1, q2, q3, q4, q5⟩
  simp only at q1 q2 q3 q4 q5 ⊢
  have hin : i < k := by
    have hs : (by_ ++ [(nmF k).getD a noStr]).Nodup := by
      rw [List.nodup_append]
      refine ⟨q4, by simp, fun x hx y hy => ?_⟩
      rw [List.mem_singleton] at hy; subst hy
      intro e; subst e; exact q5 hx
    have hsub : ∀ x, x ∈ by_ ++ [(nmF k).getD a noStr] → x ∈ nmF k := fun x hx => by
      rcases List.mem_append.1 hx with hx | hx
      · exact q3 x hx
      · rw [List.mem_singleton] at hx; subst hx
        exact getD_mem (by rw [nm_len hk8]; exact q1)
    have := nodup_le hs hsub
    rw [nm_len hk8, List.length_append, q2] at this
    exact this
  refine ⟨fun _ => ⟨a, 0, ⟨Nat.zero_le _, Nat.zero_le _⟩, rfl, rfl, ?_⟩, fun h => absurd (of_decide_eq_false h) (by omega)⟩
  rintro j ⟨j1, j2⟩
  refine ⟨⟨by omega, by omega⟩, fun hj => ?_, fun hj => ?_⟩
  · rw [Bool.and_eq_true] at hj
    have t1 := of_decide_eq_true hj.1
    have t2 := of_decide_eq_true hj.2
    have := list_len (l := via.getD a []) (k := (k : Int)) (j := j)
    exact ⟨⟨by omega, by omega⟩, ⟨by omega, by omega⟩, by omega, by omega, j + 1, ⟨by omega, by omega⟩, by omega, wrap_nat (by omega), list_step (by omega)⟩
  refine ⟨a, 0, Nat.zero_le _, rfl, rfl, ?_⟩
  intro g hg
  refine ⟨fun ht => ⟨fun hp => ?_, fun hp => ?_⟩, fun ht => ?_⟩
  · have t1 := of_decide_eq_true ht
    have := peers_len (a := a) (j := g)
    refine ⟨by omega, g + 1, by omega, by omega, wrap_nat (by omega), ?_⟩
    rw [peers_step, if_pos hp]
  · have t1 := of_decide_eq_true ht
    refine ⟨g + 1, by omega, by omega, wrap_nat (by omega), ?_⟩
    rw [peers_step, if_neg (by rw [hp]; simp), List.append_nil]
  obtain rfl : g = k := by have := of_decide_eq_false ht; omega
  have hrs : 1 ≤ realm.size := by
    have : okName (List.map (fun b => (b.toNat : Int)) realm.data.toList) = true := by simpa using hnm
    simp only [okName, Bool.and_eq_true, decide_eq_true_eq, List.length_map] at this
    have h := this.2.1
    simpa using h
  simp only [size45, bytes9, rts_one, strs_nm hk8]
  have hpl := peers_len (a := a) (j := g)
  have hll := list_len (l := via.getD a []) (k := (g : Int)) (j := j)
  have hrl := reqF_len realm ⟨#[]⟩ by_
  have hok : okAvps (reqF realm ⟨#[]⟩ by_) := ⟨by unfold small; omega, fun x hx => by
    rw [req_no] at hx
    unfold small
    rcases List.mem_cons.1 hx with rfl | hx
    · simpa [reqAvp, bytesOf] using h3
    · obtain ⟨s, hs, rfl⟩ := List.mem_map.1 hx
      have := nm_small _ (List.mem_of_mem_take (q3 s hs))
      simpa [reqAvp, bytesOf] using this⟩
  refine ⟨⟨by omega, by omega⟩, ⟨by omega, by omega⟩, ?_, ?_, ?_⟩
  · rw [ByteArray.size_extract]
    show ((2 + (min (Int.toNat 1) realm.size - 0) : Nat) : Int) ≤ _
    have : Int.toNat 1 = 1 := rfl
    omega
  all_goals
    refine ⟨⟨realm, ⟨#[]⟩, by_, rfl, by unfold small; omega⟩, ⟨⟨(nmF g).getD a noStr, _, false, peersF a g, [⟨realm, listF (via.getD a []) g j⟩]⟩, nmF g, List.take g [0, 1, 2, 3, 4, 5, 6, 7], ⟨true, false, false, false, 9300, 0, 0, 0, reqF realm ⟨#[]⟩ by_⟩, fr, _, _, _, rfl,
      ⟨by show small (peersF a g).length; unfold small; omega, by rw [nm_len hk8]; exact h1, by rw [List.length_take]; unfold small; omega, hok⟩, ⟨?_, ?_⟩, as_rts _ _, as_nm hk8, asAvps_self _⟩, ?_⟩
    · show small 1; unfold small; omega
    · intro r hr
      obtain rfl := List.mem_singleton.1 hr
      show small (listF (via.getD a []) g j).length
      unfold small; omega
    have hc := pick_cases ⟨(nmF g).getD a noStr, { data := #[120, 45] } ++ realm.extract 0 (Int.toNat 1), false, peersF a g, [⟨realm, listF (via.getD a []) g j⟩]⟩ (nmF g) (List.take g [0, 1, 2, 3, 4, 5, 6, 7]) (reqF realm ⟨#[]⟩ by_) fr
    generalize pickF ⟨(nmF g).getD a noStr, { data := #[120, 45] } ++ realm.extract 0 (Int.toNat 1), false, peersF a g, [⟨realm, listF (via.getD a []) g j⟩]⟩ (nmF g) (List.take g [0, 1, 2, 3, 4, 5, 6, 7]) (reqF realm ⟨#[]⟩ by_) fr = q at hc ⊢
    obtain ⟨to, code⟩ := q
    simp only at hc ⊢
    intro e
    have e : code = 0 := by simpa using e
    have hm : mayF ⟨(nmF g).getD a noStr, { data := #[120, 45] } ++ realm.extract 0 (Int.toNat 1), false, peersF a g, [⟨realm, listF (via.getD a []) g j⟩]⟩ (nmF g) (List.take g [0, 1, 2, 3, 4, 5, 6, 7]) (reqF realm ⟨#[]⟩ by_) fr to = true := by
      rcases hc with hc | hc | hc
      · have := hc.2.2
        rw [find_no] at this
        simp at this
      · exact hc.2
      · omega
    simp only [mayF, Bool.and_eq_true, Bool.not_eq_true', decide_eq_true_eq] at hm
    obtain ⟨⟨⟨⟨⟨m0, m1⟩, _⟩, m3⟩, _⟩, m5⟩ := hm
    rw [nm_len hk8] at m1
    obtain ⟨_, _, hta⟩ := peers_mem (inF_mem m3)
    have hnn : nameF (nmF g) to = (nmF g).getD to.toNat noStr := by rw [nameF, if_neg (by rw [nm_len hk8]; omega)]
    rw [hnn] at m5
    have hnb := pass_no m5
    have hne : (nmF g).getD to.toNat noStr ≠ (nmF g).getD a noStr := fun h => by
      rw [nm_get (by omega), nm_get q1] at h
      have := eight_inj (by omega) (by omega) h
      omega
    refine ⟨fun _ => ⟨fun _ => ⟨fun h => absurd (of_decide_eq_true h) (by omega), fun _ => ⟨⟨by omega, by omega⟩, by omega, by_ ++ [(nmF g).getD a noStr], 0, Nat.zero_le _, rfl, ⟨by simp, ?_⟩, ?_⟩⟩, fun h => absurd (of_decide_eq_true h) (by omega)⟩, fun h => absurd (of_decide_eq_true h) hta⟩
    · intro x hx y hy
      obtain rfl : y = 0 := by omega
      by_cases hlt : x < by_.length
      · have hb : x.blt by_.length = true := by simpa [Nat.blt_eq] using hlt
        rw [hb, _root_.cond_true]
        simp [strCell, List.getD, List.getElem?_append_left hlt]
      · have hb : x.blt by_.length = false := by
          cases e : x.blt by_.length with
          | false => rfl
          | true => exact absurd (by simpa [Nat.blt_eq] using e) hlt
        obtain rfl : x = by_.length := by omega
        rw [hb, _root_.cond_false]
        simp [strCell, List.getD]
    · intro x hx
      refine ⟨fun hlt => ⟨⟨by omega, by have := of_decide_eq_true hlt; omega⟩, ⟨m0, m1⟩, fun he => ?_, fun he => ⟨x + 1, ?_, ?_, wrap_nat ?_⟩⟩, fun hge => ?_⟩
      · exfalso
        have he := of_decide_eq_true he
        have hlt := of_decide_eq_true hlt
        have hxm : (by_ ++ [(nmF g).getD a noStr]).getD x noStr ∈ by_ ++ [(nmF g).getD a noStr] := getD_mem (by omega)
        rw [he] at hxm
        rcases List.mem_append.1 hxm with h | h
        · exact hnb h
        · exact hne (List.mem_singleton.1 h)
      · have := of_decide_eq_true hlt; omega
      · have := of_decide_eq_true hlt; omega
      · have := of_decide_eq_true hlt
        rw [List.length_append] at hx
        simp only [List.length_singleton] at hx
        omega
      · refine ⟨⟨i + 1, to.toNat, a, by_ ++ [(nmF g).getD a noStr]⟩, ⟨?_, ?_, ?_, ?_, ?_⟩, ?_, wrap_nat (by omega), ?_, rfl, rfl, fun _ _ _ _ => rfl⟩
        · show to.toNat < g; omega
        · show (by_ ++ [(nmF g).getD a noStr]).length = i + 1
          simp [q2]
        · intro x hx
          rcases List.mem_append.1 hx with h | h
          · exact q3 x h
          · rw [List.mem_singleton.1 h]
            exact getD_mem (by rw [nm_len hk8]; exact q1)
        · show (by_ ++ [(nmF g).getD a noStr]).Nodup
          rw [List.nodup_append]
          refine ⟨q4, by simp, fun x hx y hy => ?_⟩
          rw [List.mem_singleton] at hy; subst hy
          intro e; subst e; exact q5 hx
        · show (nmF g).getD to.toNat noStr ∉ by_ ++ [(nmF g).getD a noStr]
          intro h
          rcases List.mem_append.1 h with h | h
          · exact hnb h
          · exact hne (List.mem_singleton.1 h)
        · show 60 - (i + 1) < 60 - i; omega
        · show to = ((to.toNat : Nat) : Int); omega
set_option maxRecDepth 100000 in
theorem ok6 : FnIs Try.prog 6 endsC := by
  refine fnIs (C := ctrs b20) (by kernel_rfl) b20_ok Try.func6 (code := code6) (by kernel_rfl) (by kernel_rfl) ?_
  rintro a ⟨via, realm, rfl, h1, h2, h3⟩
  exact ⟨anns [(9, endAnn via.length), (13, lsAnn via), (18, prAnn via.length), (30, byAnn)] [2, 26], kcast (vc6 via realm h1 h2 h3) (by kernel_rfl)⟩

end Go.YR
