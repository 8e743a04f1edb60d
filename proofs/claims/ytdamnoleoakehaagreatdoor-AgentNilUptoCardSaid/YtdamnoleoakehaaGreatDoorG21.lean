/- Part 21 of what the closing text rests on. -/
import Derived.Test.YtdamnoleoakehaaGreatDoorG15
import Derived.Test.YtdamnoleoakehaaGreatDoorG19
import Derived.Test.YtdamnoleoakehaaGreatDoorG20
import Derived.Test.YtdamnoleoakehaaGreatDoorRows
import Derived.JoinedCond
import Derived.OpenShut
import Derived.Lib.LaidTab
import Derived.Deep.DeepHandedRow
set_option maxRecDepth 100000
namespace Go.ZR
open Go.Z Go.ZM Go.Proofs
def nilP : O := .d (.v (.pointer none))
def noD : Nat → Nat → D := fun _ _ => .v undef
def nilC : Ctr := nC 2 false (fun a => ∃ (b : List Int) (p : Int), a = [bsO b, iO .i64 p] ∧ b.length ≤ 1048576 ∧ okB b) fun _ => [bO true]
def issueN : Ctr := nC 5 true (fun a => ∃ (s t : ByteArray) (b : List Int), a = [nilP, .d (.v (.string s)), .d (.v (.string t)), bsO b, iO .i64 1]) fun _ => [iO .i64 0, iO .i64 1]
def upN : Ctr := nC 3 true (fun a => ∃ p : Int, a = [nilP, iO .i64 p, iO .i64 1]) fun _ => []
def recvN : Ctr := nC 4 true (fun a => ∃ (p : Int) (b : List Int), a = [nilP, iO .i64 p, bsO b, iO .i64 1]) fun _ => []
def tickN : Ctr := nC 2 true (fun a => a = [nilP, iO .i64 1]) fun _ => []
def nR (n : Nat) (pre : List O → Prop) (res : List O → List O) : Ctr where
  own := []
  pre := pre
  res := res
  upd := fun _ => List.replicate n .any
  ro := true
  quiet := false
def wantsN : Ctr := nR 1 (fun a => a = [nilP]) fun _ => [.d (.ints .i64 []), .d (.ints .i64 [])]
def openN : Ctr := nR 1 (fun a => a = [nilP]) fun _ => [.d (.ints .i64 [])]
def takeN (m : Nat) : Ctr := nR 1 (fun a => a = [nilP]) fun _ => [.d (.recs m 0 noD)]
def a6 : List (Nat × Ctr) := [(12, ansC), (37, workC), (31, issueN), (18, upN), (29, upN), (25, recvN), (36, tickN), (28, wantsN), (20, openN), (19, takeN 2), (27, takeN 7)]
end Go.ZR

namespace Go.ZR
open Go.Proofs
open Go.Z Go.ZM Go.RowKit
set_option maxRecDepth 100000
noncomputable def iA15c50 : Code := match Tryz.f50.body with | some c => c | none => .skip
noncomputable def iA15_50 : InlF := ⟨iA15c50, Tryz.f50.ntmps, Tryz.f50.results.toList, anns []⟩
noncomputable def iA15 : List (Nat × InlF) := [(50, iA15_50)]
theorem iA15_ok : InlsOk Tryz.prog iA15 := ⟨inlOk Tryz.func50 (by kernel_rfl) (by kernel_rfl), trivial⟩
noncomputable def code31 : Code := match Tryz.f31.body with | some c => c | none => .skip
set_option maxHeartbeats 4000000 in
theorem vc31 : ∀ (_s _t : ByteArray) (_b : List Int), (0 : Int) = (0 : Int) ∧ (1 : Int) = (1 : Int) ∧ true = true := by
  exact fun _ _ _ => ⟨rfl, rfl, rfl⟩
set_option maxRecDepth 100000 in
theorem ok31 : FnIs Tryz.prog 31 issueN := by
  refine fnIs (C := (ctrs c0)) (by kernel_rfl) c0_ok Tryz.func31 (code := code31) (by kernel_rfl) (by kernel_rfl) ?_
  rintro a ⟨s, t, b, rfl⟩
  exact ⟨anns [] [2], kcast (vc31 s t b) (by kernel_rfl)⟩

noncomputable def code18 : Code := match Tryz.f18.body with | some c => c | none => .skip
set_option maxHeartbeats 4000000 in
theorem vc18 : ∀ (_p : Int), true = true := by
  exact fun _ => rfl
set_option maxRecDepth 100000 in
theorem ok18 : FnIs Tryz.prog 18 upN := by
  refine fnIs (C := (ctrsJ Tryz.prog c0 iA15 2)) (by kernel_rfl) (cokJ (by kernel_rfl) c0_ok iA15_ok) Tryz.func18 (code := code18) (by kernel_rfl) (by kernel_rfl) ?_
  rintro a ⟨p, rfl⟩
  exact ⟨anns [], kcast (vc18 p) (by kernel_rfl)⟩

noncomputable def code29 : Code := match Tryz.f29.body with | some c => c | none => .skip
set_option maxHeartbeats 4000000 in
theorem vc29 : ∀ (_p : Int), true = true := by
  exact fun _ => rfl
set_option maxRecDepth 100000 in
theorem ok29 : FnIs Tryz.prog 29 upN := by
  refine fnIs (C := (ctrsJ Tryz.prog c0 iA15 2)) (by kernel_rfl) (cokJ (by kernel_rfl) c0_ok iA15_ok) Tryz.func29 (code := code29) (by kernel_rfl) (by kernel_rfl) ?_
  rintro a ⟨p, rfl⟩
  exact ⟨anns [], kcast (vc29 p) (by kernel_rfl)⟩

noncomputable def code25 : Code := match Tryz.f25.body with | some c => c | none => .skip
set_option maxHeartbeats 4000000 in
theorem vc25 : ∀ (_p : Int) (_b : List Int), true = true := by
  exact fun _ _ => rfl
set_option maxRecDepth 100000 in
theorem ok25 : FnIs Tryz.prog 25 recvN := by
  refine fnIs (C := (ctrsJ Tryz.prog c0 iA15 2)) (by kernel_rfl) (cokJ (by kernel_rfl) c0_ok iA15_ok) Tryz.func25 (code := code25) (by kernel_rfl) (by kernel_rfl) ?_
  rintro a ⟨p, b, rfl⟩
  exact ⟨anns [] [1], kcast (vc25 p b) (by kernel_rfl)⟩

noncomputable def code36 : Code := match Tryz.f36.body with | some c => c | none => .skip
set_option maxHeartbeats 4000000 in
theorem vc36 : true = true := by
  rfl
set_option maxRecDepth 100000 in
theorem ok36 : FnIs Tryz.prog 36 tickN := by
  refine fnIs (C := (ctrs c0)) (by kernel_rfl) c0_ok Tryz.func36 (code := code36) (by kernel_rfl) (by kernel_rfl) ?_
  rintro a rfl
  exact ⟨anns [], kcast (vc36) (by kernel_rfl)⟩

noncomputable def code28 : Code := match Tryz.f28.body with | some c => c | none => .skip
set_option maxHeartbeats 4000000 in
theorem vc28 : (([] : List Int) = ([] : List Int) ∧ ([] : List Int) = ([] : List Int) ∧ true = true) := by
  exact ⟨rfl, rfl, rfl⟩
set_option maxRecDepth 100000 in
theorem ok28 : FnIs Tryz.prog 28 wantsN := by
  refine fnIs (C := (ctrs c0)) (by kernel_rfl) c0_ok Tryz.func28 (code := code28) (by kernel_rfl) (by kernel_rfl) ?_
  rintro a rfl
  exact ⟨anns [], kcast (vc28) (by kernel_rfl)⟩

noncomputable def code20 : Code := match Tryz.f20.body with | some c => c | none => .skip
set_option maxHeartbeats 4000000 in
theorem vc20 : (([] : List Int) = ([] : List Int) ∧ true = true) := by
  exact ⟨rfl, rfl⟩
set_option maxRecDepth 100000 in
theorem ok20 : FnIs Tryz.prog 20 openN := by
  refine fnIs (C := (ctrs c0)) (by kernel_rfl) c0_ok Tryz.func20 (code := code20) (by kernel_rfl) (by kernel_rfl) ?_
  rintro a rfl
  exact ⟨anns [], kcast (vc20) (by kernel_rfl)⟩

noncomputable def code19 : Code := match Tryz.f19.body with | some c => c | none => .skip
set_option maxHeartbeats 4000000 in
theorem vc19 : (0 : Nat) = (0 : Nat) ∧ true = true := by
  exact ⟨rfl, rfl⟩
set_option maxRecDepth 100000 in
theorem ok19 : FnIs Tryz.prog 19 (takeN 2) := by
  refine fnIs (C := (ctrs c0)) (by kernel_rfl) c0_ok Tryz.func19 (code := code19) (by kernel_rfl) (by kernel_rfl) ?_
  rintro a rfl
  exact ⟨anns [], kcast (vc19) (by kernel_rfl)⟩

noncomputable def code27 : Code := match Tryz.f27.body with | some c => c | none => .skip
set_option maxHeartbeats 4000000 in
theorem vc27 : (0 : Nat) = (0 : Nat) ∧ true = true := by
  exact ⟨rfl, rfl⟩
set_option maxRecDepth 100000 in
theorem ok27 : FnIs Tryz.prog 27 (takeN 7) := by
  refine fnIs (C := (ctrs c0)) (by kernel_rfl) c0_ok Tryz.func27 (code := code27) (by kernel_rfl) (by kernel_rfl) ?_
  rintro a rfl
  exact ⟨anns [], kcast (vc27) (by kernel_rfl)⟩

end Go.ZR

namespace Go.ZR
open Go.Proofs
open Go.Z Go.ZM Go.RowKit
set_option maxRecDepth 100000
theorem bstr_app (l m : List Int) : (bstr (l ++ m)).data.toList = (bstr l).data.toList ++ (bstr m).data.toList := by simp [bstr]
theorem bstr_len (l : List Int) : (bstr l).size = l.length := by
  show (bstr l).data.size = _
  simp [bstr]
theorem bstr_did : (bstr [100, 105, 100, 32]).data.toList = [100, 105, 100, 32] := by decide
theorem did_add (b : List Int) : (bstr ([100, 105, 100, 32] ++ b)).data.toList = (ByteArray.mk #[(100 : UInt8), (105 : UInt8), (100 : UInt8), (32 : UInt8)] ++ bstr b).data.toList := by
  rw [bstr_app, bstr_did, ByteArray.data_append, Array.toList_append]
theorem a6_ok : COk Tryz.prog (ctrs a6) := cok_cons ok12 (cok_cons Go.Proofs.YtdamnoleoakehaaGreatDoor.ok37 (cok_cons ok31 (cok_cons ok18 (cok_cons ok29 (cok_cons ok25 (cok_cons ok36 (cok_cons ok28 (cok_cons ok20 (cok_cons ok19 (cok_cons ok27 cok_nil))))))))))
noncomputable def code10 : Code := match Tryz.f10.body with | some c => c | none => .skip
set_option maxHeartbeats 4000000 in
theorem vc10 : ∀ (b : List Int) (p : Int), b.length ≤ (1048576 : Nat) → okB b → True ∧ ((0 : Nat) + b.length) * Tryz.prog.types[(5 : Nat)].bytes ≤ (140737488355328 : Nat) ∧
  (∃ (s : ByteArray), ∃ (t : ByteArray), ∃ (b_1 : List Int), [O.d (D.v (Value.pointer none)), O.d (D.v (Value.string (ByteArray.mk #[(114 : UInt8)]))), O.d (D.v (Value.string (ByteArray.mk #[]))), O.d (D.ints IntKind.u8 ([] ++ b)), O.d (D.v (Value.int IntKind.i64 (1 : Int)))] = [O.d (D.v (Value.pointer none)), O.d (D.v (Value.string s)), O.d (D.v (Value.string t)), O.d (D.ints IntKind.u8 b_1), O.d (D.v (Value.int IntKind.i64 (1 : Int)))]) ∧
  (∃ (p_1 : Int), [O.d (D.v (Value.pointer none)), O.d (D.v (Value.int IntKind.i64 p)), O.d (D.v (Value.int IntKind.i64 (1 : Int)))] = [O.d (D.v (Value.pointer none)), O.d (D.v (Value.int IntKind.i64 p_1)), O.d (D.v (Value.int IntKind.i64 (1 : Int)))]) ∧
  (∃ (p_1 : Int), [O.d (D.v (Value.pointer none)), O.d (D.v (Value.int IntKind.i64 p)), O.d (D.v (Value.int IntKind.i64 (1 : Int)))] = [O.d (D.v (Value.pointer none)), O.d (D.v (Value.int IntKind.i64 p_1)), O.d (D.v (Value.int IntKind.i64 (1 : Int)))]) ∧
  True ∧ ((0 : Nat) + b.length) * Tryz.prog.types[(5 : Nat)].bytes ≤ (140737488355328 : Nat) ∧ (∃ (p_1 : Int), ∃ (b_1 : List Int), [O.d (D.v (Value.pointer none)), O.d (D.v (Value.int IntKind.i64 p)), O.d (D.ints IntKind.u8 ([] ++ b)), O.d (D.v (Value.int IntKind.i64 (1 : Int)))] = [O.d (D.v (Value.pointer none)), O.d (D.v (Value.int IntKind.i64 p_1)), O.d (D.ints IntKind.u8 b_1), O.d (D.v (Value.int IntKind.i64 (1 : Int)))]) ∧
  [O.d (D.v (Value.pointer none)), O.d (D.v (Value.int IntKind.i64 (1 : Int)))] = [O.d (D.v (Value.pointer none)), O.d (D.v (Value.int IntKind.i64 (1 : Int)))] ∧
  [O.d (D.v (Value.pointer none))] = [O.d (D.v (Value.pointer none))] ∧ (([] : List O) = [] ∧ (True ∧ ((([O.d (D.v (Value.pointer none))] = [O.d (D.v (Value.pointer none))] ∧
  True ∧ ((([O.d (D.v (Value.pointer none))] = [O.d (D.v (Value.pointer none))] ∧ True ∧ ((True ∧ ((True ∧ ((([O.d (D.v (Value.pointer none))] = [O.d (D.v (Value.pointer none))] ∧
  True ∧ (((↑((ByteArray.mk #[(100 : UInt8), (105 : UInt8), (100 : UInt8), (32 : UInt8)]).size + (bstr b).size) : Int) ≤ (9223372036854775807 : Int) ∧ ((∃ (l : List Int), [O.d (D.ints IntKind.u8 b)] = [O.d (D.ints IntKind.u8 l)] ∧
  sm l.length) ∧ True ∧ (decide ((bstr ([(100 : Int), (105 : Int), (100 : Int), (32 : Int)] ++ b)).data.toList = (ByteArray.mk #[(100 : UInt8), (105 : UInt8), (100 : UInt8), (32 : UInt8)] ++ bstr b).data.toList) = true ∧
  true = true) ∧ True) ∧ True) ∧ ((↑((ByteArray.mk #[(100 : UInt8), (105 : UInt8), (100 : UInt8), (32 : UInt8)]).size + (bstr b).size) : Int) ≤ (9223372036854775807 : Int) ∧
  ((∃ (l : List Int), [O.d (D.ints IntKind.u8 b)] = [O.d (D.ints IntKind.u8 l)] ∧ sm l.length) ∧ True ∧ (decide ((bstr ([(100 : Int), (105 : Int), (100 : Int), (32 : Int)] ++ b)).data.toList = (ByteArray.mk #[(100 : UInt8), (105 : UInt8), (100 : UInt8), (32 : UInt8)] ++ bstr b).data.toList) = true ∧
  true = true) ∧ True) ∧ True) ∧ True) ∧ True) ∧ True) ∧ True) ∧ True) ∧ True) ∧ True) ∧ True) ∧ True) ∧ True) ∧ True) ∧ True) ∧ True) ∧ True) ∧ True) ∧ True) ∧
  True := by
  intro b p h hb
  have h5 : (0 + b.length) * Tryz.prog.types[(5 : Nat)].bytes ≤ 140737488355328 := by rw [bytes5]; omega
  have hs : ((((ByteArray.mk #[(100 : UInt8), (105 : UInt8), (100 : UInt8), (32 : UInt8)]).size + (bstr b).size : Nat) : Int)) ≤ 9223372036854775807 := by
    rw [bstr_len, show (ByteArray.mk #[(100 : UInt8), (105 : UInt8), (100 : UInt8), (32 : UInt8)]).size = 4 from rfl]
    omega
  repeat' (first | exact trivial | exact h5 | exact hs | exact decide_eq_true (did_add b) | exact rfl | exact ⟨_, rfl⟩ | exact ⟨_, _, rfl⟩ | exact ⟨_, _, _, rfl⟩ | exact ⟨_, rfl, by unfold sm; omega⟩ | refine And.intro ?_ ?_)
set_option maxRecDepth 100000 in
theorem ok10 : FnIs Tryz.prog 10 nilC := by
  refine fnIs (C := (ctrs a6)) (by kernel_rfl) a6_ok Tryz.func10 (code := code10) (by kernel_rfl) (by kernel_rfl) ?_
  rintro a ⟨b, p, rfl, h, hb⟩
  exact ⟨anns [] [8], kcast (vc10 b p h hb) (by kernel_rfl)⟩

end Go.ZR

namespace Go.Z
open Go.ChangeShapes Go.WideShapes Go.ChangeAt Go.RowKit
open Go.Proofs.YtdamnoleoakehaaGreatDoor.Rows (uptoBulk uptoBulkAll)

inductive Sh where
  | int (k : IntKind)
  | bool
  | str
  | ints (k : IntKind)
  | recs (l : List Sh)

def flatFs (f : Nat → Option (List Sh)) (co : Nat → Nat) : List Field → Nat → Option (List Sh)
  | [], _ => some []
  | x :: l, o => cond (Nat.beq x.offset o) (match f x.type with
    | some a => cond (Nat.beq (co x.type) a.length) (match flatFs f co l (o + a.length) with
      | some b => some (a ++ b)
      | none => none) none
    | none => none) none

def flat (P : Program) : Nat → Nat → Option (List Sh)
  | 0, _ => none
  | n + 1, t => match P.underlying t with
    | some (.int k) => some [.int k]
    | some .bool => some [.bool]
    | some .string => some [.str]
    | some (.slice e) => match P.underlying e with
      | some (.int k) => cond (Nat.beq (P.cellsOf e) 1) (some [.ints k]) none
      | _ => match flat P n e with
        | some (s :: l) => cond (Nat.beq (P.cellsOf e) (l.length + 1)) (some [.recs (s :: l)]) none
        | _ => none
    | some (.struct fs) => match flatFs (flat P n) P.cellsOf fs.toList 0 with
      | some l => cond (Nat.beq (P.cellsOf t) l.length) (some l) none
      | none => none
    | _ => none

mutual
def fits (N : Nat) : Sh → D → Prop
  | .int k, d => ∃ n, d = .v (.int k n) ∧ k.min ≤ n ∧ n ≤ k.max
  | .bool, d => ∃ b, d = .v (.bool b)
  | .str, d => ∃ s : ByteArray, d = .v (.string s) ∧ s.size ≤ N
  | .ints k, d => ∃ xs, d = .ints k xs ∧ (∀ x, x ∈ xs → k.min ≤ x ∧ x ≤ k.max) ∧ xs.length ≤ N
  | .recs l, d => ∃ n f, d = .recs l.length n f ∧ n ≤ N ∧ ∀ i, i < n → fitsL N l (f i)
def fitsL (N : Nat) : List Sh → (Nat → D) → Prop
  | [], _ => True
  | s :: l, g => fits N s (g 0) ∧ fitsL N l fun j => g (j + 1)
end

theorem DL.append {X : Nat → Prop} {w : World} : ∀ {a b : List D} {u v : List Value}, DL.holds X w a u → DL.holds X w b v → DL.holds X w (a ++ b) (u ++ v)
  | [], _, [], _, _, hb => hb
  | [], _, _ :: _, _, ha, _ => ha.elim
  | _ :: _, _, [], _, ha, _ => ha.elim
  | _ :: _, _, _ :: _, _, ha, hb => ⟨ha.1, DL.append ha.2 hb⟩
theorem fitsL_append {N : Nat} : ∀ {l m : List Sh} {a b : List D}, a.length = l.length → fitsL N l (fun j => a.getD j (.v undef)) → fitsL N m (fun j => b.getD j (.v undef)) → fitsL N (l ++ m) (fun j => (a ++ b).getD j (.v undef))
  | [], m, [], b, _, _, hb => by simpa using hb
  | [], _, _ :: _, _, h, _, _ => by simp at h
  | _ :: _, _, [], _, h, _, _ => by simp at h
  | s :: l, m, x :: a, b, h, ha, hb => by
    simp only [List.cons_append, fitsL, List.getD_cons_zero, List.getD_cons_succ] at ha ⊢
    exact ⟨ha.1, fitsL_append (by simpa using h) ha.2 hb⟩

section
variable {H : Type} {enc : TypeId × Value → H} {P : Program} {w : World} {base : Nat} {held : Bool}

theorem bulk_pos (d : DataW H) : 1 ≤ uptoBulk d := by
  cases d with
  | lit l => cases l <;> simp [uptoBulk]
  | _ => simp [uptoBulk]
theorem bulk_mem : ∀ {l : List (DataW H)} {d : DataW H}, d ∈ l → uptoBulk d ≤ uptoBulkAll l
  | [], _, h => by cases h
  | x :: l, d, h => by
    simp only [uptoBulkAll]
    rcases List.mem_cons.1 h with rfl | h
    · omega
    · have := bulk_mem h; omega
theorem bulk_len : ∀ (l : List (DataW H)), l.length ≤ uptoBulkAll l
  | [] => by simp
  | x :: l => by
    have := bulk_len l
    have := bulk_pos x
    simp only [uptoBulkAll, List.length_cons]; omega

def Bnd (N : Nat) (d : DataW H) : Prop := uptoBulk d ≤ N ∨ maxLen ≤ N

theorem ints_trod {t e : TypeId} {k : IntKind} {fuel : Nat} {cs : List Value} {x : DataW H × List MemPlace} (ht : P.underlying t = some (.slice e)) (he : P.underlying e = some (.int k)) (hc : P.cellsOf e = 1)
    (hf : DataW.trod enc P w base (fun _ => true) held fuel t cs = some x) {N : Nat} (hb : Bnd N x.1) :
    ∃ v xs, cs = [v] ∧ (D.ints k xs).holds (fun _ => True) w v ∧ (∀ y, y ∈ xs → k.min ≤ y ∧ y ≤ k.max) ∧ xs.length ≤ N := by
  rcases open_ints ht he hc hf with ⟨rfl, _⟩ | ⟨a, len, cap, zs, rfl, _, hl, hm, hz, hx, hcell, hwz⟩
  · exact ⟨_, [], rfl, D.holds_ints.2 ⟨nilLoc, rfl, .inl rfl, fun h => absurd rfl h, rfl, Nat.le_refl _, fun i z hi => by simp at hi⟩, by simp, by simp⟩
  · simp at hz
    have hlen : (zs.take len).length = len := by simp; omega
    have hxs : ∀ y, y ∈ zs.take len → k.min ≤ y ∧ y ≤ k.max := fun y hy => by
      have := hwz y (List.mem_of_mem_take hy)
      simpa [Lit.wf] using this
    have hN : (zs.take len).length ≤ N := by
      rcases hb with hb | hb
      · rw [hx] at hb
        simp only [uptoBulk] at hb
        have := bulk_len (lits (H := H) k (zs.take len))
        have h2 : (lits (H := H) k (zs.take len)).length = (zs.take len).length := by simp [lits]
        omega
      · omega
    by_cases hcap : cap = 0
    · refine ⟨_, zs.take len, rfl, D.holds_ints.2 ⟨⟨some a, len, cap⟩, rfl, .inl hcap, fun hne => absurd hne (by show ¬ len ≠ 0; omega), hlen.symm, hl, fun i z hi => ?_⟩, hxs, hN⟩
      have := (List.getElem?_eq_some_iff.1 hi).1
      omega
    · have h0 := hcell 0 (by omega)
      have ha := spot_none h0
      have ha' : a = ⟨a.block, a.off, none⟩ := by simpa [Addr.add] using ha
      generalize hbb : a.block = b at *
      generalize ho : a.off = o at *
      subst ha'
      refine ⟨_, zs.take len, rfl, D.holds_ints.2 ⟨⟨some ⟨b, o, none⟩, len, cap⟩, rfl, .inr rfl, fun hne => ⟨trivial, lt_of_cell (b := b) (o := o) (by rw [add_spot] at h0; exact h0)⟩, hlen.symm, hl, fun i z hi => ?_⟩, hxs, hN⟩
      have hi1 := (List.getElem?_eq_some_iff.1 hi).1
      have hc := hcell i (by omega)
      rw [add_spot] at hc
      have : zs.getD i 0 = z := by
        rw [List.getElem?_take] at hi
        split at hi
        · simp [List.getD_eq_getElem?_getD, hi]
        · cases hi
      rw [this] at hc
      exact hc

def Opens (w : World) (N : Nat) (shs : List Sh) (cs : List Value) : Prop :=
  ∃ ds : List D, ds.length = shs.length ∧ fitsL N shs (fun j => ds.getD j (.v undef)) ∧ DL.holds (fun _ => True) w ds cs

theorem flds_open {fuel : Nat} {f : Nat → Option (List Sh)} {N : Nat} {cs : List Value}
    (ih : ∀ t c (x : DataW H × List MemPlace) shs, DataW.trod enc P w base (fun _ => true) held fuel t c = some x → f t = some shs → Bnd N x.1 → Opens w N shs c) :
    ∀ (l : List Field) (o : Nat) (shs : List Sh) (xs : List (DataW H × List MemPlace)), flatFs f P.cellsOf l o = some shs → xs.length = l.length →
      (∀ (i : Nat) (fl : Field), l[i]? = some fl → DataW.trod enc P w base (fun _ => true) held fuel fl.type ((cs.drop fl.offset).take (P.cellsOf fl.type)) = xs[i]?) → (∀ x, x ∈ xs → Bnd N x.1) →
      Opens w N shs ((cs.drop o).take shs.length)
  | [], o, shs, xs, hf, _, _, _ => by
    simp [flatFs] at hf; subst hf
    exact ⟨[], rfl, by simp [fitsL], by simp; trivial⟩
  | fl :: l, o, shs, [], _, hl, _, _ => by simp at hl
  | fl :: l, o, shs, x :: xs, hf, hl, hx, hb => by
    unfold flatFs at hf
    cases ho : Nat.beq fl.offset o with
    | false => rw [ho] at hf; cases hf
    | true =>
      rw [ho] at hf
      simp only [_root_.cond_true] at hf
      split at hf <;> try (cases hf; done)
      rename_i a ha
      cases hc : Nat.beq (P.cellsOf fl.type) a.length with
      | false => rw [hc] at hf; cases hf
      | true =>
        rw [hc] at hf
        simp only [_root_.cond_true] at hf
        split at hf <;> cases hf
        rename_i b hb'
        have ho := Nat.eq_of_beq_eq_true ho
        have hc := Nat.eq_of_beq_eq_true hc
        have h0 := hx 0 fl rfl
        rw [ho, hc] at h0
        obtain ⟨d1, a1, a2, a3⟩ := ih _ _ _ _ h0 ha (hb x (by simp))
        obtain ⟨d2, b1, b2, b3⟩ := flds_open ih l (o + a.length) b xs hb' (by simpa using hl) (fun i g hg => hx (i + 1) g (by simpa using hg)) (fun y hy => hb y (by simp [hy]))
        refine ⟨d1 ++ d2, by simp [a1, b1], fitsL_append a1 a2 b2, ?_⟩
        rw [List.length_append, List.take_add, List.drop_drop]
        exact DL.append a3 b3

theorem deep : ∀ (m : Nat) (t : TypeId) (fuel : Nat) (cs : List Value) (x : DataW H × List MemPlace) (shs : List Sh) (N : Nat),
    DataW.trod enc P w base (fun _ => true) held fuel t cs = some x → flat P m t = some shs → Bnd N x.1 → Opens w N shs cs
  | 0, _, _, _, _, _, _, _, hs, _ => by simp [flat] at hs
  | m + 1, t, fuel, cs, x, shs, N, hf, hs, hb => by
    unfold flat at hs
    split at hs
    · rename_i k ht
      cases hs
      obtain ⟨n, rfl, rfl, hw⟩ := DataW.trod_int ht hf
      exact ⟨[.v (.int k n)], rfl, by simp only [fitsL, fits, and_true]; exact ⟨n, rfl, by simpa [Lit.wf] using hw⟩, ⟨rfl, rfl⟩, trivial⟩
    · rename_i ht
      cases hs
      obtain ⟨b, rfl, rfl⟩ := DataW.trod_bool ht hf
      exact ⟨[.v (.bool b)], rfl, by simp only [fitsL, fits, and_true]; exact ⟨b, rfl⟩, ⟨rfl, rfl⟩, trivial⟩
    · rename_i ht
      cases hs
      obtain ⟨s, rfl, rfl, hm⟩ := DataW.trod_string ht hf
      refine ⟨[.v (.string s)], rfl, ?_, ⟨rfl, rfl⟩, trivial⟩
      simp only [fitsL, fits, and_true]
      refine ⟨s, rfl, ?_⟩
      rcases hb with hb | hb
      · simp only [uptoBulk] at hb
        have : s.data.toList.length = s.size := Array.length_toList
        omega
      · omega
    · rename_i e ht
      split at hs
      · rename_i k he
        cases hc : Nat.beq (P.cellsOf e) 1 with
        | false => rw [hc] at hs; cases hs
        | true =>
          rw [hc] at hs
          cases hs
          obtain ⟨v, xs, rfl, h1, h2, h3⟩ := ints_trod ht he (Nat.eq_of_beq_eq_true hc) hf hb
          exact ⟨[.ints k xs], rfl, by simp only [fitsL, fits, and_true]; exact ⟨xs, rfl, h2, h3⟩, h1, trivial⟩
      · split at hs
        · rename_i s l hfl
          cases hc : Nat.beq (P.cellsOf e) (l.length + 1) with
          | false => rw [hc] at hs; cases hs
          | true =>
            rw [hc] at hs
            cases hs
            have hc := Nat.eq_of_beq_eq_true hc
            rcases DataW.trod_slice ht hf with ⟨rfl, rfl⟩ | ⟨a, len, cap, elems, rest, n, rfl, rfl, rfl, hbs, hl, hm, hlen, hel, hsp, -⟩
            · refine ⟨[.recs (l.length + 1) 0 fun _ _ => .v undef], rfl, ?_, D.holds_recs.2 ⟨nilLoc, rfl, .inl rfl, fun h => absurd rfl h, rfl, Nat.le_refl _, fun i hi => by omega⟩, trivial⟩
              simp only [fitsL, fits, and_true]
              exact ⟨0, fun _ _ => .v undef, rfl, Nat.zero_le _, fun i hi => by omega⟩
            · have hN : len ≤ N := by
                rcases hb with hb | hb
                · simp only [uptoBulk] at hb
                  have := bulk_len (elems.map (·.1))
                  simp at this
                  omega
                · omega
              have each : ∀ i, i < len → ∃ c, w.cells? base (a.add (i * P.cellsOf e)) (P.cellsOf e) = some c ∧ Opens w N (s :: l) c := fun i hi => by
                have h1 := hel i hi
                have hy : elems[i]? = some elems[i] := List.getElem?_eq_getElem (by omega)
                rw [hy, Option.bind_eq_some_iff] at h1
                obtain ⟨c, h1, h2⟩ := h1
                refine ⟨c, h1, deep m e n c _ _ N h2 hfl ?_⟩
                rcases hb with hb | hb
                · left
                  simp only [uptoBulk] at hb
                  have : uptoBulk (elems[i]).1 ≤ uptoBulkAll (elems.map (·.1)) := bulk_mem (List.mem_map_of_mem (List.getElem_mem _))
                  omega
                · exact .inr hb
              have each' : ∀ i, ∃ ds : List D, i < len → fitsL N (s :: l) (fun j => ds.getD j (.v undef)) ∧ ∃ c, w.cells? base (a.add (i * P.cellsOf e)) (P.cellsOf e) = some c ∧ DL.holds (fun _ => True) w ds c ∧ ds.length = l.length + 1 := fun i => by
                by_cases hi : i < len
                · obtain ⟨c, h1, ds, h2, h3, h4⟩ := each i hi
                  exact ⟨ds, fun _ => ⟨h3, c, h1, h4, h2⟩⟩
                · exact ⟨[], fun h => absurd h hi⟩
              have hF' := fun i => Classical.choose_spec (each' i)
              generalize hFF : (fun i => Classical.choose (each' i)) = F
              have hF : ∀ i, i < len → fitsL N (s :: l) (fun j => (F i).getD j (.v undef)) ∧ ∃ c, w.cells? base (a.add (i * P.cellsOf e)) (P.cellsOf e) = some c ∧ DL.holds (fun _ => True) w (F i) c ∧ (F i).length = l.length + 1 := fun i => by rw [← hFF]; exact hF' i
              clear hF' hFF
              have first : cap ≠ 0 → ∃ c, w.cells? base (a.add (0 * P.cellsOf e)) (P.cellsOf e) = some c := fun hne => by
                by_cases h0 : len = 0
                · obtain ⟨r1, r2⟩ := hsp rfl
                  have h1 := r2 0 (by omega)
                  have hy : rest[0]? = some rest[0] := List.getElem?_eq_getElem (by omega)
                  rw [hy, Option.bind_eq_some_iff] at h1
                  obtain ⟨c, h1, _⟩ := h1
                  exact ⟨c, by rw [show 0 * P.cellsOf e = (len + 0) * P.cellsOf e by rw [h0]]; exact h1⟩
                · obtain ⟨_, c, h1, _⟩ := hF 0 (by omega)
                  exact ⟨c, h1⟩
              have spot : cap ≠ 0 → a = ⟨a.block, a.off, none⟩ ∧ a.block < w.heap.size := fun hne => by
                obtain ⟨c, h1⟩ := first hne
                obtain ⟨_, h4, h5⟩ := World.cells?_some h1
                have h6 := h5 0 (by omega)
                have hc0 : c[0]? = some c[0] := List.getElem?_eq_getElem (by omega)
                rw [hc0, Nat.zero_mul] at h6
                have h7 : w.cell? a = some c[0] := by simpa [Addr.add] using h6
                refine ⟨spot_none h7, ?_⟩
                rw [spot_none h7] at h7
                exact lt_of_cell h7
              refine ⟨[.recs (l.length + 1) len fun i j => (F i).getD j (.v undef)], rfl, ?_, ?_, trivial⟩
              · simp only [fitsL, fits, and_true]
                exact ⟨len, _, rfl, hN, fun i hi => by have := (hF i hi).1; simpa only [fitsL] using this⟩
              · by_cases h0 : cap = 0
                · exact D.holds_recs.2 ⟨⟨some a, len, cap⟩, rfl, .inl h0, fun h => absurd h (by show ¬ len ≠ 0; omega), rfl, hl, fun i hi => by omega⟩
                · obtain ⟨hs1, hs2⟩ := spot h0
                  generalize hbb : a.block = b at *
                  generalize hoo : a.off = o at *
                  subst hs1
                  refine D.holds_recs.2 ⟨⟨some ⟨b, o, none⟩, len, cap⟩, rfl, .inr rfl, fun _ => ⟨trivial, hs2⟩, rfl, hl, fun i hi j hj => ?_⟩
                  obtain ⟨_, c, h1, h2, h3⟩ := hF i hi
                  obtain ⟨c', e1, e2⟩ := DL.getD h2 j (by omega)
                  obtain ⟨_, h4, h5⟩ := World.cells?_some h1
                  refine ⟨c', ?_, e2⟩
                  have := h5 j (by omega)
                  rw [add_spot, add_spot, e1, hc] at this
                  rw [Nat.add_assoc] at this
                  exact this
        · cases hs
    · rename_i fs ht
      split at hs
      · rename_i l hfl
        cases hc : Nat.beq (P.cellsOf t) l.length with
        | false => rw [hc] at hs; cases hs
        | true =>
          rw [hc] at hs
          cases hs
          obtain ⟨xs, n, rfl, rfl, h1, h2, h3⟩ := DataW.trod_struct ht hf
          have := flds_open (cs := cs) (N := N) (fun t c x shs a1 a2 a3 => deep m t n c x shs N a1 a2 a3) fs.toList 0 _ xs hfl (by simpa using h2) (fun i fl hi => h3 i fl (by simpa using hi)) (fun y hy => by
            rcases hb with hb | hb
            · left
              simp only [uptoBulk] at hb
              have : uptoBulk y.1 ≤ uptoBulkAll (xs.map (·.1)) := bulk_mem (List.mem_map_of_mem hy)
              omega
            · exact .inr hb)
          rw [List.drop_zero, List.take_of_length_le (by rw [h1, Nat.eq_of_beq_eq_true hc]; exact Nat.le_refl _)] at this
          exact this
      · cases hs
    · cases hs
end
end Go.Z

set_option maxRecDepth 100000
namespace Go.ZR
open Go.Proofs
open Go.ChangeShapes Go.WideShapes Go.ChangeAt Go.RowKit
open Go.Z Go.ZM

theorem ol_consO {X : Nat → Prop} {w : World} {o : O} {v : Value} {l : List O} {vs : List Value} (h : O.holds X w o v []) (t : OL.holds X w l vs []) : OL.holds X w (o :: l) (v :: vs) [] := by
  simp only [OL.holds]; exact ⟨[], [], rfl, h, t⟩
theorem o_d {X : Nat → Prop} {w : World} {d : D} {v : Value} (h : d.holds X w v) : O.holds X w (.d d) v [] := by
  simp only [O.holds]; exact ⟨h, trivial⟩
theorem u8_in {n : Int} (h : IntKind.u8.min ≤ n ∧ n ≤ IntKind.u8.max) : 0 ≤ n ∧ n ≤ 255 := h

section
variable {H : Type} {enc : TypeId × Value → H} {W : World}
theorem slice_cells {t e : TypeId} {b0 : Nat} {r : Reach} {v : Value} (he : Tryz.prog.underlying t = some (.slice e)) (hv : Value.okWide Tryz.prog W r b0 t v) : v.cells.toList = [v] := by
  obtain ⟨a, l, c, rfl⟩ := okWide_slice he hv
  rfl
theorem int_cells {t : TypeId} {k : IntKind} {b0 : Nat} {r : Reach} {v : Value} (he : Tryz.prog.underlying t = some (.int k)) (hv : Value.okWide Tryz.prog W r b0 t v) : v.cells.toList = [v] := by
  obtain ⟨n, rfl⟩ := okWide_int he hv
  rfl
theorem open_one {t : TypeId} {s : Sh} {v : Value} {d : DataW H} {ps : List MemPlace} {base N : Nat} (hc : v.cells.toList = [v]) (hfl : flat Tryz.prog 8 t = some [s]) (h : DataW.Trod enc Tryz.prog W base (fun _ => true) true t v d ps) (hb : Bnd N d) :
    ∃ a : D, fits N s a ∧ a.holds (fun _ => True) W v := by
  obtain ⟨fuel, hf⟩ := h
  rw [hc] at hf
  obtain ⟨ds, h1, h2, h3⟩ := deep 8 t fuel _ _ _ N hf hfl hb
  match ds, h1 with
  | [a0], _ =>
    simp only [fitsL, List.getD_cons_zero] at h2
    exact ⟨a0, h2.1, h3.1⟩
theorem flat41 : flat Tryz.prog 8 41 = some [.ints .u8] := by kernel_rfl
theorem flat3 : flat Tryz.prog 8 3 = some [.int .i64] := by kernel_rfl
theorem open41 {b0 : Nat} {r : Reach} {v : Value} {d : DataW H} {ps : List MemPlace} {base : Nat} (hv : Value.okWide Tryz.prog W r b0 41 v) (h : DataW.Trod enc Tryz.prog W base (fun _ => true) true 41 v d ps) (hb : Bnd 1048576 d) :
    ∃ l : List Int, (l.length ≤ 1048576 ∧ okB l) ∧ O.holds (fun _ => True) W (bsO l) v [] := by
  obtain ⟨a, h2, h3⟩ := open_one (slice_cells Tryz.underlying41 hv) flat41 h hb
  simp only [fits] at h2
  obtain ⟨l, rfl, hx, hl⟩ := h2
  exact ⟨l, ⟨hl, fun x h => u8_in (hx x h)⟩, o_d h3⟩
theorem open3 {b0 : Nat} {r : Reach} {v : Value} {d : DataW H} {ps : List MemPlace} {base : Nat} (hv : Value.okWide Tryz.prog W r b0 3 v) (h : DataW.Trod enc Tryz.prog W base (fun _ => true) true 3 v d ps) (hb : Bnd 1048576 d) :
    ∃ n : Int, True ∧ O.holds (fun _ => True) W (iO .i64 n) v [] := by
  obtain ⟨a, h2, h3⟩ := open_one (int_cells Tryz.underlying3 hv) flat3 h hb
  simp only [fits] at h2
  obtain ⟨n, rfl, _⟩ := h2
  exact ⟨n, trivial, o_d h3⟩
end
end Go.ZR
namespace Go.Proofs.YtdamnoleoakehaaGreatDoor
open Go.RowKit
open Go.Z Go.ZM Go.ZR
theorem Tryz.own : ownKnob Tryz.prog.godebug = none := by kernel_rfl
theorem Tryz.laidOut : laidOutB Tryz.prog = true := by kernel_rfl
theorem bulk_in {H : Type} {d : DataW H} {ds : List (DataW H)} (hk : Rows.uptoSmall H (ds ++ []) = true) (hd : d ∈ ds) : Bnd 1048576 d := by
  have h := of_decide_eq_true hk
  rw [List.append_nil] at h
  exact .inl (Nat.le_trans (bulk_mem hd) h)
def cell1 : DataW Unit → Value
  | .lit (.int k z) => .int k z
  | _ => undef
def cells1 : DataW Unit → List Value
  | .agg ps => ps.map cell1
  | d => [cell1 d]
def cells2 : DataW Unit → List Value
  | .agg ps => ps.flatMap cells1
  | _ => []
def anew (l : List Value) : Obj → Obj
  | .cells _ t frozen => .cells l.toArray t frozen
  | o => o
noncomputable def laidWorld (os : Os) : World :=
  { World.holding Tryz.prog os ⟨#[], #[], []⟩ with heap := ((World.holding Tryz.prog os ⟨#[], #[], []⟩).heap.modify 0 (anew (cells1 Go.Pinned.utf8First))).modify 1 (anew (cells2 Rows.laid_unicode_utf8_acceptRanges)) }
end Go.Proofs.YtdamnoleoakehaaGreatDoor

set_option maxRecDepth 100000
namespace Go.Proofs.YtdamnoleoakehaaGreatDoor
open Go.RowKit
theorem pf_laid : laidOutB Tryz.prog = true := by kernel_rfl
theorem pf_maps : mapsRowed Tryz.prog = true := by kernel_rfl
theorem pf_stops : (Tryz.prog.stops == []) = true := by kernel_rfl
theorem pf_knobs : (Tryz.prog.stopKnobs == []) = true := by kernel_rfl
theorem pf_keys : (Rows.agentNilUptoRow.plainKeys == Tryz.prog.plainKeys) = true := by kernel_rfl
theorem pf_heard : Tryz.prog.stopsHeard = true := by kernel_rfl
theorem pf_enter : Tryz.prog.mayEnter = true := by kernel_rfl
theorem pf_lift : (Rows.agentNilUptoRow.lifted == Tryz.prog.liftsFinal) = true := by kernel_rfl
theorem pf_make : (Tryz.prog.make == some Rows.agentNilUptoRow.make) = true := by kernel_rfl
theorem and_tt {a b : Bool} (h : a = true) (k : b = true) : (a && b) = true := by rw [h, k]; rfl
theorem joined_of {f : FuncId} {fn : Func} {s : ChangeSpec} {c : OpenClaim} (h0 : c.wf (OpenSpec.ofChange s) = true) (h3 : fn.params.all (Tryz.prog.readableRec ·) = true) (h4 : namedTie Tryz.prog c.named s.vars = true)
    (h5 : (c.stops == []) = true) (h7 : (c.knobs == []) = true) (h9 : (c.inPlace == Tryz.prog.inPlace f) = true) (h10 : (c.unfollowed == Tryz.prog.unfollowed f) = true) (h11 : (c.recurses == Tryz.prog.recurses f) = true) (h12 : (c.named == Tryz.prog.varsNamed f) = true)
    (h13 : (c.maps == (fn.params.toList ++ s.plain.varTypes Tryz.prog).any (Tryz.prog.mapsRec ·)) = true) (h14 : (c.ifaces == (fn.params.toList ++ s.plain.varTypes Tryz.prog).any (Tryz.prog.ifacesRec ·)) = true) (h15 : (c.mapsOut == Tryz.prog.mapsAmong fn.resultTypes.toList) = true)
    (h16 : (c.loops == (fn.params.toList ++ s.plain.varTypes Tryz.prog).any (Tryz.prog.loopsFrom ·)) = true) (h17 : (c.wideKeys == (fn.params.toList ++ s.plain.varTypes Tryz.prog ++ fn.resultTypes.toList).any (Tryz.prog.wideKeysFrom ·)) = true)
    (h18 : s.vars.all (Tryz.prog.varReadable ·) = true) (h19 : fn.resultTypes.all (fun t => Tryz.prog.readableRec t && decide (t < Tryz.prog.types.size)) = true) (h20 : (c.ifacesOut == fn.resultTypes.toList.any (Tryz.prog.ifacesRec ·)) = true) (h21 : (c.loopsOut == fn.resultTypes.toList.any (Tryz.prog.loopsFrom ·)) = true)
    (h22 : (c.plainKeys == Tryz.prog.plainKeys) = true) (h23 : c.shortTexts.isNone = true) (h26 : (c.lifted == Tryz.prog.liftsFinal) = true) (h27 : (Tryz.prog.make == some c.make) = true)
    (h28 : (c.kinds == (if c.domain.isEmpty then [] else fn.params.toList.map fun t => match Tryz.prog.underlying t with | some (.int k) => some k | _ => none)) = true) (h29 : (c.pinned == c.pinnedBy) = true)
    (h30 : (c.veiled == (fn.params.toList ++ s.plain.varTypes Tryz.prog ++ fn.resultTypes.toList).any (Tryz.prog.veiledRec ·)) = true) (h31 : c.veiledFits Tryz.prog fn.params.toList (fn.params.toList ++ s.plain.varTypes Tryz.prog ++ fn.resultTypes.toList) = true) :
    joinedFacts Tryz.prog f fn s c = true := by
  unfold joinedFacts
  exact and_tt (and_tt (and_tt (and_tt (and_tt (and_tt (and_tt (and_tt (and_tt (and_tt (and_tt (and_tt (and_tt (and_tt (and_tt (and_tt (and_tt (and_tt (and_tt (and_tt (and_tt (and_tt (and_tt (and_tt (and_tt (and_tt (and_tt (and_tt (and_tt (and_tt (and_tt h0 pf_laid) pf_maps) h3) h4) h5) pf_stops) h7) pf_knobs) h9) h10) h11) h12) h13) h14) h15) h16) h17) h18) h19) h20) h21) h22) h23) pf_heard) pf_enter) h26) h27) h28) h29) h30) h31
end Go.Proofs.YtdamnoleoakehaaGreatDoor
