/- Part 23 of what the closing text rests on. -/
import Derived.Test.YtdamnoleoakehaaGreatDoorH22
import Derived.Test.YtdamnoleoakehaaGreatDoorRows
set_option maxRecDepth 100000
namespace Go.ZM
open Go.Z
def helloBytes : List Int := [1, 0, 0, 56, 128, 0, 1, 1, 0, 0, 0, 0, 0, 0, 0, 0, 0, 0, 0, 0,
  0, 0, 1, 8, 64, 0, 0, 9, 97, 0, 0, 0, 0, 0, 1, 40, 64, 0, 0, 12, 108, 101, 102, 116, 0, 0, 1, 22, 64, 0, 0, 12, 0, 0, 0, 5]
def orF (fl : Int → Bool) (ks : List Int) : List Nat → Int
  | [] => 0
  | b :: g => if fl (ks.getD b 0) = true then bits BinOp.or IntKind.u8 (orF fl ks g) (ks.getD b 0) else orF fl ks g
def leftN (g : List Nat) : Nat := ([0, 1, 2, 3].filter fun b : Nat => !(g.any b.beq)).length
theorem leftN_lt {g : List Nat} {j : Nat} (hj : j < 4) (h : (g.any j.beq) = false) : leftN (j :: g) < leftN g := by
  have h4 : j = 0 ∨ j = 1 ∨ j = 2 ∨ j = 3 := by omega
  unfold leftN
  simp only [List.any_cons]
  cases h0 : g.any (Nat.beq 0) <;> cases h1 : g.any (Nat.beq 1) <;> cases h2 : g.any (Nat.beq 2) <;> cases h3 : g.any (Nat.beq 3) <;>
    rcases h4 with rfl | rfl | rfl | rfl <;> first
      | (rw [h] at h0; cases h0; done)
      | (rw [h] at h1; cases h1; done)
      | (rw [h] at h2; cases h2; done)
      | (rw [h] at h3; cases h3; done)
      | simp [List.filter, h0, h1, h2, h3, Nat.beq]
theorem any_mem {g : List Nat} {j : Nat} : g.any j.beq = true ↔ j ∈ g := by
  rw [List.any_eq_true]
  constructor
  · rintro ⟨x, hx, he⟩
    rw [Nat.eq_of_beq_eq_true he]; exact hx
  · intro h
    exact ⟨j, h, Nat.beq_refl j⟩
theorem or_128 : bits BinOp.or IntKind.u8 128 128 = 128 ∧ bits BinOp.or IntKind.u8 0 128 = 128 := by decide
theorem orF_one {ks : List Int} {i : Nat} (h : ∀ b, b < 4 → (ks.getD b 0 = 128 ↔ b = i)) : ∀ (g : List Nat), (∀ b, b ∈ g → b < 4) → orF (fun k => decide (k = (128 : Int))) ks g = if i ∈ g then 128 else 0
  | [], _ => by
    rw [if_neg (by simp)]
    rfl
  | b :: g, hb => by
    have ih := orF_one h g (fun c hc => hb c (List.mem_cons_of_mem _ hc))
    have e : orF (fun k => decide (k = (128 : Int))) ks (b :: g) = if decide (ks.getD b 0 = 128) = true then bits BinOp.or IntKind.u8 (orF (fun k => decide (k = (128 : Int))) ks g) (ks.getD b 0) else orF (fun k => decide (k = (128 : Int))) ks g := rfl
    rw [e, ih]
    by_cases hi : b = i
    · have h2 := (h b (hb b (by simp))).2 hi
      have hm : i ∈ b :: g := by rw [hi]; simp
      rw [if_pos (decide_eq_true h2), h2, if_pos hm]
      split
      · exact or_128.1
      · exact or_128.2
    · have h2 : ¬ ks.getD b 0 = 128 := fun e => hi ((h b (hb b (by simp))).1 e)
      rw [if_neg (by simpa using h2)]
      have : (i ∈ b :: g) ↔ i ∈ g := by simp [Ne.symm hi]
      simp only [this]
def helloCell : Nat → Nat → D := gridD 5 [.v (.int .u32 264), .v (.int .u32 0), .v (.bool true), .v (.bool false), .ints .u8 [97],
  .v (.int .u32 296), .v (.int .u32 0), .v (.bool true), .v (.bool false), .ints .u8 [108, 101, 102, 116],
  .v (.int .u32 278), .v (.int .u32 0), .v (.bool true), .v (.bool false), .ints .u8 [0, 0, 0, 5]]
end Go.ZM
namespace Go.ZR
open Go.Z Go.ZM Go.Proofs
def flagAnn (fl : Int → Bool) (ks : List Int) : LoopAnn where
  γ := List Nat
  pre := fun seen => ∀ b, b ∈ seen → b < 4
  μ := fun seen => leftN seen
  items := fun seen => [(7, .c (iO .u8 (orF fl ks seen))), (41, .it seen)]
def helloD : D := .recs 5 3 (gridD 5 [.v (.int .u32 264), .v (.int .u32 0), .v (.bool true), .v (.bool false), .ints .u8 [97],
  .v (.int .u32 296), .v (.int .u32 0), .v (.bool true), .v (.bool false), .ints .u8 [108, 101, 102, 116],
  .v (.int .u32 278), .v (.int .u32 0), .v (.bool true), .v (.bool false), .ints .u8 [0, 0, 0, 5]])
def helloO : O := .agg [bO true, bO false, bO false, bO false, iO .u32 257, iO .u32 0, iO .u32 0, iO .u32 0, .d (.recs 5 3 helloCell)]
def putMC : Ctr := nC 1 false (fun a => a = [helloO]) fun _ => [bsN helloBytes, iO .i64 0]
def workC : Ctr where
  own := []
  pre := fun a => ∃ l : List Int, a = [bsO l] ∧ sm l.length
  res := fun a => [bsO ([100, 105, 100, 32] ++ vl (dO (at_ a 0)))]
  upd := fun _ => [.any]
  ro := true
  quiet := false
def ansC : Ctr := nC 0 false (fun a => a = []) fun _ => [bO true]
def bitC : Ctr := nC 2 true (fun a => ∃ (y : Bool) (b : Int), a = [bO y, iO .u8 b]) fun a => [iO .u8 (cond (vb (dO (at_ a 0))) (vi (dO (at_ a 1))) 0)]
def headC : Ctr := nC 1 true (fun a => ∃ y : Bool, a = [bO y]) fun a => [iO .i64 (cond (vb (dO (at_ a 0))) 12 8)]
def avpC0 : Ctr := nC 1 false (fun a => a = [.d helloD]) fun _ => [bsN (helloBytes.drop 20), iO .i64 0]
def a3 : List (Nat × Ctr) := [(99, putC), (165, paddedC), (197, padC), (163, bitC), (164, headC)]
def a3b : List (Nat × Ctr) := [(112, avpC0), (99, putC)]
def a4 : List (Nat × Ctr) := [(14, soundC0), (117, putMC), (99, putC)]
def helloF (f : Nat → Nat → D) : O := .agg [bO true, bO false, bO false, bO false, iO .u32 257, iO .u32 0, iO .u32 0, iO .u32 0, .d (.recs 5 3 f)]
def putWC : Ctr := nC 1 false (fun a => ∃ f, a = [helloF f] ∧ ∀ i, i < 3 → ∀ j, j < 5 → f i j = helloCell i j) fun _ => [bsN helloBytes, iO .i64 0]
def a5 : List (Nat × Ctr) := [(14, soundC0), (117, putWC), (99, putC), (37, workC)]
end Go.ZR

namespace Go.ZR
open Go.Proofs
open Go.Z Go.ZM Go.RowKit
set_option maxRecDepth 100000
noncomputable def iA10c162 : Code := match Tryz.f162.body with | some c => c | none => .skip
noncomputable def iA10_162 : InlF := ⟨iA10c162, Tryz.f162.ntmps, Tryz.f162.results.toList, anns []⟩
noncomputable def iA10 : List (Nat × InlF) := [(162, iA10_162)]
theorem iA10_ok : InlsOk Tryz.prog iA10 := ⟨inlOk Tryz.func162 (by kernel_rfl) (by kernel_rfl), trivial⟩
noncomputable def code163 : Code := match Tryz.f163.body with | some c => c | none => .skip
set_option maxHeartbeats 4000000 in
theorem vc163 : ∀ (y : Bool) (b : Int), sw y ((b = bif y then b else (0 : Int)) ∧ true = true) (((0 : Int) = bif y then b else (0 : Int)) ∧ true = true) := by
  intro y b
  cases y
  · exact ⟨rfl, rfl⟩
  · exact ⟨rfl, rfl⟩
set_option maxRecDepth 100000 in
theorem ok163 : FnIs Tryz.prog 163 bitC := by
  refine fnIs (C := (ctrs c0)) (by kernel_rfl) c0_ok Tryz.func163 (code := code163) (by kernel_rfl) (by kernel_rfl) ?_
  rintro a ⟨y, b, rfl⟩
  exact ⟨anns [], kcast (vc163 y b) (by kernel_rfl)⟩

noncomputable def code164 : Code := match Tryz.f164.body with | some c => c | none => .skip
set_option maxHeartbeats 4000000 in
theorem vc164 : ∀ (y : Bool), sw y (((12 : Int) = bif y then (12 : Int) else (8 : Int)) ∧ true = true) (((8 : Int) = bif y then (12 : Int) else (8 : Int)) ∧ true = true) := by
  intro y
  cases y
  · exact ⟨rfl, rfl⟩
  · exact ⟨rfl, rfl⟩
set_option maxRecDepth 100000 in
theorem ok164 : FnIs Tryz.prog 164 headC := by
  refine fnIs (C := (ctrs c0)) (by kernel_rfl) c0_ok Tryz.func164 (code := code164) (by kernel_rfl) (by kernel_rfl) ?_
  rintro a ⟨y, rfl⟩
  exact ⟨anns [], kcast (vc164 y) (by kernel_rfl)⟩

theorem a3_ok : COk Tryz.prog (ctrs a3) := cok_cons ok99 (cok_cons ok165 (cok_cons ok197 (cok_cons ok163 (cok_cons ok164 cok_nil))))

noncomputable def code112 : Code := match Tryz.f112.body with | some c => c | none => .skip
set_option maxHeartbeats 4000000 in
theorem vc112 : True ∧ True ∧ ((0 : Int) ≤ (0 : Int) ∧ (0 : Int) < (3 : Int)) ∧ True ∧ (∃ (y : Bool), [O.d (D.v (Value.bool false))] = [O.d (D.v (Value.bool y))]) ∧ True ∧
  (∃ (n : Nat), [O.d (D.v (Value.int IntKind.i64 (1 : Int)))] = [O.d (D.v (Value.int IntKind.i64 (↑n : Int)))] ∧ n ≤ (2199023255552 : Nat)) ∧ True ∧ True ∧
  True ∧ True ∧ True ∧ ((0 : Int) ≤ (1 : Int) ∧ (1 : Int) < (3 : Int)) ∧ True ∧ (∃ (y : Bool), [O.d (D.v (Value.bool false))] = [O.d (D.v (Value.bool y))]) ∧
  True ∧ (∃ (n : Nat), [O.d (D.v (Value.int IntKind.i64 (4 : Int)))] = [O.d (D.v (Value.int IntKind.i64 (↑n : Int)))] ∧ n ≤ (2199023255552 : Nat)) ∧ True ∧
  True ∧ True ∧ True ∧ True ∧ ((0 : Int) ≤ (2 : Int) ∧ (2 : Int) < (3 : Int)) ∧ True ∧ (∃ (y : Bool), [O.d (D.v (Value.bool false))] = [O.d (D.v (Value.bool y))]) ∧
  True ∧ (∃ (n : Nat), [O.d (D.v (Value.int IntKind.i64 (4 : Int)))] = [O.d (D.v (Value.int IntKind.i64 (↑n : Int)))] ∧ n ≤ (2199023255552 : Nat)) ∧ True ∧
  True ∧ True ∧ True ∧ True ∧ True ∧ ((0 : Int) ≤ (0 : Int) ∧ (0 : Int) < (3 : Int)) ∧ True ∧ ((∃ (b : List Int), ∃ (n : Int), ∃ (k : Nat), [O.d (D.ints IntKind.u8 []), O.d (D.v (Value.int IntKind.u64 (264 : Int))), O.d (D.v (Value.int IntKind.i64 (4 : Int)))] = [O.d (D.ints IntKind.u8 b), O.d (D.v (Value.int IntKind.u64 n)), O.d (D.v (Value.int IntKind.i64 (↑k : Int)))] ∧
  sm b.length ∧ (1 : Nat) ≤ k ∧ k ≤ (8 : Nat)) ∧ ((∃ (y : Bool), ∃ (b : Int), [O.d (D.v (Value.bool false)), O.d (D.v (Value.int IntKind.u8 (128 : Int)))] = [O.d (D.v (Value.bool y)), O.d (D.v (Value.int IntKind.u8 b))]) ∧
  ((∃ (y : Bool), ∃ (b : Int), [O.d (D.v (Value.bool true)), O.d (D.v (Value.int IntKind.u8 (64 : Int)))] = [O.d (D.v (Value.bool y)), O.d (D.v (Value.int IntKind.u8 b))]) ∧
  True ∧ ((∃ (y : Bool), ∃ (b : Int), [O.d (D.v (Value.bool false)), O.d (D.v (Value.int IntKind.u8 (32 : Int)))] = [O.d (D.v (Value.bool y)), O.d (D.v (Value.int IntKind.u8 b))]) ∧
  True ∧ ((True ∧ (([] ++ be (264 : Int) (Int.toNat (4 : Int))).length + (1 : Nat)) * Tryz.prog.types[(5 : Nat)].bytes ≤ (140737488355328 : Nat) ∧ ((∃ (y : Bool), [O.d (D.v (Value.bool false))] = [O.d (D.v (Value.bool y))]) ∧
  True ∧ ((∃ (b : List Int), ∃ (n : Int), ∃ (k : Nat), [O.d (D.ints IntKind.u8 ([] ++ be (264 : Int) (Int.toNat (4 : Int)) ++ [bits BinOp.or IntKind.u8 (bits BinOp.or IntKind.u8 (0 : Int) (64 : Int)) (0 : Int)])), O.d (D.v (Value.int IntKind.u64 (9 : Int))), O.d (D.v (Value.int IntKind.i64 (3 : Int)))] = [O.d (D.ints IntKind.u8 b), O.d (D.v (Value.int IntKind.u64 n)), O.d (D.v (Value.int IntKind.i64 (↑k : Int)))] ∧
  sm b.length ∧ (1 : Nat) ≤ k ∧ k ≤ (8 : Nat)) ∧ (∃ (l : List Int), [O.d (D.ints IntKind.u8 [(97 : Int)])] = [O.d (D.ints IntKind.u8 l)] ∧ sm l.length) ∧
  True ∧ (([] ++ be (264 : Int) (Int.toNat (4 : Int)) ++ [bits BinOp.or IntKind.u8 (bits BinOp.or IntKind.u8 (0 : Int) (64 : Int)) (0 : Int)] ++ be (9 : Int) (Int.toNat (3 : Int))).length + (padF [(97 : Int)]).length) * Tryz.prog.types[(5 : Nat)].bytes ≤ (140737488355328 : Nat) ∧
  True ∧ True ∧ ((0 : Int) ≤ (1 : Int) ∧ (1 : Int) < (3 : Int)) ∧ True ∧ ((∃ (b : List Int), ∃ (n : Int), ∃ (k : Nat), [O.d (D.ints IntKind.u8 ([] ++ be (264 : Int) (Int.toNat (4 : Int)) ++ [bits BinOp.or IntKind.u8 (bits BinOp.or IntKind.u8 (0 : Int) (64 : Int)) (0 : Int)] ++ be (9 : Int) (Int.toNat (3 : Int)) ++ padF [(97 : Int)])), O.d (D.v (Value.int IntKind.u64 (296 : Int))), O.d (D.v (Value.int IntKind.i64 (4 : Int)))] = [O.d (D.ints IntKind.u8 b), O.d (D.v (Value.int IntKind.u64 n)), O.d (D.v (Value.int IntKind.i64 (↑k : Int)))] ∧
  sm b.length ∧ (1 : Nat) ≤ k ∧ k ≤ (8 : Nat)) ∧ ((∃ (y : Bool), ∃ (b : Int), [O.d (D.v (Value.bool false)), O.d (D.v (Value.int IntKind.u8 (128 : Int)))] = [O.d (D.v (Value.bool y)), O.d (D.v (Value.int IntKind.u8 b))]) ∧
  ((∃ (y : Bool), ∃ (b : Int), [O.d (D.v (Value.bool true)), O.d (D.v (Value.int IntKind.u8 (64 : Int)))] = [O.d (D.v (Value.bool y)), O.d (D.v (Value.int IntKind.u8 b))]) ∧
  True ∧ ((∃ (y : Bool), ∃ (b : Int), [O.d (D.v (Value.bool false)), O.d (D.v (Value.int IntKind.u8 (32 : Int)))] = [O.d (D.v (Value.bool y)), O.d (D.v (Value.int IntKind.u8 b))]) ∧
  True ∧ ((True ∧ (([] ++ be (264 : Int) (Int.toNat (4 : Int)) ++ [bits BinOp.or IntKind.u8 (bits BinOp.or IntKind.u8 (0 : Int) (64 : Int)) (0 : Int)] ++ be (9 : Int) (Int.toNat (3 : Int)) ++ padF [(97 : Int)] ++ be (296 : Int) (Int.toNat (4 : Int))).length + (1 : Nat)) * Tryz.prog.types[(5 : Nat)].bytes ≤ (140737488355328 : Nat) ∧
  ((∃ (y : Bool), [O.d (D.v (Value.bool false))] = [O.d (D.v (Value.bool y))]) ∧ True ∧ ((∃ (b : List Int), ∃ (n : Int), ∃ (k : Nat), [O.d (D.ints IntKind.u8 ([] ++ be (264 : Int) (Int.toNat (4 : Int)) ++ [bits BinOp.or IntKind.u8 (bits BinOp.or IntKind.u8 (0 : Int) (64 : Int)) (0 : Int)] ++ be (9 : Int) (Int.toNat (3 : Int)) ++ padF [(97 : Int)] ++ be (296 : Int) (Int.toNat (4 : Int)) ++ [bits BinOp.or IntKind.u8 (bits BinOp.or IntKind.u8 (0 : Int) (64 : Int)) (0 : Int)])), O.d (D.v (Value.int IntKind.u64 (12 : Int))), O.d (D.v (Value.int IntKind.i64 (3 : Int)))] = [O.d (D.ints IntKind.u8 b), O.d (D.v (Value.int IntKind.u64 n)), O.d (D.v (Value.int IntKind.i64 (↑k : Int)))] ∧
  sm b.length ∧ (1 : Nat) ≤ k ∧ k ≤ (8 : Nat)) ∧ (∃ (l : List Int), [O.d (D.ints IntKind.u8 [(108 : Int), (101 : Int), (102 : Int), (116 : Int)])] = [O.d (D.ints IntKind.u8 l)] ∧
  sm l.length) ∧ True ∧ (([] ++ be (264 : Int) (Int.toNat (4 : Int)) ++ [bits BinOp.or IntKind.u8 (bits BinOp.or IntKind.u8 (0 : Int) (64 : Int)) (0 : Int)] ++ be (9 : Int) (Int.toNat (3 : Int)) ++ padF [(97 : Int)] ++ be (296 : Int) (Int.toNat (4 : Int)) ++ [bits BinOp.or IntKind.u8 (bits BinOp.or IntKind.u8 (0 : Int) (64 : Int)) (0 : Int)] ++ be (12 : Int) (Int.toNat (3 : Int))).length + (padF [(108 : Int), (101 : Int), (102 : Int), (116 : Int)]).length) * Tryz.prog.types[(5 : Nat)].bytes ≤ (140737488355328 : Nat) ∧
  True ∧ True ∧ ((0 : Int) ≤ (2 : Int) ∧ (2 : Int) < (3 : Int)) ∧ True ∧ ((∃ (b : List Int), ∃ (n : Int), ∃ (k : Nat), [O.d (D.ints IntKind.u8 ([] ++ be (264 : Int) (Int.toNat (4 : Int)) ++ [bits BinOp.or IntKind.u8 (bits BinOp.or IntKind.u8 (0 : Int) (64 : Int)) (0 : Int)] ++ be (9 : Int) (Int.toNat (3 : Int)) ++ padF [(97 : Int)] ++ be (296 : Int) (Int.toNat (4 : Int)) ++ [bits BinOp.or IntKind.u8 (bits BinOp.or IntKind.u8 (0 : Int) (64 : Int)) (0 : Int)] ++ be (12 : Int) (Int.toNat (3 : Int)) ++ padF [(108 : Int), (101 : Int), (102 : Int), (116 : Int)])), O.d (D.v (Value.int IntKind.u64 (278 : Int))), O.d (D.v (Value.int IntKind.i64 (4 : Int)))] = [O.d (D.ints IntKind.u8 b), O.d (D.v (Value.int IntKind.u64 n)), O.d (D.v (Value.int IntKind.i64 (↑k : Int)))] ∧
  sm b.length ∧ (1 : Nat) ≤ k ∧ k ≤ (8 : Nat)) ∧ ((∃ (y : Bool), ∃ (b : Int), [O.d (D.v (Value.bool false)), O.d (D.v (Value.int IntKind.u8 (128 : Int)))] = [O.d (D.v (Value.bool y)), O.d (D.v (Value.int IntKind.u8 b))]) ∧
  ((∃ (y : Bool), ∃ (b : Int), [O.d (D.v (Value.bool true)), O.d (D.v (Value.int IntKind.u8 (64 : Int)))] = [O.d (D.v (Value.bool y)), O.d (D.v (Value.int IntKind.u8 b))]) ∧
  True ∧ ((∃ (y : Bool), ∃ (b : Int), [O.d (D.v (Value.bool false)), O.d (D.v (Value.int IntKind.u8 (32 : Int)))] = [O.d (D.v (Value.bool y)), O.d (D.v (Value.int IntKind.u8 b))]) ∧
  True ∧ ((True ∧ (([] ++ be (264 : Int) (Int.toNat (4 : Int)) ++ [bits BinOp.or IntKind.u8 (bits BinOp.or IntKind.u8 (0 : Int) (64 : Int)) (0 : Int)] ++ be (9 : Int) (Int.toNat (3 : Int)) ++ padF [(97 : Int)] ++ be (296 : Int) (Int.toNat (4 : Int)) ++ [bits BinOp.or IntKind.u8 (bits BinOp.or IntKind.u8 (0 : Int) (64 : Int)) (0 : Int)] ++ be (12 : Int) (Int.toNat (3 : Int)) ++ padF [(108 : Int), (101 : Int), (102 : Int), (116 : Int)] ++ be (278 : Int) (Int.toNat (4 : Int))).length + (1 : Nat)) * Tryz.prog.types[(5 : Nat)].bytes ≤ (140737488355328 : Nat) ∧
  ((∃ (y : Bool), [O.d (D.v (Value.bool false))] = [O.d (D.v (Value.bool y))]) ∧ True ∧ ((∃ (b : List Int), ∃ (n : Int), ∃ (k : Nat), [O.d (D.ints IntKind.u8 ([] ++ be (264 : Int) (Int.toNat (4 : Int)) ++ [bits BinOp.or IntKind.u8 (bits BinOp.or IntKind.u8 (0 : Int) (64 : Int)) (0 : Int)] ++ be (9 : Int) (Int.toNat (3 : Int)) ++ padF [(97 : Int)] ++ be (296 : Int) (Int.toNat (4 : Int)) ++ [bits BinOp.or IntKind.u8 (bits BinOp.or IntKind.u8 (0 : Int) (64 : Int)) (0 : Int)] ++ be (12 : Int) (Int.toNat (3 : Int)) ++ padF [(108 : Int), (101 : Int), (102 : Int), (116 : Int)] ++ be (278 : Int) (Int.toNat (4 : Int)) ++ [bits BinOp.or IntKind.u8 (bits BinOp.or IntKind.u8 (0 : Int) (64 : Int)) (0 : Int)])), O.d (D.v (Value.int IntKind.u64 (12 : Int))), O.d (D.v (Value.int IntKind.i64 (3 : Int)))] = [O.d (D.ints IntKind.u8 b), O.d (D.v (Value.int IntKind.u64 n)), O.d (D.v (Value.int IntKind.i64 (↑k : Int)))] ∧
  sm b.length ∧ (1 : Nat) ≤ k ∧ k ≤ (8 : Nat)) ∧ (∃ (l : List Int), [O.d (D.ints IntKind.u8 [(0 : Int), (0 : Int), (0 : Int), (5 : Int)])] = [O.d (D.ints IntKind.u8 l)] ∧
  sm l.length) ∧ True ∧ (([] ++ be (264 : Int) (Int.toNat (4 : Int)) ++ [bits BinOp.or IntKind.u8 (bits BinOp.or IntKind.u8 (0 : Int) (64 : Int)) (0 : Int)] ++ be (9 : Int) (Int.toNat (3 : Int)) ++ padF [(97 : Int)] ++ be (296 : Int) (Int.toNat (4 : Int)) ++ [bits BinOp.or IntKind.u8 (bits BinOp.or IntKind.u8 (0 : Int) (64 : Int)) (0 : Int)] ++ be (12 : Int) (Int.toNat (3 : Int)) ++ padF [(108 : Int), (101 : Int), (102 : Int), (116 : Int)] ++ be (278 : Int) (Int.toNat (4 : Int)) ++ [bits BinOp.or IntKind.u8 (bits BinOp.or IntKind.u8 (0 : Int) (64 : Int)) (0 : Int)] ++ be (12 : Int) (Int.toNat (3 : Int))).length + (padF [(0 : Int), (0 : Int), (0 : Int), (5 : Int)]).length) * Tryz.prog.types[(5 : Nat)].bytes ≤ (140737488355328 : Nat) ∧
  True ∧ True ∧ [] ++ be (264 : Int) (Int.toNat (4 : Int)) ++ [bits BinOp.or IntKind.u8 (bits BinOp.or IntKind.u8 (0 : Int) (64 : Int)) (0 : Int)] ++ be (9 : Int) (Int.toNat (3 : Int)) ++ padF [(97 : Int)] ++ be (296 : Int) (Int.toNat (4 : Int)) ++ [bits BinOp.or IntKind.u8 (bits BinOp.or IntKind.u8 (0 : Int) (64 : Int)) (0 : Int)] ++ be (12 : Int) (Int.toNat (3 : Int)) ++ padF [(108 : Int), (101 : Int), (102 : Int), (116 : Int)] ++ be (278 : Int) (Int.toNat (4 : Int)) ++ [bits BinOp.or IntKind.u8 (bits BinOp.or IntKind.u8 (0 : Int) (64 : Int)) (0 : Int)] ++ be (12 : Int) (Int.toNat (3 : Int)) ++ padF [(0 : Int), (0 : Int), (0 : Int), (5 : Int)] = [(0 : Int), (0 : Int), (1 : Int), (8 : Int), (64 : Int), (0 : Int), (0 : Int), (9 : Int), (97 : Int), (0 : Int), (0 : Int), (0 : Int), (0 : Int), (0 : Int), (1 : Int), (40 : Int), (64 : Int), (0 : Int), (0 : Int), (12 : Int), (108 : Int), (101 : Int), (102 : Int), (116 : Int), (0 : Int), (0 : Int), (1 : Int), (22 : Int), (64 : Int), (0 : Int), (0 : Int), (12 : Int), (0 : Int), (0 : Int), (0 : Int), (5 : Int)] ∧
  (0 : Int) = (0 : Int) ∧ true = true) ∧ True) ∧ True) ∧ True) ∧ True) ∧ True) ∧ True) ∧ True) ∧ True) ∧ True) ∧ True) ∧ True) ∧ True) ∧ True) ∧ True) ∧ True) ∧
  True) ∧ True) ∧ True) ∧ True) ∧ True) ∧ True) ∧ True) ∧ True) ∧ True := by
  repeat' (first | exact trivial | exact ⟨_, rfl⟩ | exact ⟨_, _, rfl⟩ | exact ⟨_, rfl, by unfold sm; decide⟩ | exact ⟨1, rfl, by decide⟩ | exact ⟨4, rfl, by decide⟩ | exact ⟨_, _, 3, rfl, by unfold sm; decide, by decide, by decide⟩ | exact ⟨_, _, 4, rfl, by unfold sm; decide, by decide, by decide⟩ | refine And.intro ?_ ?_ | (rw [bytes5]; decide) | decide)
set_option maxRecDepth 100000 in
theorem ok112 : FnIs Tryz.prog 112 avpC0 := by
  refine fnIs (C := (ctrsJ Tryz.prog a3 iA10 3)) (by kernel_rfl) (cokJ (by kernel_rfl) a3_ok iA10_ok) Tryz.func112 (code := code112) (by kernel_rfl) (by kernel_rfl) ?_
  rintro a rfl
  exact ⟨anns [] [] [(5, 4), (13, 4)], kcast (vc112) (by kernel_rfl)⟩

theorem a3b_ok : COk Tryz.prog (ctrs a3b) := cok_cons ok112 (cok_cons ok99 cok_nil)

end Go.ZR
