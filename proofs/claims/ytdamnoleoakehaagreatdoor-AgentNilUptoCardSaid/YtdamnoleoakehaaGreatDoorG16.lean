/- Part 16 of what the closing text rests on. -/
import Derived.Test.YtdamnoleoakehaaGreatDoorG15
import Derived.RangeFuncBox
import Derived.RangeFuncNested
import Derived.RangeFuncBound
import Derived.RangeFuncCalls
import Derived.RangeFuncLeaves
import Derived.RangeFuncStops
import Derived.RangeFuncSeq
import Derived.Shelf.Abstract
import Derived.Shelf.AbstractIn
import Derived.Shelf.RegionOpen
import Derived.Sort.MapsRangeIn
import Derived.Maps.OwnIn
import Derived.Maps.AppendAt
import Derived.WalkKit
import Derived.WalkSmall
import Derived.OwnWalkIn
import Derived.TacticsInMore
import Derived.RegionIn
import Derived.LoopNIn
import Derived.LoopIn
import Derived.Lib.SlKeysI
import Derived.Test.YtdamnoleoakehaaGreatDoorChecked
import Derived.Test.YtdamnoleoakehaaGreatDoorRows
namespace Go.Proofs.YtdamnoleoakehaaGreatDoor
open Go.Proofs
open Go.RowKit Go.Maps Go.Sort Go.Shelf
attribute [local go_sem] Oper.semAt_some

def CellsOf (n0 : Nat) (W : World) (p : Option Addr) (l : List Int) : Prop :=
  ∀ i t, l[i]? = some t → ∃ b o, p = some ⟨b, o, none⟩ ∧ b < n0 ∧ W.cell? ⟨b, o + i, none⟩ = some (.int .i64 t)
theorem CellsOf.below {n0 : Nat} {A B : World} {p : Option Addr} {l : List Int} (hB : Below n0 A B) (h : CellsOf n0 A p l) : CellsOf n0 B p l := fun i t ht => by
  obtain ⟨b, o, h1, h2, h3⟩ := h i t ht
  exact ⟨b, o, h1, h2, (hB.cell (p := ⟨b, o + i, none⟩) h2).trans h3⟩

set_option maxRecDepth 100000 in
set_option maxHeartbeats 1000000 in
theorem Tryz.values_stops (n : Nat) (hn : 1 ≤ n) (Bs n0 : Nat) (p : Option Addr) (cap : Nat) (l : List Int) (w : World) (hBs : Bs < w.heap.size) (hn0 : n0 ≤ w.heap.size) (hlen : l.length ≤ maxLen)
    (hs : w.cell? ⟨Bs, 0, none⟩ = some (.slice p l.length cap)) (hl : CellsOf n0 w p l) :
    SeqStopsK Fence.wide n Tryz.prog 144 #[.pointer (some ⟨Bs, 0, none⟩)] (fun t : Int => #[.int .i64 t]) (Below n0) (fun xs => xs = l) (fun _ => True) l.length w := by
  intro lp J Jx W hW hJ hJx hY h0
  have hs' : W.cell? ⟨Bs, 0, none⟩ = some (.slice p l.length cap) := (hW.cell (p := ⟨Bs, 0, none⟩) hBs).trans hs
  have hl' := hl.below (hW.mono hn0)
  have hlen' : l.length < 2 ^ 63 := by unfold maxLen at hlen; omega
  refine callsIn_of_wp Tryz.func144 rfl trivial ?_ rfl
  simp only [Tryz.ntmps144, List.size_toArray, List.length_cons, List.length_nil, Nat.reduceAdd, Nat.reduceSub, Array.replicate_succ, Array.replicate_zero, List.push_toArray, List.append_toArray, List.nil_append, List.cons_append]
  gi_wp2
  gi_loopw [7] (fun q wr => ∃ i : Nat, q = .int .i64 (i : Int) ∧ i ≤ l.length ∧ J (l.take i) wr ∧ Below n0 W wr) (fun q _ => l.length - (match q with | .int _ i => i.toNat | _ => 0))
  case atStart => exact ⟨0, rfl, Nat.zero_le _, h0, Below.refl _ _⟩
  case round =>
    obtain ⟨i, rfl, hi, hJi, hBi⟩ := hrel
    by_cases hlt : i < l.length
    · obtain ⟨t, ht⟩ : ∃ t, l[i]? = some t := ⟨_, List.getElem?_eq_getElem hlt⟩
      obtain ⟨b, o, rfl, hb, c1⟩ := hl'.below hBi i t ht
      have htk : l.take i ++ [t] = l.take (i + 1) := by rw [List.take_add_one, ht]; rfl
      obtain ⟨fn, tmps, assign, body, hy, hR⟩ := hY (l.take i) t _ hJi (by rw [List.length_take]; omega)
      have hw : IntKind.i64.wrap ((i : Int) + 1) = ((i + 1 : Nat) : Int) := by rw [IntKind.wrap_i64]; omega
      gi_wp2
      refine hR.mono ?_
      rintro e W3 (⟨rfl, hJ3, hk3⟩ | ⟨rfl, hJx3⟩)
      · gi_wp2
        go_roundw
        case rel => exact ⟨i + 1, by first | rw [hw] | rfl, by omega, by rw [← htk]; exact hJ3, hBi.trans hk3⟩
        case measure =>
          simp
          omega
      · gi_wp2
        refine bodyPost_ret (results_none rfl _ _ _) rfl ?_
        exact ⟨⟨_, rfl⟩, .inr ⟨_, trivial, hJx3⟩⟩
    · obtain rfl : i = l.length := by omega
      rw [List.take_length] at hJi
      gi_wp2
      go_end0
      exact ⟨⟨_, rfl⟩, .inl ⟨l, rfl, hJi⟩⟩

theorem Tryz.info3 : (Tryz.prog.info? 3).map (fun i => (i.zero, i.size, i.bytes)) = some (some (.int .i64 0), 1, 8) := by kernel_rfl

set_option maxRecDepth 100000 in
set_option maxHeartbeats 2000000 in
theorem Tryz.appendSeq (n : Nat) (hn : 2 ≤ n) (g : Nat) (lb : Array Value) (eg : ∀ args w, (callFunc g args).run Tryz.prog w = .ok (.enter g args) w) (l : List Int) (hN : l.length ≤ maxLen) (hNb : l.length * 8 ≤ 140737488355328) (n0 : Nat) (w : World) (hn0 : n0 ≤ w.heap.size)
    (hseq : SeqStopsK Fence.wide (n - 1) Tryz.prog g lb (fun t : Int => #[.int .i64 t]) (Below n0) (fun xs => xs = l) (fun _ => True) l.length w) :
    CallsIn Fence.wide n Tryz.prog 198 #[.slice none 0 0, .func (.func g) #[] lb] w fun e W' => ∃ (v : Value), e = .returned v ∧ W'.ownsRow w.heap.size 3 1 v l.length (l.map (Value.int .i64)) ∧ (v = .slice none 0 0 ↔ l = []) ∧ Below w.heap.size w W' := by
  have h1 : 1 ≤ n := by omega
  obtain ⟨i0, hi, hz0, hz1, hz2⟩ := info_parts Tryz.info3
  refine callsIn_of_wp_marks Tryz.func198 rfl trivial ?_ rfl
  simp only [Tryz.ntmps198, List.size_toArray, List.length_cons, List.length_nil, Nat.reduceAdd, Nat.reduceSub, Array.replicate_succ, Array.replicate_zero, List.push_toArray, List.append_toArray, List.nil_append, List.cons_append]
  gi_wp2
  have bO := Boxed.new w 39 (.slice none 0 0)
  have hB0 : Below w.heap.size w (w.alloc (.cells #[.slice none 0 0] 39)) := (Below.refl _ w).alloc (Nat.le_refl _) _
  refine wpIn_rangeFunc_ownH rfl h1 (gf := g) (lb := lb) rfl trivial eg
    hseq belowK_t (belowK_b (by simp only [World.size_alloc]; omega)) hB0 (fun _ => rfl)
    (fun pre W => (∃ v, Boxed W w.heap.size 39 v ∧ W.ownsRow w.heap.size 3 1 v pre.length (pre.map (Value.int .i64)) ∧ (v = .slice none 0 0 ↔ pre = [])) ∧ Below w.heap.size w W)
    (fun _ _ _ => False)
    (OwnFrom.and (Own.from (holdsRow_own w.heap.size w.heap.size 39 3 1 (fun pre : List Int => pre.length) (fun pre => pre.map (Value.int .i64)) (fun pre v => v = .slice none 0 0 ↔ pre = [])) _) (ownFrom_below (Nat.le_refl _) (by simp)))
    (fun _ _ _ _ _ hs _ _ => hs)
    ⟨⟨_, bO, World.ownsRow_nil _ _ _ _, by simp⟩, hB0⟩
    (fun x a' W => a' = { tmps := #[.slice none 0 0, .func (.func g) #[] lb, .pointer (some ⟨w.heap.size, 0, none⟩), undef, .slice none 0 0, .int .i64 x, .func (.func g) #[] lb, .int .i64 x, undef, undef, undef, undef, undef], defers := [] })
    (fun x a' s X Y row hs hg hr => hs)
    ?assign ?body ?done ?stop
  case assign =>
    rintro lp pre x W K ⟨⟨v, hv, hrow, hnil⟩, hB⟩ hK
    gi_wp2
    exact hK _ _ ((KeepsOthers.refl _).from _) (Below.refl _ W) ⟨⟨v, hv, hrow, hnil⟩, hB⟩ rfl
  case body =>
    rintro lp pre x a' W hlp hr ⟨⟨v, hv, hrow, hnil⟩, hB⟩ rfl hlt
    have hc := hv.cell
    gi_wp2_with (gi_at_builtin; refine wpListIn_append_own _ rfl _ _ 39 rfl w.heap.size 3 i0 (.int .i64 0) 1 8 Tryz.underlying39 hi hz0 hz1 hz2 rfl (by decide) _ _ _ rfl (hrow.alloc _) ⟨W.heap.size, 0, none⟩ 1 1 [.int .i64 x] rfl rfl (cell_one_new _ _ _) (by simp [Value.oneCell']) (by omega) (by omega) (by have := hB.size; simp; omega) ?_; intro v' w1 hown' hgrow _; obtain ⟨g', cap', rfl⟩ := ownsRow_succ hown'; obtain ⟨hv1, hv2, hr2, hk2, hb2⟩ := hv.appended (by decide) hrow hB.size (Nat.le_refl _) hown' hgrow; have hc1 := hv1.cell; have hf1 := hv1.frozen)
    exact ⟨hk2.from _, hb2.mono hn0, ⟨_, hv2, by simpa using hr2, by simp⟩, hB.trans hb2⟩
  case done =>
    rintro D ys W hD rfl ⟨⟨v, hv, hrow, hnil⟩, hB⟩ hK
    have hc := hv.cell
    gi_wp2
    refine ⟨by simp, .inl ⟨_, _, rfl, run_takeDeferred hK, ?_⟩⟩
    exact ⟨_, results_tmp rfl _ _ _, v, rfl, ownsRow_putObj hrow _ hK rfl, hnil, hB.trans (belowK_b (w := w) (Nat.le_refl _) W D _ _ (by simp at hD; omega) hK rfl rfl)⟩
  case stop =>
    rintro D c pre W _ _ h _
    exact h.elim

theorem Tryz.collect (n : Nat) (hn : 3 ≤ n) (g : Nat) (lb : Array Value) (eg : ∀ args w, (callFunc g args).run Tryz.prog w = .ok (.enter g args) w) (l : List Int) (hN : l.length ≤ maxLen) (hNb : l.length * 8 ≤ 140737488355328) (n0 : Nat) (w : World) (hn0 : n0 ≤ w.heap.size)
    (hseq : SeqStopsK Fence.wide (n - 1 - 1) Tryz.prog g lb (fun t : Int => #[.int .i64 t]) (Below n0) (fun xs => xs = l) (fun _ => True) l.length w) :
    CallsIn Fence.wide n Tryz.prog 142 #[.func (.func g) #[] lb] w fun e W' => ∃ (v : Value), e = .returned v ∧ W'.ownsRow w.heap.size 3 1 v l.length (l.map (Value.int .i64)) ∧ (v = .slice none 0 0 ↔ l = []) ∧ Below w.heap.size w W' := by
  have h1 : 1 ≤ n := by omega
  have hc := Tryz.appendSeq (n - 1) (by omega) g lb eg l hN hNb n0 w hn0 hseq
  have hf : Fence.wide.fn 198 := trivial
  refine callsIn_of_wp Tryz.func142 rfl trivial ?_ rfl
  simp only [Tryz.ntmps142, List.size_toArray, List.length_cons, List.length_nil, Nat.reduceAdd, Nat.reduceSub, Array.replicate_succ, Array.replicate_zero, List.push_toArray, List.append_toArray, List.nil_append, List.cons_append]
  gi_wp2_with (gi_at_call 198; refine hc.mono ?_; rintro e w' ⟨v, rfl, hrow, hnil, hb⟩)
  go_ret
  exact ⟨v, rfl, hrow, hnil, hb⟩
end Go.Proofs.YtdamnoleoakehaaGreatDoor

set_option maxRecDepth 100000
namespace Go.ZR
open Go.Z Go.Proofs
def listI : D → List Int
  | .fn _ _ _ f => match f 0 with
    | .ptr _ _ g => match g 0 with
      | .ints _ l => l
      | _ => []
    | _ => []
  | _ => []
def dOf1 : O → D
  | .d d => d
  | _ => .v undef
def collC : Ctr where
  own := []
  pre := fun a => ∃ (F f : Nat → D) (l : List Int), a = [.d (.fn 144 0 1 F)] ∧ F 0 = .ptr 39 1 f ∧ f 0 = .ints .i64 l ∧ l.length * 8 ≤ 140737488355328
  res := fun a => [.own 3 (.ints .i64 (listI (dOf1 (a.getD 0 .any))))]
  upd := fun _ => [.any]
  ro := false
  quiet := false
end Go.ZR
namespace Go.Proofs.YtdamnoleoakehaaGreatDoor
open Go.Proofs Go.ZR
open Go.RowKit Go.Maps Go.Sort Go.Shelf Go.Z Go.WideElems
theorem ok142 : FnIs Tryz.prog 142 collC := by
  refine ⟨fun w A args vs fp hA hnd hlt hpre _ => ?_, entersOk Tryz.func142 (by kernel_rfl) (by kernel_rfl)⟩
  obtain ⟨F, f, l, rfl, hF, hf, hl⟩ := hpre
  match vs, hA with
  | [], hA => simp [OL.holds] at hA
  | _ :: _ :: _, hA => simp [OL.holds] at hA
  | [v1], hA =>
    simp only [OL.holds, O.holds] at hA
    obtain ⟨_, _, rfl, ⟨hv1, rfl⟩, rfl⟩ := hA
    simp only [D.holds] at hv1
    obtain ⟨us1, rfl, l1, h1⟩ := hv1
    obtain ⟨p1, e1, q1⟩ := h1 0 (by omega)
    rw [hF] at q1
    simp only [D.holds] at q1
    obtain ⟨Bm, cm, rfl, _, hBm, lm, hm⟩ := q1
    obtain ⟨m1, em, qm⟩ := hm 0 (by omega)
    rw [hf] at qm
    obtain ⟨L, rfl, hwf, hinn, hlen, hcap, hcell⟩ := D.holds_ints.1 qm
    obtain rfl : us1 = [.pointer (some ⟨Bm, 0, none⟩)] := by
      match us1, l1, e1 with
      | [_], _, e1 => simpa using e1
    have hBl : Bm < w.heap.size := (Array.getElem?_eq_some_iff.1 hBm).1
    have hsl : w.cell? ⟨Bm, 0, none⟩ = some (.slice L.a l.length L.cap) := by
      have : cm.toArray[0]? = some L.val := by simpa using em
      simp only [World.cell?, hBm, this]
      rw [← hlen]
      rfl
    have hco : CellsOf w.heap.size w L.a l := fun i t ht => by
      have hi := (List.getElem?_eq_some_iff.1 ht).1
      have hne : L.len ≠ 0 := by omega
      have ha : L.a = some ⟨L.b, L.o, none⟩ := hwf.resolve_left (by omega)
      exact ⟨L.b, L.o, ha, (hinn hne).2, hcell i t ht⟩
    have hml : l.length ≤ maxLen := by unfold maxLen; omega
    have hseq := Tryz.values_stops 1 (by omega) Bm w.heap.size L.a L.cap l w hBl (Nat.le_refl _) hml hsl hco
    refine ((callsIn_wide (n := 3)).1 (Tryz.collect 3 (by omega) 144 #[.pointer (some ⟨Bm, 0, none⟩)] (enters_of Tryz.func144 (by kernel_rfl) rfl) l hml hl w.heap.size w (Nat.le_refl _) hseq)).mono ?_
    rintro e W' ⟨v, rfl, hrow, hnil, hbel⟩
    have hres : listI (dOf1 (([.d (.fn 144 0 1 F)] : List O).getD 0 .any)) = l := by
      show listI (.fn 144 0 1 F) = _
      simp only [listI, hF, hf]
    rcases hrow.2 with ⟨rfl, hz⟩ | ⟨gb, cap, cur, rfl, hbase, hgb, r1, r2, r3, r4⟩
    · refine ⟨[.slice none 0 0], [], [], rfl, ⟨hbel.os, hbel.tape, hbel.output, hbel.size, fun b hb _ => hbel.block b hb⟩, by simp, by simp, ?_, ?_⟩
      · exact ⟨[], [], rfl, by simp [O.holds], by simp [OL.holds]⟩
      · show OL.holds _ W' [.own 3 (.ints .i64 (listI _))] _ _
        rw [hres]
        refine ⟨[], [], rfl, ?_, by simp [OL.holds]⟩
        simp only [O.holds]
        exact ⟨⟨none, 0, 0⟩, rfl, .inl rfl, ⟨by show 0 = _; omega, Nat.le_refl _, fun i z hz' => by have := (List.getElem?_eq_some_iff.1 hz').1; omega⟩, .inl ⟨rfl, trivial⟩⟩
    · refine ⟨[.slice (some ⟨gb, 0, none⟩) l.length cap], [], if cap = 0 then [] else [gb], rfl, ⟨hbel.os, hbel.tape, hbel.output, hbel.size, fun b hb _ => hbel.block b hb⟩, by split <;> simp, ?_, ?_, ?_⟩
      · intro b hb
        split at hb
        · simp at hb
        · simp at hb
          subst hb
          exact .inr hbase
      · exact ⟨[], [], rfl, by simp [O.holds], by simp [OL.holds]⟩
      · show OL.holds _ W' [.own 3 (.ints .i64 (listI _))] _ _
        rw [hres]
        refine ⟨if cap = 0 then [] else [gb], [], by simp, ?_, by simp [OL.holds]⟩
        simp only [O.holds]
        refine ⟨⟨some ⟨gb, 0, none⟩, l.length, cap⟩, rfl, .inr rfl, ⟨rfl, r1, fun i z hz => ?_⟩, ?_⟩
        · have g1 : (l.map (Value.int .i64))[i]? = some (.int .i64 z) := by rw [List.getElem?_map, hz]; rfl
          have hi := (List.getElem?_eq_some_iff.1 hz).1
          rw [← r4, List.getElem?_take_of_lt (by omega), Array.getElem?_toList] at g1
          show W'.cell? ⟨gb, 0 + i, none⟩ = _
          rw [Nat.zero_add]
          simpa [World.cell?, hgb] using g1
        · by_cases h0 : cap = 0
          · exact .inl ⟨h0, by rw [if_pos h0]⟩
          · exact .inr ⟨h0, by rw [if_neg h0]; rfl, cur, hgb, by show 0 + cap * 1 ≤ _; rw [r3]; omega⟩
end Go.Proofs.YtdamnoleoakehaaGreatDoor

namespace Go.ZR
open Go.Z
def vi : D → Int
  | .v (.int _ n) => n
  | _ => 0
def vb : D → Bool
  | .v (.bool b) => b
  | _ => false
def vl : D → List Int
  | .ints _ l => l
  | _ => []
end Go.ZR
namespace Go.ZM
open Go.Z Go.ZR
def sm (n : Nat) : Prop := n ≤ 1099511627776
def okI (n : Int) : Prop := -2199023255552 ≤ n ∧ n ≤ 2199023255552
def partF (b : List Int) (i n : Int) : List Int × Int :=
  if i < 0 ∨ n < 0 then ([], 1) else if (b.length : Int) < i ∨ (b.length : Int) - i < n then ([], 3) else ((b.drop i.toNat).take n.toNat, 0)
def getF (b : List Int) (i : Int) (k : Nat) : Int × Int := (valF (partF b i k).1, (partF b i k).2)
end Go.ZM
namespace Go.ZR
open Go.Z Go.ZM
def iO (k : IntKind) (n : Int) : O := .d (.v (.int k n))
def bO (b : Bool) : O := .d (.v (.bool b))
def bsO (l : List Int) : O := .d (.ints .u8 l)
def bsN (l : List Int) : O := .own 5 (.ints .u8 l)
def dO : O → D
  | .d x => x
  | _ => .v (.bool false)
def at_ (a : List O) (i : Nat) : O := a.getD i .any
def nC (n : Nat) (quiet : Bool) (pre : List O → Prop) (res : List O → List O) : Ctr where
  own := []
  pre := pre
  res := res
  upd := fun _ => List.replicate n .any
  ro := false
  quiet := quiet
def cloneC : Ctr := nC 1 false (fun a => ∃ l, a = [bsO l] ∧ sm l.length) fun a => [bsN (vl (dO (at_ a 0)))]
def padC : Ctr := nC 1 true (fun a => ∃ n : Nat, a = [iO .i64 n] ∧ n ≤ 2199023255552) fun a => [iO .i64 (padN (vi (dO (at_ a 0))).toNat : Nat)]
def paddedC : Ctr := nC 1 false (fun a => ∃ l, a = [bsO l] ∧ sm l.length) fun a => [bsN (padF (vl (dO (at_ a 0))))]
def putC : Ctr := nC 3 false (fun a => ∃ (b : List Int) (n : Int) (k : Nat), a = [bsO b, iO .u64 n, iO .i64 k] ∧ sm b.length ∧ 1 ≤ k ∧ k ≤ 8) fun a =>
  [bsN (vl (dO (at_ a 0)) ++ be (vi (dO (at_ a 1))) (vi (dO (at_ a 2))).toNat)]
def partA (a : List O) : List Int × Int := partF (vl (dO (at_ a 0))) (vi (dO (at_ a 1))) (vi (dO (at_ a 2)))
def partC : Ctr := nC 3 false (fun a => ∃ (b : List Int) (i n : Int), a = [bsO b, iO .i64 i, iO .i64 n] ∧ sm b.length ∧ okI i ∧ okI n) fun a => [bsN (partA a).1, iO .i64 (partA a).2]
def getA (a : List O) : Int × Int := getF (vl (dO (at_ a 0))) (vi (dO (at_ a 1))) (vi (dO (at_ a 2))).toNat
def getC (m : Nat) : Ctr := nC 3 false (fun a => ∃ (b : List Int) (i : Int) (k : Nat), a = [bsO b, iO .i64 i, iO .i64 k] ∧ sm b.length ∧ okB b ∧ okI i ∧ 1 ≤ k ∧ k ≤ m) fun a => [iO .u64 (getA a).1, iO .i64 (getA a).2]
def putAnn (b : List Int) (n : Int) (k : Nat) : LoopAnn where
  γ := Nat
  pre := fun j => j ≤ k
  μ := fun j => k - j
  items := fun j => [(19, .c (iO .i64 (j : Int))), (7, .c (bsN (b ++ (be n k).take j)))]
def c0 : List (Nat × Ctr) := []
def c1 : List (Nat × Ctr) := [(68, cloneC), (197, padC)]
def c2 : List (Nat × Ctr) := [(152, partC), (207, partC)]
def c3 : List (Nat × Ctr) := [(179, getC 8)]
theorem c0_ok {P : Program} : COk P (ctrs c0) := cok_nil
end Go.ZR

namespace Go.ZR
open Go.Proofs
open Go.Z Go.ZM Go.RowKit
set_option maxRecDepth 100000
theorem bytes5 : Tryz.prog.types[(5 : Nat)].bytes = 1 := by kernel_rfl
theorem be_step {b : List Int} {n : Int} {g k : Nat} (hg : g < k) : b ++ (be n k).take g ++ [(n / 256 ^ (k - 1 - g)) % 256] = b ++ (be n k).take (g + 1) := by
  rw [take_succ_getD (by rw [be_len]; exact hg), be_get n hg, List.append_assoc]
noncomputable def code68 : Code := match Tryz.f68.body with | some c => c | none => .skip
set_option maxHeartbeats 4000000 in
theorem vc68 : ∀ (l : List Int), sm l.length → ∀ (t : Bool), (t = true → l.length = (0 : Nat)) → sw t (l = [] ∧ (true && true) = true) (True ∧ ((0 : Nat) + l.length) * Tryz.prog.types[(5 : Nat)].bytes ≤ (140737488355328 : Nat) ∧
  [] ++ l = l ∧ (!false && true && true) = true) := by
  simp only [↓sw_iff, ↓Bool.and_eq_true, ↓Bool.not_eq_true', true_and, and_true, Nat.zero_add, List.nil_append, Nat.mul_one, bytes5]
  intro l h t ht
  unfold sm at h
  exact ⟨fun e => by have := ht e; exact List.length_eq_zero_iff.1 this, fun _ => by omega⟩
set_option maxRecDepth 100000 in
theorem ok68 : FnIs Tryz.prog 68 cloneC := by
  refine fnIs (C := (ctrs c0)) (by kernel_rfl) c0_ok Tryz.func68 (code := code68) (by kernel_rfl) (by kernel_rfl) ?_
  rintro a ⟨l, rfl, h⟩
  exact ⟨anns [], kcast (vc68 l h) (by kernel_rfl)⟩

noncomputable def code197 : Code := match Tryz.f197.body with | some c => c | none => .skip
set_option maxHeartbeats 4000000 in
theorem vc197 : ∀ (n : Nat), n ≤ (2199023255552 : Nat) → True ∧ True ∧ bits BinOp.and IntKind.i64 (IntKind.i64.wrap ((0 : Int) - (↑n : Int))) (3 : Int) = (↑(padN (↑n : Int).toNat) : Int) ∧
  (true && true) = true := by
  simp only [↓Bool.and_eq_true, true_and, and_true, Int.toNat_natCast]
  intro n h
  exact and_three
set_option maxRecDepth 100000 in
theorem ok197 : FnIs Tryz.prog 197 padC := by
  refine fnIs (C := (ctrs c0)) (by kernel_rfl) c0_ok Tryz.func197 (code := code197) (by kernel_rfl) (by kernel_rfl) ?_
  rintro a ⟨n, rfl, h⟩
  exact ⟨anns [], kcast (vc197 n h) (by kernel_rfl)⟩

theorem c1_ok : COk Tryz.prog (ctrs c1) := cok_cons ok68 (cok_cons ok197 cok_nil)

noncomputable def code165 : Code := match Tryz.f165.body with | some c => c | none => .skip
set_option maxHeartbeats 4000000 in
theorem vc165 : ∀ (l : List Int), sm l.length → (∃ (l_1 : List Int), [O.d (D.ints IntKind.u8 l)] = [O.d (D.ints IntKind.u8 l_1)] ∧ sm l_1.length) ∧ (∃ (n : Nat), [O.d (D.v (Value.int IntKind.i64 (↑l.length : Int)))] = [O.d (D.v (Value.int IntKind.i64 (↑n : Int)))] ∧
  n ≤ (2199023255552 : Nat)) ∧ ((0 : Int) ≤ (↑(padN (↑l.length : Int).toNat) : Int) ∧ (↑(padN (↑l.length : Int).toNat) : Int) ≤ (9223372036854775807 : Int) ∧
  (↑(padN (↑l.length : Int).toNat) : Int).toNat * Tryz.prog.types[(5 : Nat)].bytes ≤ (281474976710656 : Nat) ∧ IntKind.u8 = IntKind.u8) ∧ (l.length + (List.replicate (↑(padN (↑l.length : Int).toNat) : Int).toNat (0 : Int)).length) * Tryz.prog.types[(5 : Nat)].bytes ≤ (140737488355328 : Nat) ∧
  l ++ List.replicate (↑(padN (↑l.length : Int).toNat) : Int).toNat (0 : Int) = padF l ∧ (!false && true && true) = true := by
  simp only [↓Bool.and_eq_true, ↓Bool.not_eq_true', and_true, Int.toNat_natCast, Nat.mul_one, bytes5, List.length_replicate]
  intro l h
  have hp := padN_le l.length
  refine ⟨⟨l, rfl, h⟩, ⟨l.length, rfl, ?_⟩, ⟨by omega, by omega, by omega⟩, ?_, rfl⟩ <;> unfold sm at h <;> omega
set_option maxRecDepth 100000 in
theorem ok165 : FnIs Tryz.prog 165 paddedC := by
  refine fnIs (C := (ctrs c1)) (by kernel_rfl) c1_ok Tryz.func165 (code := code165) (by kernel_rfl) (by kernel_rfl) ?_
  rintro a ⟨l, rfl, h⟩
  exact ⟨anns [], kcast (vc165 l h) (by kernel_rfl)⟩

noncomputable def code99 : Code := match Tryz.f99.body with | some c => c | none => .skip
set_option maxHeartbeats 4000000 in
theorem vc99 : ∀ (b : List Int) (n : Int) (k : Nat), sm b.length → (1 : Nat) ≤ k → k ≤ (8 : Nat) → (∃ (l : List Int), [O.d (D.ints IntKind.u8 b)] = [O.d (D.ints IntKind.u8 l)] ∧
  sm l.length) ∧ True ∧ sw (decide ((↑k : Int) < (1 : Int))) (b = b ++ be n (↑k : Int).toNat ∧ (!false && true && true) = true) (True ∧ sw (decide ((8 : Int) < (↑k : Int))) (b = b ++ be n (↑k : Int).toNat ∧
  (!false && true && true) = true) (∃ (g0 : Nat), g0 ≤ k ∧ (0 : Int) = (↑g0 : Int) ∧ b = b ++ List.take g0 (be n k) ∧ (!false && true && true) = true ∧ ∀ (g : Nat), g ≤ k →
  True ∧ sw (decide ((↑g : Int) < (↑k : Int))) (True ∧ True ∧ True ∧ (0 : Int) ≤ IntKind.i64.wrap ((8 : Int) * IntKind.i64.wrap (IntKind.i64.wrap ((↑k : Int) - (1 : Int)) - (↑g : Int))) ∧
  True ∧ ((b ++ List.take g (be n k)).length + (1 : Nat)) * Tryz.prog.types[(5 : Nat)].bytes ≤ (140737488355328 : Nat) ∧ True ∧ ∃ (g' : Nat), g' ≤ k ∧ k - g' < k - g ∧
  (IntKind.i64.wrap ((↑g : Int) + (1 : Int)) = (↑g' : Int) ∧ b ++ List.take g (be n k) ++ [IntKind.u8.wrap (n.fdiv ((2 : Int) ^ min (IntKind.i64.wrap ((8 : Int) * IntKind.i64.wrap (IntKind.i64.wrap ((↑k : Int) - (1 : Int)) - (↑g : Int)))).toNat IntKind.u64.bits))] = b ++ List.take g' (be n k) ∧
  (!false && true && true && ((Nat.ble (2 : Nat) (4 : Nat) || (Nat.beq (1 : Nat) (4 : Nat) || false)) && true)) = true) ∧ (some (SV.c (Value.int IntKind.i64 (↑k : Int))) = some (SV.c (Value.int IntKind.i64 (↑k : Int))) ∧
  some (SV.c (Value.bool (decide ((8 : Int) < (↑k : Int))))) = some (SV.c (Value.bool (decide ((8 : Int) < (↑k : Int))))) ∧ some (SV.c (Value.bool (decide ((8 : Int) < (↑k : Int))))) = some (SV.c (Value.bool (decide ((8 : Int) < (↑k : Int))))) ∧
  some (SV.c (Value.int IntKind.i64 (↑k : Int))) = some (SV.c (Value.int IntKind.i64 (↑k : Int))) ∧ some (SV.b false) = some (SV.b false) ∧ some (SV.c (Value.bool (decide ((↑k : Int) < (1 : Int))))) = some (SV.c (Value.bool (decide ((↑k : Int) < (1 : Int))))) ∧
  some (SV.c (Value.int IntKind.i64 (↑k : Int))) = some (SV.c (Value.int IntKind.i64 (↑k : Int))) ∧ some (SV.a (1 : Nat)) = some (SV.a (1 : Nat)) ∧ some (SV.a (0 : Nat)) = some (SV.a (0 : Nat)) ∧
  some SV.nil = some SV.nil ∧ some (SV.a (0 : Nat)) = some (SV.a (0 : Nat)) ∧ some (SV.c (Value.int IntKind.u64 n)) = some (SV.c (Value.int IntKind.u64 n)) ∧
  some (SV.c (Value.int IntKind.i64 (↑k : Int))) = some (SV.c (Value.int IntKind.i64 (↑k : Int))) ∧ True) ∧ some (R.ro (D.ints IntKind.u8 b)) = some (R.ro (D.ints IntKind.u8 b)) ∧
  True) (b ++ List.take g (be n k) = b ++ be n (↑k : Int).toNat ∧ (!false && true && true) = true))) := by
  simp only [↓sw_iff, ↓Bool.and_eq_true, ↓decide_eq_true_eq, ↓decide_eq_false_iff_not, ↓Bool.not_eq_true', true_and, and_true, Bool.or_false, Nat.ble, Nat.beq, Int.toNat_natCast, List.length_append, Nat.mul_one, bytes5]
  intro b n k h h1 h2
  refine ⟨⟨b, rfl, h⟩, fun e => absurd e (by omega), fun _ => ⟨fun e => absurd e (by omega), fun _ => ⟨0, Nat.zero_le _, rfl, by simp, ?_⟩⟩⟩
  unfold sm at h
  intro g hg
  refine ⟨fun ht => ?_, fun ht => ?_⟩
  · have hlt : g < k := by have := ht; omega
    have e : IntKind.i64.wrap (8 * IntKind.i64.wrap (IntKind.i64.wrap ((k : Int) - 1) - (g : Int))) = ((8 * (k - 1 - g) : Nat) : Int) := by
      rw [wrap_i64_id (n := (k : Int) - 1) (by omega) (by omega), wrap_i64_id (n := (k : Int) - 1 - g) (by omega) (by omega), wrap_i64_id (by omega) (by omega)]; omega
    have hl : ((be n k).take g).length ≤ g := List.length_take_le _ _
    rw [e]
    refine ⟨by omega, by omega, g + 1, hlt, by omega, by rw [wrap_i64_id (by omega) (by omega)]; rfl, ?_⟩
    rw [shr_byte _ (by omega), be_step hlt]
  · have : k ≤ g := by have := ht; omega
    rw [List.take_of_length_le (by rw [be_len]; exact this)]
set_option maxRecDepth 100000 in
theorem ok99 : FnIs Tryz.prog 99 putC := by
  refine fnIs (C := (ctrs c1)) (by kernel_rfl) c1_ok Tryz.func99 (code := code99) (by kernel_rfl) (by kernel_rfl) ?_
  rintro a ⟨b, n, k, rfl, h, h1, h2⟩
  exact ⟨anns [(5, putAnn b n k)] [2], kcast (vc99 b n k h h1 h2) (by kernel_rfl)⟩

end Go.ZR

set_option maxRecDepth 100000
namespace Go.ZR
open Go.Z Go.ZM Go.Proofs
def onceC1 : Ctr := nC 1 false (fun a => ∃ p : Int, a = [.d (.ints .i64 [p])]) fun _ => [bO true]
def a1 : List (Nat × Ctr) := [(142, collC)]
theorem a1_ok : COk Tryz.prog (ctrs a1) := cok_cons Go.Proofs.YtdamnoleoakehaaGreatDoor.ok142 cok_nil
end Go.ZR
