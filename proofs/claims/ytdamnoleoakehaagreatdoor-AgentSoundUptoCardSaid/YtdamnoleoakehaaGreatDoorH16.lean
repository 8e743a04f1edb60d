/- Part 16 of what the closing text rests on. -/
import Derived.Test.YtdamnoleoakehaaGreatDoorH15
import Derived.Ground.NamesProg
import Derived.Ground.Names2Prog
import Derived.Shelf.Sort.Plain
import Derived.Shelf.Slices.CompactI
import Derived.Test.YtdamnoleoakehaaGreatDoorChecked
import Derived.RangeFuncBox
import Derived.RangeFuncNested
import Derived.RangeFuncBound
import Derived.RangeFuncCalls
import Derived.RangeFuncLeaves
import Derived.RangeFuncStops
import Derived.RangeFuncSeq
import Derived.Shelf.Abstract
import Derived.Shelf.AbstractIn
import Derived.Shelf.RegionOpen
import Derived.Sort.MapsRangeIn
import Derived.Maps.OwnIn
import Derived.Maps.AppendAt
import Derived.WalkKit
import Derived.WalkSmall
import Derived.OwnWalkIn
import Derived.TacticsInMore
import Derived.RegionIn
import Derived.LoopNIn
import Derived.LoopIn
import Derived.Lib.SlKeysI
import Derived.Test.YtdamnoleoakehaaGreatDoorRows
namespace Go.Proofs
open Go.Shelf
def Tryz.sortI_ren : Go.Shelf.Ren := ⟨fun | 189 => 143 | 125 => 132 | 257 => 199 | 128 => 190 | 129 => 191 | 294 => 217 | 295 => 218 | 296 => 219 | 297 => 220 | 298 => 221 | 299 => 222 | 216 => 223 | 300 => 224 | 301 => 225 | 328 => 241 | 329 => 209 | 330 => 210 | 331 => 242 | 332 => 243 | 215 => 244 | 343 => 257 | n => n, fun | 28 => 39 | 3 => 3 | 46 => 120 | 0 => 0 | 51 => 34 | 53 => 45 | 4 => 4 | 183 => 285 | 182 => 284 | 131 => 215 | 5 => 5 | 9 => 9 | 218 => 314 | 222 => 318 | 228 => 331 | 229 => 210 | n => n, fun | n => n⟩
theorem Tryz.sortI : Go.Proofs.Lays.n189 Tryz.prog Tryz.sortI_ren := {
  mixed := by kernel_rfl
  f125 := Tryz.func132.trans (congrArg some (by kernel_rfl))
  f128 := Tryz.func190.trans (congrArg some (by kernel_rfl))
  f129 := Tryz.func191.trans (congrArg some (by kernel_rfl))
  f189 := Tryz.func143.trans (congrArg some (by kernel_rfl))
  f215 := Tryz.func244.trans (congrArg some (by kernel_rfl))
  f216 := Tryz.func223.trans (congrArg some (by kernel_rfl))
  f257 := Tryz.func199.trans (congrArg some (by kernel_rfl))
  f294 := Tryz.func217.trans (congrArg some (by kernel_rfl))
  f295 := Tryz.func218.trans (congrArg some (by kernel_rfl))
  f296 := Tryz.func219.trans (congrArg some (by kernel_rfl))
  f297 := Tryz.func220.trans (congrArg some (by kernel_rfl))
  f298 := Tryz.func221.trans (congrArg some (by kernel_rfl))
  f299 := Tryz.func222.trans (congrArg some (by kernel_rfl))
  f300 := Tryz.func224.trans (congrArg some (by kernel_rfl))
  f301 := Tryz.func225.trans (congrArg some (by kernel_rfl))
  f328 := Tryz.func241.trans (congrArg some (by kernel_rfl))
  f329 := Tryz.func209.trans (congrArg some (by kernel_rfl))
  f330 := Tryz.func210.trans (congrArg some (by kernel_rfl))
  f331 := Tryz.func242.trans (congrArg some (by kernel_rfl))
  f332 := Tryz.func243.trans (congrArg some (by kernel_rfl))
  f343 := Tryz.func257.trans (congrArg some (by kernel_rfl))
  t0 := Tryz.underlying0
  a0 := Tryz.isAgg0
  z0 := Tryz.sizeOf0
  v0 := Tryz.zeroValue0
  t3 := Tryz.underlying3
  a3 := Tryz.isAgg3
  z3 := Tryz.sizeOf3
  v3 := Tryz.zeroValue3
  t4 := Tryz.underlying4
  a4 := Tryz.isAgg4
  z4 := Tryz.sizeOf4
  v4 := Tryz.zeroValue4
  t5 := Tryz.underlying5
  a5 := Tryz.isAgg5
  z5 := Tryz.sizeOf5
  v5 := Tryz.zeroValue5
  t9 := Tryz.underlying9
  a9 := Tryz.isAgg9
  z9 := Tryz.sizeOf9
  v9 := Tryz.zeroValue9
  t28 := Tryz.underlying39
  a28 := Tryz.isAgg39
  z28 := Tryz.sizeOf39
  v28 := Tryz.zeroValue39
  t46 := Tryz.underlying120
  a46 := Tryz.isAgg120
  z46 := Tryz.sizeOf120
  v46 := Tryz.zeroValue120
  t51 := Tryz.underlying34
  a51 := Tryz.isAgg34
  z51 := Tryz.sizeOf34
  v51 := Tryz.zeroValue34
  t53 := Tryz.underlying45
  a53 := Tryz.isAgg45
  z53 := Tryz.sizeOf45
  v53 := Tryz.zeroValue45
  t131 := Tryz.underlying215
  a131 := Tryz.isAgg215
  z131 := Tryz.sizeOf215
  v131 := Tryz.zeroValue215
  t182 := Tryz.underlying284
  a182 := Tryz.isAgg284
  z182 := Tryz.sizeOf284
  v182 := Tryz.zeroValue284
  t183 := Tryz.underlying285
  a183 := Tryz.isAgg285
  z183 := Tryz.sizeOf285
  v183 := Tryz.zeroValue285
  t218 := Tryz.underlying314
  a218 := Tryz.isAgg314
  z218 := Tryz.sizeOf314
  v218 := Tryz.zeroValue314
  t222 := Tryz.underlying318
  a222 := Tryz.isAgg318
  z222 := Tryz.sizeOf318
  v222 := Tryz.zeroValue318
  t228 := Tryz.underlying331
  a228 := Tryz.isAgg331
  z228 := Tryz.sizeOf331
  v228 := Tryz.zeroValue331
  t229 := Tryz.underlying210
  a229 := Tryz.isAgg210
  z229 := Tryz.sizeOf210
  v229 := Tryz.zeroValue210 }
def Tryz.compactI_ren : Go.Shelf.Ren := ⟨fun | 20 => 91 | n => n, fun | 22 => 39 | 3 => 3 | 4 => 4 | 0 => 0 | n => n, fun | n => n⟩
theorem Tryz.compactI : Go.Proofs.Lays2.n20 Tryz.prog Tryz.compactI_ren := {
  mixed := by kernel_rfl
  f20 := Tryz.func91.trans (congrArg some (by kernel_rfl))
  t0 := Tryz.underlying0
  a0 := Tryz.isAgg0
  z0 := Tryz.sizeOf0
  v0 := Tryz.zeroValue0
  t3 := Tryz.underlying3
  a3 := Tryz.isAgg3
  z3 := Tryz.sizeOf3
  v3 := Tryz.zeroValue3
  t4 := Tryz.underlying4
  a4 := Tryz.isAgg4
  z4 := Tryz.sizeOf4
  v4 := Tryz.zeroValue4
  t22 := Tryz.underlying39
  a22 := Tryz.isAgg39
  z22 := Tryz.sizeOf39
  v22 := Tryz.zeroValue39
  i3 := by kernel_rfl }
end Go.Proofs

namespace Go.Proofs.YtdamnoleoakehaaGreatDoor
open Go.Proofs
open Go.RowKit Go.Maps Go.Sort Go.Shelf
attribute [local go_sem] Oper.semAt_some

def CellsOf (n0 : Nat) (W : World) (p : Option Addr) (l : List Int) : Prop :=
  ∀ i t, l[i]? = some t → ∃ b o, p = some ⟨b, o, none⟩ ∧ b < n0 ∧ W.cell? ⟨b, o + i, none⟩ = some (.int .i64 t)
theorem CellsOf.below {n0 : Nat} {A B : World} {p : Option Addr} {l : List Int} (hB : Below n0 A B) (h : CellsOf n0 A p l) : CellsOf n0 B p l := fun i t ht => by
  obtain ⟨b, o, h1, h2, h3⟩ := h i t ht
  exact ⟨b, o, h1, h2, (hB.cell (p := ⟨b, o + i, none⟩) h2).trans h3⟩

set_option maxRecDepth 100000 in
set_option maxHeartbeats 1000000 in
theorem Tryz.values_stops (n : Nat) (hn : 1 ≤ n) (Bs n0 : Nat) (p : Option Addr) (cap : Nat) (l : List Int) (w : World) (hBs : Bs < w.heap.size) (hn0 : n0 ≤ w.heap.size) (hlen : l.length ≤ maxLen)
    (hs : w.cell? ⟨Bs, 0, none⟩ = some (.slice p l.length cap)) (hl : CellsOf n0 w p l) :
    SeqStopsK Fence.wide n Tryz.prog 144 #[.pointer (some ⟨Bs, 0, none⟩)] (fun t : Int => #[.int .i64 t]) (Below n0) (fun xs => xs = l) (fun _ => True) l.length w := by
  intro lp J Jx W hW hJ hJx hY h0
  have hs' : W.cell? ⟨Bs, 0, none⟩ = some (.slice p l.length cap) := (hW.cell (p := ⟨Bs, 0, none⟩) hBs).trans hs
  have hl' := hl.below (hW.mono hn0)
  have hlen' : l.length < 2 ^ 63 := by unfold maxLen at hlen; omega
  refine callsIn_of_wp Tryz.func144 rfl trivial ?_ rfl
  simp only [Tryz.ntmps144, List.size_toArray, List.length_cons, List.length_nil, Nat.reduceAdd, Nat.reduceSub, Array.replicate_succ, Array.replicate_zero, List.push_toArray, List.append_toArray, List.nil_append, List.cons_append]
  gi_wp2
  gi_loopw [7] (fun q wr => ∃ i : Nat, q = .int .i64 (i : Int) ∧ i ≤ l.length ∧ J (l.take i) wr ∧ Below n0 W wr) (fun q _ => l.length - (match q with | .int _ i => i.toNat | _ => 0))
  case atStart => exact ⟨0, rfl, Nat.zero_le _, h0, Below.refl _ _⟩
  case round =>
    obtain ⟨i, rfl, hi, hJi, hBi⟩ := hrel
    by_cases hlt : i < l.length
    · obtain ⟨t, ht⟩ : ∃ t, l[i]? = some t := ⟨_, List.getElem?_eq_getElem hlt⟩
      obtain ⟨b, o, rfl, hb, c1⟩ := hl'.below hBi i t ht
      have htk : l.take i ++ [t] = l.take (i + 1) := by rw [List.take_add_one, ht]; rfl
      obtain ⟨fn, tmps, assign, body, hy, hR⟩ := hY (l.take i) t _ hJi (by rw [List.length_take]; omega)
      have hw : IntKind.i64.wrap ((i : Int) + 1) = ((i + 1 : Nat) : Int) := by rw [IntKind.wrap_i64]; omega
      gi_wp2
      refine hR.mono ?_
      rintro e W3 (⟨rfl, hJ3, hk3⟩ | ⟨rfl, hJx3⟩)
      · gi_wp2
        go_roundw
        case rel => exact ⟨i + 1, by first | rw [hw] | rfl, by omega, by rw [← htk]; exact hJ3, hBi.trans hk3⟩
        case measure =>
          simp
          omega
      · gi_wp2
        refine bodyPost_ret (results_none rfl _ _ _) rfl ?_
        exact ⟨⟨_, rfl⟩, .inr ⟨_, trivial, hJx3⟩⟩
    · obtain rfl : i = l.length := by omega
      rw [List.take_length] at hJi
      gi_wp2
      go_end0
      exact ⟨⟨_, rfl⟩, .inl ⟨l, rfl, hJi⟩⟩

theorem Tryz.info3 : (Tryz.prog.info? 3).map (fun i => (i.zero, i.size, i.bytes)) = some (some (.int .i64 0), 1, 8) := by kernel_rfl

set_option maxRecDepth 100000 in
set_option maxHeartbeats 2000000 in
theorem Tryz.appendSeq (n : Nat) (hn : 2 ≤ n) (g : Nat) (lb : Array Value) (eg : ∀ args w, (callFunc g args).run Tryz.prog w = .ok (.enter g args) w) (l : List Int) (hN : l.length ≤ maxLen) (hNb : l.length * 8 ≤ 140737488355328) (n0 : Nat) (w : World) (hn0 : n0 ≤ w.heap.size)
    (hseq : SeqStopsK Fence.wide (n - 1) Tryz.prog g lb (fun t : Int => #[.int .i64 t]) (Below n0) (fun xs => xs = l) (fun _ => True) l.length w) :
    CallsIn Fence.wide n Tryz.prog 198 #[.slice none 0 0, .func (.func g) #[] lb] w fun e W' => ∃ (v : Value), e = .returned v ∧ W'.ownsRow w.heap.size 3 1 v l.length (l.map (Value.int .i64)) ∧ (v = .slice none 0 0 ↔ l = []) ∧ Below w.heap.size w W' := by
  have h1 : 1 ≤ n := by omega
  obtain ⟨i0, hi, hz0, hz1, hz2⟩ := info_parts Tryz.info3
  refine callsIn_of_wp_marks Tryz.func198 rfl trivial ?_ rfl
  simp only [Tryz.ntmps198, List.size_toArray, List.length_cons, List.length_nil, Nat.reduceAdd, Nat.reduceSub, Array.replicate_succ, Array.replicate_zero, List.push_toArray, List.append_toArray, List.nil_append, List.cons_append]
  gi_wp2
  have bO := Boxed.new w 39 (.slice none 0 0)
  have hB0 : Below w.heap.size w (w.alloc (.cells #[.slice none 0 0] 39)) := (Below.refl _ w).alloc (Nat.le_refl _) _
  refine wpIn_rangeFunc_ownH rfl h1 (gf := g) (lb := lb) rfl trivial eg
    hseq belowK_t (belowK_b (by simp only [World.size_alloc]; omega)) hB0 (fun _ => rfl)
    (fun pre W => (∃ v, Boxed W w.heap.size 39 v ∧ W.ownsRow w.heap.size 3 1 v pre.length (pre.map (Value.int .i64)) ∧ (v = .slice none 0 0 ↔ pre = [])) ∧ Below w.heap.size w W)
    (fun _ _ _ => False)
    (OwnFrom.and (Own.from (holdsRow_own w.heap.size w.heap.size 39 3 1 (fun pre : List Int => pre.length) (fun pre => pre.map (Value.int .i64)) (fun pre v => v = .slice none 0 0 ↔ pre = [])) _) (ownFrom_below (Nat.le_refl _) (by simp)))
    (fun _ _ _ _ _ hs _ _ => hs)
    ⟨⟨_, bO, World.ownsRow_nil _ _ _ _, by simp⟩, hB0⟩
    (fun x a' W => a' = { tmps := #[.slice none 0 0, .func (.func g) #[] lb, .pointer (some ⟨w.heap.size, 0, none⟩), undef, .slice none 0 0, .int .i64 x, .func (.func g) #[] lb, .int .i64 x, undef, undef, undef, undef, undef], defers := [] })
    (fun x a' s X Y row hs hg hr => hs)
    ?assign ?body ?done ?stop
  case assign =>
    rintro lp pre x W K ⟨⟨v, hv, hrow, hnil⟩, hB⟩ hK
    gi_wp2
    exact hK _ _ ((KeepsOthers.refl _).from _) (Below.refl _ W) ⟨⟨v, hv, hrow, hnil⟩, hB⟩ rfl
  case body =>
    rintro lp pre x a' W hlp hr ⟨⟨v, hv, hrow, hnil⟩, hB⟩ rfl hlt
    have hc := hv.cell
    gi_wp2_with (gi_at_builtin; refine wpListIn_append_own _ rfl _ _ 39 rfl w.heap.size 3 i0 (.int .i64 0) 1 8 Tryz.underlying39 hi hz0 hz1 hz2 rfl (by decide) _ _ _ rfl (hrow.alloc _) ⟨W.heap.size, 0, none⟩ 1 1 [.int .i64 x] rfl rfl (cell_one_new _ _ _) (by simp [Value.oneCell']) (by omega) (by omega) (by have := hB.size; simp; omega) ?_; intro v' w1 hown' hgrow _; obtain ⟨g', cap', rfl⟩ := ownsRow_succ hown'; obtain ⟨hv1, hv2, hr2, hk2, hb2⟩ := hv.appended (by decide) hrow hB.size (Nat.le_refl _) hown' hgrow; have hc1 := hv1.cell; have hf1 := hv1.frozen)
    exact ⟨hk2.from _, hb2.mono hn0, ⟨_, hv2, by simpa using hr2, by simp⟩, hB.trans hb2⟩
  case done =>
    rintro D ys W hD rfl ⟨⟨v, hv, hrow, hnil⟩, hB⟩ hK
    have hc := hv.cell
    gi_wp2
    refine ⟨by simp, .inl ⟨_, _, rfl, run_takeDeferred hK, ?_⟩⟩
    exact ⟨_, results_tmp rfl _ _ _, v, rfl, ownsRow_putObj hrow _ hK rfl, hnil, hB.trans (belowK_b (w := w) (Nat.le_refl _) W D _ _ (by simp at hD; omega) hK rfl rfl)⟩
  case stop =>
    rintro D c pre W _ _ h _
    exact h.elim

theorem Tryz.collect (n : Nat) (hn : 3 ≤ n) (g : Nat) (lb : Array Value) (eg : ∀ args w, (callFunc g args).run Tryz.prog w = .ok (.enter g args) w) (l : List Int) (hN : l.length ≤ maxLen) (hNb : l.length * 8 ≤ 140737488355328) (n0 : Nat) (w : World) (hn0 : n0 ≤ w.heap.size)
    (hseq : SeqStopsK Fence.wide (n - 1 - 1) Tryz.prog g lb (fun t : Int => #[.int .i64 t]) (Below n0) (fun xs => xs = l) (fun _ => True) l.length w) :
    CallsIn Fence.wide n Tryz.prog 142 #[.func (.func g) #[] lb] w fun e W' => ∃ (v : Value), e = .returned v ∧ W'.ownsRow w.heap.size 3 1 v l.length (l.map (Value.int .i64)) ∧ (v = .slice none 0 0 ↔ l = []) ∧ Below w.heap.size w W' := by
  have h1 : 1 ≤ n := by omega
  have hc := Tryz.appendSeq (n - 1) (by omega) g lb eg l hN hNb n0 w hn0 hseq
  have hf : Fence.wide.fn 198 := trivial
  refine callsIn_of_wp Tryz.func142 rfl trivial ?_ rfl
  simp only [Tryz.ntmps142, List.size_toArray, List.length_cons, List.length_nil, Nat.reduceAdd, Nat.reduceSub, Array.replicate_succ, Array.replicate_zero, List.push_toArray, List.append_toArray, List.nil_append, List.cons_append]
  gi_wp2_with (gi_at_call 198; refine hc.mono ?_; rintro e w' ⟨v, rfl, hrow, hnil, hb⟩)
  go_ret
  exact ⟨v, rfl, hrow, hnil, hb⟩
end Go.Proofs.YtdamnoleoakehaaGreatDoor

set_option maxRecDepth 100000
namespace Go.ZR
open Go.Z Go.Proofs
def listI : D → List Int
  | .fn _ _ _ f => match f 0 with
    | .ptr _ _ g => match g 0 with
      | .ints _ l => l
      | _ => []
    | _ => []
  | _ => []
def dOf1 : O → D
  | .d d => d
  | _ => .v undef
def collC : Ctr where
  own := []
  pre := fun a => ∃ (F f : Nat → D) (l : List Int), a = [.d (.fn 144 0 1 F)] ∧ F 0 = .ptr 39 1 f ∧ f 0 = .ints .i64 l ∧ l.length * 8 ≤ 140737488355328
  res := fun a => [.own 3 (.ints .i64 (listI (dOf1 (a.getD 0 .any))))]
  upd := fun _ => [.any]
  ro := false
  quiet := false
end Go.ZR
namespace Go.Proofs.YtdamnoleoakehaaGreatDoor
open Go.Proofs Go.ZR
open Go.RowKit Go.Maps Go.Sort Go.Shelf Go.Z Go.WideElems
theorem ok142 : FnIs Tryz.prog 142 collC := by
  refine ⟨fun w A args vs fp hA hnd hlt hpre _ => ?_, entersOk Tryz.func142 (by kernel_rfl) (by kernel_rfl)⟩
  obtain ⟨F, f, l, rfl, hF, hf, hl⟩ := hpre
  match vs, hA with
  | [], hA => simp [OL.holds] at hA
  | _ :: _ :: _, hA => simp [OL.holds] at hA
  | [v1], hA =>
    simp only [OL.holds, O.holds] at hA
    obtain ⟨_, _, rfl, ⟨hv1, rfl⟩, rfl⟩ := hA
    simp only [D.holds] at hv1
    obtain ⟨us1, rfl, l1, h1⟩ := hv1
    obtain ⟨p1, e1, q1⟩ := h1 0 (by omega)
    rw [hF] at q1
    simp only [D.holds] at q1
    obtain ⟨Bm, cm, rfl, _, hBm, lm, hm⟩ := q1
    obtain ⟨m1, em, qm⟩ := hm 0 (by omega)
    rw [hf] at qm
    obtain ⟨L, rfl, hwf, hinn, hlen, hcap, hcell⟩ := D.holds_ints.1 qm
    obtain rfl : us1 = [.pointer (some ⟨Bm, 0, none⟩)] := by
      match us1, l1, e1 with
      | [_], _, e1 => simpa using e1
    have hBl : Bm < w.heap.size := (Array.getElem?_eq_some_iff.1 hBm).1
    have hsl : w.cell? ⟨Bm, 0, none⟩ = some (.slice L.a l.length L.cap) := by
      have : cm.toArray[0]? = some L.val := by simpa using em
      simp only [World.cell?, hBm, this]
      rw [← hlen]
      rfl
    have hco : CellsOf w.heap.size w L.a l := fun i t ht => by
      have hi := (List.getElem?_eq_some_iff.1 ht).1
      have hne : L.len ≠ 0 := by omega
      have ha : L.a = some ⟨L.b, L.o, none⟩ := hwf.resolve_left (by omega)
      exact ⟨L.b, L.o, ha, (hinn hne).2, hcell i t ht⟩
    have hml : l.length ≤ maxLen := by unfold maxLen; omega
    have hseq := Tryz.values_stops 1 (by omega) Bm w.heap.size L.a L.cap l w hBl (Nat.le_refl _) hml hsl hco
    refine ((callsIn_wide (n := 3)).1 (Tryz.collect 3 (by omega) 144 #[.pointer (some ⟨Bm, 0, none⟩)] (enters_of Tryz.func144 (by kernel_rfl) rfl) l hml hl w.heap.size w (Nat.le_refl _) hseq)).mono ?_
    rintro e W' ⟨v, rfl, hrow, hnil, hbel⟩
    have hres : listI (dOf1 (([.d (.fn 144 0 1 F)] : List O).getD 0 .any)) = l := by
      show listI (.fn 144 0 1 F) = _
      simp only [listI, hF, hf]
    rcases hrow.2 with ⟨rfl, hz⟩ | ⟨gb, cap, cur, rfl, hbase, hgb, r1, r2, r3, r4⟩
    · refine ⟨[.slice none 0 0], [], [], rfl, ⟨hbel.os, hbel.tape, hbel.output, hbel.size, fun b hb _ => hbel.block b hb⟩, by simp, by simp, ?_, ?_⟩
      · exact ⟨[], [], rfl, by simp [O.holds], by simp [OL.holds]⟩
      · show OL.holds _ W' [.own 3 (.ints .i64 (listI _))] _ _
        rw [hres]
        refine ⟨[], [], rfl, ?_, by simp [OL.holds]⟩
        simp only [O.holds]
        exact ⟨⟨none, 0, 0⟩, rfl, .inl rfl, ⟨by show 0 = _; omega, Nat.le_refl _, fun i z hz' => by have := (List.getElem?_eq_some_iff.1 hz').1; omega⟩, .inl ⟨rfl, trivial⟩⟩
    · refine ⟨[.slice (some ⟨gb, 0, none⟩) l.length cap], [], if cap = 0 then [] else [gb], rfl, ⟨hbel.os, hbel.tape, hbel.output, hbel.size, fun b hb _ => hbel.block b hb⟩, by split <;> simp, ?_, ?_, ?_⟩
      · intro b hb
        split at hb
        · simp at hb
        · simp at hb
          subst hb
          exact .inr hbase
      · exact ⟨[], [], rfl, by simp [O.holds], by simp [OL.holds]⟩
      · show OL.holds _ W' [.own 3 (.ints .i64 (listI _))] _ _
        rw [hres]
        refine ⟨if cap = 0 then [] else [gb], [], by simp, ?_, by simp [OL.holds]⟩
        simp only [O.holds]
        refine ⟨⟨some ⟨gb, 0, none⟩, l.length, cap⟩, rfl, .inr rfl, ⟨rfl, r1, fun i z hz => ?_⟩, ?_⟩
        · have g1 : (l.map (Value.int .i64))[i]? = some (.int .i64 z) := by rw [List.getElem?_map, hz]; rfl
          have hi := (List.getElem?_eq_some_iff.1 hz).1
          rw [← r4, List.getElem?_take_of_lt (by omega), Array.getElem?_toList] at g1
          show W'.cell? ⟨gb, 0 + i, none⟩ = _
          rw [Nat.zero_add]
          simpa [World.cell?, hgb] using g1
        · by_cases h0 : cap = 0
          · exact .inl ⟨h0, by rw [if_pos h0]⟩
          · exact .inr ⟨h0, by rw [if_neg h0]; rfl, cur, hgb, by show 0 + cap * 1 ≤ _; rw [r3]; omega⟩
end Go.Proofs.YtdamnoleoakehaaGreatDoor

namespace Go.ZR
open Go.Z
def vi : D → Int
  | .v (.int _ n) => n
  | _ => 0
def vb : D → Bool
  | .v (.bool b) => b
  | _ => false
def vl : D → List Int
  | .ints _ l => l
  | _ => []
end Go.ZR
namespace Go.ZM
open Go.Z Go.ZR
def sm (n : Nat) : Prop := n ≤ 1099511627776
def okI (n : Int) : Prop := -2199023255552 ≤ n ∧ n ≤ 2199023255552
def partF (b : List Int) (i n : Int) : List Int × Int :=
  if i < 0 ∨ n < 0 then ([], 1) else if (b.length : Int) < i ∨ (b.length : Int) - i < n then ([], 3) else ((b.drop i.toNat).take n.toNat, 0)
def getF (b : List Int) (i : Int) (k : Nat) : Int × Int := (valF (partF b i k).1, (partF b i k).2)
end Go.ZM
namespace Go.ZR
open Go.Z Go.ZM
def iO (k : IntKind) (n : Int) : O := .d (.v (.int k n))
def bO (b : Bool) : O := .d (.v (.bool b))
def bsO (l : List Int) : O := .d (.ints .u8 l)
def bsN (l : List Int) : O := .own 5 (.ints .u8 l)
def dO : O → D
  | .d x => x
  | _ => .v (.bool false)
def at_ (a : List O) (i : Nat) : O := a.getD i .any
def nC (n : Nat) (quiet : Bool) (pre : List O → Prop) (res : List O → List O) : Ctr where
  own := []
  pre := pre
  res := res
  upd := fun _ => List.replicate n .any
  ro := false
  quiet := quiet
def cloneC : Ctr := nC 1 false (fun a => ∃ l, a = [bsO l] ∧ sm l.length) fun a => [bsN (vl (dO (at_ a 0)))]
def padC : Ctr := nC 1 true (fun a => ∃ n : Nat, a = [iO .i64 n] ∧ n ≤ 2199023255552) fun a => [iO .i64 (padN (vi (dO (at_ a 0))).toNat : Nat)]
def paddedC : Ctr := nC 1 false (fun a => ∃ l, a = [bsO l] ∧ sm l.length) fun a => [bsN (padF (vl (dO (at_ a 0))))]
def putC : Ctr := nC 3 false (fun a => ∃ (b : List Int) (n : Int) (k : Nat), a = [bsO b, iO .u64 n, iO .i64 k] ∧ sm b.length ∧ 1 ≤ k ∧ k ≤ 8) fun a =>
  [bsN (vl (dO (at_ a 0)) ++ be (vi (dO (at_ a 1))) (vi (dO (at_ a 2))).toNat)]
def partA (a : List O) : List Int × Int := partF (vl (dO (at_ a 0))) (vi (dO (at_ a 1))) (vi (dO (at_ a 2)))
def partC : Ctr := nC 3 false (fun a => ∃ (b : List Int) (i n : Int), a = [bsO b, iO .i64 i, iO .i64 n] ∧ sm b.length ∧ okI i ∧ okI n) fun a => [bsN (partA a).1, iO .i64 (partA a).2]
def getA (a : List O) : Int × Int := getF (vl (dO (at_ a 0))) (vi (dO (at_ a 1))) (vi (dO (at_ a 2))).toNat
def getC (m : Nat) : Ctr := nC 3 false (fun a => ∃ (b : List Int) (i : Int) (k : Nat), a = [bsO b, iO .i64 i, iO .i64 k] ∧ sm b.length ∧ okB b ∧ okI i ∧ 1 ≤ k ∧ k ≤ m) fun a => [iO .u64 (getA a).1, iO .i64 (getA a).2]
def putAnn (b : List Int) (n : Int) (k : Nat) : LoopAnn where
  γ := Nat
  pre := fun j => j ≤ k
  μ := fun j => k - j
  items := fun j => [(19, .c (iO .i64 (j : Int))), (7, .c (bsN (b ++ (be n k).take j)))]
def c0 : List (Nat × Ctr) := []
def c1 : List (Nat × Ctr) := [(68, cloneC), (197, padC)]
def c2 : List (Nat × Ctr) := [(152, partC), (207, partC)]
def c3 : List (Nat × Ctr) := [(179, getC 8)]
theorem c0_ok {P : Program} : COk P (ctrs c0) := cok_nil
end Go.ZR
