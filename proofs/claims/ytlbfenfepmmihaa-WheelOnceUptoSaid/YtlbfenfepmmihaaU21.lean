/- Part 21 of what the closing text rests on. -/
import Derived.Test.YtlbfenfepmmihaaU20
import Derived.Shelf.SlSortCmp.NoneTotal
import Derived.Shelf.SlGeneric
import Derived.Ground.SlsfProg
import Derived.Test.YtlbfenfepmmihaaChecked
import Derived.Test.YtlbfenfepmmihaaRows
namespace Go.Proofs
open Go.Shelf
def Try.sortT_ren : Go.Shelf.Ren := ⟨fun | 6 => 136 | 15 => 132 | 14 => 182 | 28 => 179 | 29 => 180 | 20 => 221 | 21 => 222 | 22 => 223 | 23 => 224 | 24 => 225 | 25 => 226 | 26 => 227 | 27 => 228 | 46 => 247 | 47 => 217 | 48 => 218 | 49 => 248 | 50 => 249 | 57 => 267 | n => n, fun | 22 => 96 | 24 => 99 | 25 => 195 | 3 => 3 | 39 => 138 | 0 => 0 | 53 => 22 | 55 => 135 | 4 => 4 | 46 => 280 | 45 => 279 | 50 => 184 | 5 => 5 | 9 => 9 | 66 => 318 | 70 => 322 | 76 => 340 | 77 => 104 | n => n, fun | n => n⟩
theorem Try.sortT : Go.Proofs.SlLaysF0.n6 Try.prog Try.sortT_ren := {
  mixed := by kernel_rfl
  f6 := ⟨Try.f136.name, by decide, Try.func136.trans (congrArg some (by kernel_rfl))⟩
  f14 := ⟨Try.f182.name, by decide, Try.func182.trans (congrArg some (by kernel_rfl))⟩
  f15 := Try.func132.trans (congrArg some (by kernel_rfl))
  f20 := ⟨Try.f221.name, by decide, Try.func221.trans (congrArg some (by kernel_rfl))⟩
  f21 := ⟨Try.f222.name, by decide, Try.func222.trans (congrArg some (by kernel_rfl))⟩
  f22 := ⟨Try.f223.name, by decide, Try.func223.trans (congrArg some (by kernel_rfl))⟩
  f23 := ⟨Try.f224.name, by decide, Try.func224.trans (congrArg some (by kernel_rfl))⟩
  f24 := ⟨Try.f225.name, by decide, Try.func225.trans (congrArg some (by kernel_rfl))⟩
  f25 := ⟨Try.f226.name, by decide, Try.func226.trans (congrArg some (by kernel_rfl))⟩
  f26 := ⟨Try.f227.name, by decide, Try.func227.trans (congrArg some (by kernel_rfl))⟩
  f27 := ⟨Try.f228.name, by decide, Try.func228.trans (congrArg some (by kernel_rfl))⟩
  f28 := Try.func179.trans (congrArg some (by kernel_rfl))
  f29 := Try.func180.trans (congrArg some (by kernel_rfl))
  f46 := ⟨Try.f247.name, by decide, Try.func247.trans (congrArg some (by kernel_rfl))⟩
  f47 := Try.func217.trans (congrArg some (by kernel_rfl))
  f48 := Try.func218.trans (congrArg some (by kernel_rfl))
  f49 := ⟨Try.f248.name, by decide, Try.func248.trans (congrArg some (by kernel_rfl))⟩
  f50 := ⟨Try.f249.name, by decide, Try.func249.trans (congrArg some (by kernel_rfl))⟩
  f57 := ⟨Try.f267.name, by decide, Try.func267.trans (congrArg some (by kernel_rfl))⟩
  t0 := Try.underlying0
  a0 := Try.isAgg0
  z0 := Try.sizeOf0
  v0 := Try.zeroValue0
  t3 := Try.underlying3
  a3 := Try.isAgg3
  z3 := Try.sizeOf3
  v3 := Try.zeroValue3
  t4 := Try.underlying4
  a4 := Try.isAgg4
  z4 := Try.sizeOf4
  v4 := Try.zeroValue4
  t5 := Try.underlying5
  a5 := Try.isAgg5
  z5 := Try.sizeOf5
  v5 := Try.zeroValue5
  t9 := Try.underlying9
  a9 := Try.isAgg9
  z9 := Try.sizeOf9
  v9 := Try.zeroValue9
  t22 := Try.underlying96
  a22 := Try.isAgg96
  z22 := Try.sizeOf96
  v22 := Try.zeroValue96
  t25 := Try.underlying195
  a25 := Try.isAgg195
  z25 := Try.sizeOf195
  v25 := Try.zeroValue195
  t39 := Try.underlying138
  a39 := Try.isAgg138
  z39 := Try.sizeOf138
  v39 := Try.zeroValue138
  t45 := Try.underlying279
  a45 := Try.isAgg279
  z45 := Try.sizeOf279
  v45 := Try.zeroValue279
  t46 := Try.underlying280
  a46 := Try.isAgg280
  z46 := Try.sizeOf280
  v46 := Try.zeroValue280
  t50 := Try.underlying184
  a50 := Try.isAgg184
  z50 := Try.sizeOf184
  v50 := Try.zeroValue184
  t53 := Try.underlying22
  a53 := Try.isAgg22
  z53 := Try.sizeOf22
  v53 := Try.zeroValue22
  t55 := Try.underlying135
  a55 := Try.isAgg135
  z55 := Try.sizeOf135
  v55 := Try.zeroValue135
  t66 := Try.underlying318
  a66 := Try.isAgg318
  z66 := Try.sizeOf318
  v66 := Try.zeroValue318
  t70 := Try.underlying322
  a70 := Try.isAgg322
  z70 := Try.sizeOf322
  v70 := Try.zeroValue322
  t76 := Try.underlying340
  a76 := Try.isAgg340
  z76 := Try.sizeOf340
  v76 := Try.zeroValue340
  t77 := Try.underlying104
  a77 := Try.isAgg104
  z77 := Try.sizeOf104
  v77 := Try.zeroValue104 }
end Go.Proofs

namespace Go.Proofs.Ytlbfenfepmmihaa
open Go.Proofs
open Go.RowKit Go.Maps Go.Sort Go.Shelf

def ltP (x y : Int × Int) : Bool := decide (x.2 < y.2) || (decide (x.2 = y.2) && decide (x.1 < y.1))
theorem ltP_iff {x y : Int × Int} : ltP x y = true ↔ x.2 < y.2 ∨ (x.2 = y.2 ∧ x.1 < y.1) := by unfold ltP; simp
theorem ltO (x y : Int × Int) : ltOf ordP x y = ltP x y := by
  unfold ltOf
  rw [Bool.eq_iff_iff, decide_eq_true_eq, ltP_iff]
  unfold ordP cmpZ
  split <;> (repeat' split) <;> (try split at *) <;> omega
theorem swoO : SWO (ltOf ordP) where
  irrefl x := by
    rw [ltO]
    cases h : ltP x x with
    | false => rfl
    | true => have := ltP_iff.1 h; omega
  trans x y z h1 h2 := by
    rw [ltO] at *
    have := ltP_iff.1 h1; have := ltP_iff.1 h2
    exact ltP_iff.2 (by omega)
  ntrans x y z h1 h2 := by
    rw [ltO] at *
    cases h : ltP x z with
    | false => rfl
    | true =>
      have h3 := ltP_iff.1 h
      have n1 : ¬ ltP x y = true := by rw [h1]; simp
      have n2 : ¬ ltP y z = true := by rw [h2]; simp
      rw [ltP_iff] at n1 n2
      omega
theorem totO (x y : Int × Int) (h1 : ltOf ordP x y = false) (h2 : ltOf ordP y x = false) : x = y := by
  rw [ltO] at *
  have n1 : ¬ ltP x y = true := by rw [h1]; simp
  have n2 : ¬ ltP y x = true := by rw [h2]; simp
  rw [ltP_iff] at n1 n2
  exact Prod.ext (by omega) (by omega)

theorem flat_get : ∀ (l : List (Int × Int)) (t : Nat), (l.flatMap encT)[t]? = (l[t / 2]?).map fun x => if t % 2 = 0 then Value.int .i64 x.1 else Value.int .i64 x.2
  | [], t => by simp
  | x :: l, 0 => rfl
  | x :: l, 1 => rfl
  | x :: l, t + 2 => by
    have e1 : (t + 2) / 2 = t / 2 + 1 := by omega
    have e2 : (t + 2) % 2 = t % 2 := by omega
    rw [e1, e2]
    exact flat_get l t
theorem flatK_eq (l : List (Int × Int)) : flatK encT 2 l.toArray = (l.flatMap encT).toArray := by
  apply Array.ext
  · rw [size_flatK, List.size_toArray, List.size_toArray, flat_len]
  · intro i h1 h2
    have hi : i < l.length * 2 := by simpa using h1
    have hd : i / 2 < l.length := by omega
    have e1 : (flatK encT 2 l.toArray)[i] = (flatK encT 2 l.toArray)[i]! := (getElem!_pos _ i h1).symm
    rw [e1, get_flatK encT 2 l.toArray i (by simpa using hi)]
    have e2 := flat_get l i
    have e3 : (l.flatMap encT)[i]? = some ((l.flatMap encT).toArray[i]) := by simp
    rw [e3, List.getElem?_eq_getElem hd] at e2
    have e4 := Option.some.inj e2
    rw [e4]
    have e5 : l.toArray[i / 2]! = l[i / 2] := by simp [hd]
    rw [e5]
    have h0 : i % 2 = 0 ∨ i % 2 = 1 := by omega
    rcases h0 with h0 | h0 <;> rw [h0] <;> rfl

theorem putCells_takeV (cur : Array Value) (ts : List Value) (h : ts.length ≤ cur.size) : (putCells id 0 ts.toArray cur).toList.take ts.length = ts := by
  apply List.ext_getElem?
  intro j
  by_cases hj : j < ts.length
  · rw [List.getElem?_take_of_lt hj, Array.getElem?_toList]
    simp [putCells, hj, show j < cur.size by omega]
  · rw [List.getElem?_take_eq_none (by omega), List.getElem?_eq_none (by omega)]
theorem holds_blockV {w : World} {g : Nat} {cur : Array Value} {e : TypeId} {ss : List Value} (hb : w.heap[g]? = some (.cells cur e (0, 0))) (ht : cur.toList.take ss.length = ss) : Holds id w g 0 ss.toArray := by
  intro j hj
  have hj' : j < ss.length := by simpa using hj
  refine ⟨?_, by simp [World.frozen?, hb]⟩
  have h1 : (cur.toList.take ss.length)[j]? = ss[j]? := by rw [ht]
  rw [List.getElem?_take_of_lt hj'] at h1
  simp only [World.cell?, hb, Nat.zero_add]
  simp only [Option.isSome_none, Bool.false_eq_true, if_false]
  rw [← Array.getElem?_toList, h1]
  simp [hj']
theorem heap_sortedK {w : World} {g n : Nat} {os : Array Obj} {cur : Array Value} {e : TypeId} {fr : Nat × Nat} (d : List (Int × Int)) (hb : w.heap[g]? = some (.cells cur e fr)) :
    (sortWorldK encT 2 w g 0 n d.toArray os).heap[g]? = some (.cells (putCells id 0 (d.flatMap encT).toArray cur) e fr) := by
  have hg : g < w.heap.size := (Array.getElem?_eq_some_iff.1 hb).1
  unfold sortWorldK putRowK
  rw [flatK_eq, heap_grow_old _ _ (by simpa using hg)]
  simp [putRow, mapBlock, Sort.ahead, Array.getElem?_modify, hb]
  rfl
theorem grownBy_sortK {w : World} {g n : Nat} {os : Array Obj} (d : Array (Int × Int)) : w.grownBy (sortWorldK encT 2 w g 0 n d os) (some g) := by
  refine ⟨rfl, rfl, rfl, by simp [sortWorldK, putRowK], fun k hk hne => ?_⟩
  unfold sortWorldK putRowK
  rw [heap_grow_old _ _ (by simpa using hk)]
  have : g ≠ k := fun e => hne (by rw [e])
  simp [putRow, mapBlock, Sort.ahead, Array.getElem?_modify, this]
def sortP (l : List (Int × Int)) : List (Int × Int) := l.mergeSort fun x y => !(ltOf ordP) y x

set_option maxRecDepth 100000 in
set_option maxHeartbeats 2000000 in
theorem Try.sortedFuncT (n : Nat) (hn : 4 ≤ n) (g : Nat) (lb : Array Value) (eg : ∀ args w, (callFunc g args).run Try.prog w = .ok (.enter g args) w) (l : List (Int × Int)) (hl : l.length ≤ 4096) (n0 : Nat) (w : World) (hn0 : n0 ≤ w.heap.size)
    (hseq : SeqStopsK Fence.wide (n - 1 - 1 - 1) Try.prog g lb (fun t : Int × Int => #[Value.agg #[.int .i64 t.1, .int .i64 t.2]]) (Below n0) (fun xs => xs = l) (fun _ => True) l.length w) :
    CallsIn Fence.wide n Try.prog 97 #[.func (.func g) #[] lb, .func (.func 99) #[] #[]] w fun e W' => ∃ (v : Value), e = .returned v ∧ W'.ownsRow w.heap.size 99 2 v l.length ((sortP l).flatMap encT) ∧ (v = .slice none 0 0 ↔ l = []) ∧ Below w.heap.size w W' := by
  have hn1 : 1 ≤ n := by omega
  have hc := Try.collectT (n - 1) (by omega) g lb eg l hl n0 w hn0 hseq
  have hf1 : Fence.wide.fn 135 := trivial
  have hf2 : Fence.wide.fn 136 := trivial
  refine callsIn_of_wp Try.func97 rfl trivial ?_ rfl
  simp only [Try.ntmps97, List.size_toArray, List.length_cons, List.length_nil, Nat.reduceAdd, Nat.reduceSub, Array.replicate_succ, Array.replicate_zero, List.push_toArray, List.append_toArray, List.nil_append, List.cons_append]
  gi_wp2_with (gi_at_call 135; refine hc.mono ?_; rintro e W ⟨v, rfl, hrow, hnil, hb⟩)
  rcases hrow.2 with ⟨rfl, hz⟩ | ⟨gb, cap, cur, rfl, hbase, hgb, r1, r2, r3, r4⟩
  · have hl0 : l = [] := List.eq_nil_of_length_eq_zero hz
    subst hl0
    have hn0 : CallsIn Fence.wide (n - 1) Try.prog 136 #[.slice none 0 0, .func (.func 99) #[] #[]] W fun e w' => e = .returned (.tuple #[]) ∧ w' = W :=
      callsIn_wide.2 (AnyF.slices_SortFunc_none (ρ := Try.sortT_ren) Try.sortT none 0 _ W)
    gi_wp2_with (gi_at_call 136; refine hn0.mono ?_; rintro e w' ⟨rfl, rfl⟩)
    go_ret
    exact ⟨.slice none 0 0, rfl, by simpa [sortP] using hrow, by simp, hb⟩
  · have hH : HoldsK encT 2 W gb 0 l.toArray := by
      unfold HoldsK
      rw [flatK_eq]
      exact holds_blockV hgb (by rw [flat_len]; exact r4)
    have hgl : gb < W.heap.size := (Array.getElem?_eq_some_iff.1 hgb).1
    have hcmp : CmpLays Try.prog 99 #[] encT 2 ordP gb 0 l.toArray.size W := fun m os dk _ x y => Try.order99 x y _
    have hs0 : CallsIn Fence.wide (n - 1) Try.prog 136 #[.slice (some ⟨gb, 0, none⟩) l.length cap, .func (.func 99) #[] #[]] W fun e w' =>
        e = .returned (.tuple #[]) ∧ ∃ n os, w' = sortWorldK encT 2 W gb 0 n (sortP l).toArray os :=
      callsIn_wide.2 (AnyQ.slices_SortFunc_total Try.sortT 2 Try.isAgg99 Try.sizeOf99 encT (fun _ => rfl) (fun x v hv => by simp [encT] at hv; rcases hv with rfl | rfl <;> rfl) ordP swoO 99 #[] gb 0 cap l.toArray W (enters_of Try.func99 (by kernel_rfl) rfl) hcmp hH hgl (by simp; omega) totO)
    have hlp : (sortP l).length = l.length := List.length_mergeSort _
    generalize hts : sortP l = ts at hs0 hlp
    gi_wp2_with (gi_at_call 136; refine hs0.mono ?_; rintro e w' ⟨rfl, nn, os, rfl⟩)
    go_ret
    have hft : (ts.flatMap encT).length = l.length * 2 := by rw [flat_len, hlp]
    refine ⟨_, rfl, ?_, by simpa using hnil, hb.grown (grownBy_sortK _) hb.size (fun j hj => by cases hj; exact hbase)⟩
    rw [hts]
    exact ⟨hft, .inr ⟨gb, cap, _, rfl, hbase, heap_sortedK ts hgb, r1, r2, by simp [putCells, r3], by rw [← hft]; exact putCells_takeV cur _ (by rw [hft, r3]; omega)⟩⟩
end Go.Proofs.Ytlbfenfepmmihaa

set_option maxRecDepth 100000
namespace Go.ZR
open Go.Z Go.ZM Go.Proofs
def listD : D → List Tim
  | .fn _ _ _ f => match f 0 with
    | .ptr _ _ g => timsOf (g 0)
    | _ => []
  | _ => []
def sfTC : Ctr where
  own := []
  pre := fun a => ∃ (F f G : Nat → D) (l : List Tim), a = [.d (.fn 137 0 1 F), .d (.fn 99 0 0 G)] ∧ F 0 = .ptr 96 1 f ∧ f 0 = .recs 2 l.length (timCell l) ∧ l.length ≤ 4096
  res := fun a => [timsO (sortT (listD (dO (at_ a 0))))]
  upd := fun _ => [.any, .any]
  ro := false
  quiet := false
def w8 : List (Nat × Ctr) := [(97, sfTC)]
end Go.ZR
namespace Go.Proofs.Ytlbfenfepmmihaa
open Go.Proofs Go.ZM Go.ZR
open Go.RowKit Go.Maps Go.Sort Go.Shelf Go.Z Go.WideElems
def prT (t : Tim) : Int × Int := (t.id, t.at_)
theorem prT_lt (a b : Tim) : ltP (prT a) (prT b) = ltT a b := rfl
theorem sortP_map (l : List Tim) : sortP (l.map prT) = (sortT l).map prT := by
  unfold sortP sortT
  refine (List.map_mergeSort fun a _ b _ => ?_).symm
  rw [ltO, prT_lt]
theorem flatT_get (l : List Tim) {i j : Nat} (hi : i < l.length) (hj : j < 2) : ∃ v, ((l.map prT).flatMap encT)[i * 2 + j]? = some v ∧ (timCell l i j) = .v v ∧ v.oneCell' = true := by
  have h := flat_get (l.map prT) (i * 2 + j)
  rw [show (i * 2 + j) / 2 = i by omega, show (i * 2 + j) % 2 = j by omega] at h
  rw [List.getElem?_map, List.getElem?_eq_getElem hi] at h
  have e : l.getD i noTim = l[i] := by simp [List.getD, hi]
  have hj' : j = 0 ∨ j = 1 := by omega
  rcases hj' with rfl | rfl
  · exact ⟨_, h, by show D.v (.int .i64 (l.getD i noTim).id) = _; rw [e]; rfl, rfl⟩
  · exact ⟨_, h, by show D.v (.int .i64 (l.getD i noTim).at_) = _; rw [e]; rfl, rfl⟩

theorem ok97 : FnIs Try.prog 97 sfTC := by
  refine ⟨fun w A args vs fp hA hnd hlt hpre _ => ?_, entersOk Try.func97 (by kernel_rfl) (by kernel_rfl)⟩
  obtain ⟨F, f, G, l, rfl, hF, hf, hl⟩ := hpre
  match vs, hA with
  | [], hA => simp [OL.holds] at hA
  | [_], hA => simp [OL.holds] at hA
  | _ :: _ :: _ :: _, hA => simp [OL.holds] at hA
  | [v1, v2], hA =>
    simp only [OL.holds, O.holds] at hA
    obtain ⟨_, _, rfl, ⟨hv1, rfl⟩, _, _, rfl, ⟨hv2, rfl⟩, rfl⟩ := hA
    simp only [D.holds] at hv1 hv2
    obtain ⟨us1, rfl, l1, h1⟩ := hv1
    obtain ⟨us2, rfl, l2, h2⟩ := hv2
    obtain rfl : us2 = [] := List.eq_nil_of_length_eq_zero l2
    obtain ⟨p1, e1, q1⟩ := h1 0 (by omega)
    rw [hF] at q1
    simp only [D.holds] at q1
    obtain ⟨Bm, cm, rfl, _, hBm, lm, hm⟩ := q1
    obtain ⟨m1, em, qm⟩ := hm 0 (by omega)
    rw [hf] at qm
    obtain ⟨L, rfl, hwf, hinn, hlen, hcap, hcell⟩ := D.holds_recs.1 qm
    obtain rfl : us1 = [.pointer (some ⟨Bm, 0, none⟩)] := by
      match us1, l1, e1 with
      | [_], _, e1 => simpa using e1
    have hBl : Bm < w.heap.size := (Array.getElem?_eq_some_iff.1 hBm).1
    have hsl : w.cell? ⟨Bm, 0, none⟩ = some (.slice L.a (l.map prT).length L.cap) := by
      have : cm.toArray[0]? = some L.val := by simpa using em
      simp only [World.cell?, hBm, this]
      rw [List.length_map, ← hlen]
      rfl
    have hco : CellsOf w.heap.size w L.a (l.map prT) := fun i t ht => by
      rw [List.getElem?_map, Option.map_eq_some_iff] at ht
      obtain ⟨t', ht', rfl⟩ := ht
      have hi := (List.getElem?_eq_some_iff.1 ht').1
      have hne : L.len ≠ 0 := by omega
      have ha : L.a = some ⟨L.b, L.o, none⟩ := hwf.resolve_left (by omega)
      have eg : l.getD i noTim = t' := by simp [List.getD, ht']
      obtain ⟨c0, k0, d0⟩ := hcell i hi 0 (by omega)
      obtain ⟨c1, k1, d1⟩ := hcell i hi 1 (by omega)
      have e0 : c0 = .int .i64 t'.id := by
        have : (D.v (.int .i64 (l.getD i noTim).id)).holds A w c0 := d0
        rw [eg] at this
        exact this.1
      have e1 : c1 = .int .i64 t'.at_ := by
        have : (D.v (.int .i64 (l.getD i noTim).at_)).holds A w c1 := d1
        rw [eg] at this
        exact this.1
      exact ⟨L.b, L.o, ha, (hinn hne).2, by subst e0; exact k0, by subst e1; exact k1⟩
    have hseq := Try.values_stops 3 (by omega) Bm w.heap.size L.a L.cap (l.map prT) w hBl (Nat.le_refl _) (by rw [List.length_map]; exact hl) hsl hco
    refine ((callsIn_wide (n := 6)).1 (Try.sortedFuncT 6 (by omega) 137 #[.pointer (some ⟨Bm, 0, none⟩)] (enters_of Try.func137 (by kernel_rfl) rfl) (l.map prT) (by rw [List.length_map]; exact hl) w.heap.size w (Nat.le_refl _) hseq)).mono ?_
    rintro e W' ⟨v, rfl, hrow, hnil, hbel⟩
    have hres : timsO (sortT (listD (dO (at_ [O.d (.fn 137 0 1 F), O.d (.fn 99 0 0 G)] 0)))) = timsO (sortT l) := by
      show timsO (sortT (listD (.fn 137 0 1 F))) = _
      simp only [listD, hF, hf, timsOf_cell]
    rw [sortP_map, List.length_map] at hrow
    have hlp : (sortT l).length = l.length := sortT_len l
    rcases hrow.2 with ⟨rfl, hz⟩ | ⟨gb, cap, cur, rfl, hbase, hgb, r1, r2, r3, r4⟩
    · refine ⟨[.slice none 0 0], [], [], rfl, ⟨hbel.os, hbel.tape, hbel.output, hbel.size, fun b hb _ => hbel.block b hb⟩, by simp, by simp, ?_, ?_⟩
      · exact ⟨[], [], rfl, by simp [O.holds], [], [], rfl, by simp [O.holds], by simp [OL.holds]⟩
      · show OL.holds _ W' [timsO (sortT (listD _))] _ _
        rw [hres]
        refine ⟨[], [], rfl, ?_, by simp [OL.holds]⟩
        show O.holds _ _ (.own 99 (.recs 2 (sortT l).length (timCell (sortT l)))) _ _
        simp only [O.holds]
        exact ⟨⟨none, 0, 0⟩, rfl, .inl rfl, ⟨by show 0 = _; omega, Nat.le_refl _, fun i hi => absurd hi (by omega)⟩, .inl ⟨rfl, trivial⟩⟩
    · refine ⟨[.slice (some ⟨gb, 0, none⟩) l.length cap], [], if cap = 0 then [] else [gb], rfl, ⟨hbel.os, hbel.tape, hbel.output, hbel.size, fun b hb _ => hbel.block b hb⟩, by split <;> simp, ?_, ?_, ?_⟩
      · intro b hb
        split at hb
        · simp at hb
        · simp at hb
          subst hb
          exact .inr hbase
      · exact ⟨[], [], rfl, by simp [O.holds], [], [], rfl, by simp [O.holds], by simp [OL.holds]⟩
      · show OL.holds _ W' [timsO (sortT (listD _))] _ _
        rw [hres]
        refine ⟨if cap = 0 then [] else [gb], [], by simp, ?_, by simp [OL.holds]⟩
        show O.holds _ _ (.own 99 (.recs 2 (sortT l).length (timCell (sortT l)))) _ _
        simp only [O.holds]
        refine ⟨⟨some ⟨gb, 0, none⟩, l.length, cap⟩, rfl, .inr rfl, ⟨hlp.symm, r1, fun i hi j hj => ?_⟩, ?_⟩
        · obtain ⟨v, g1, g2, g3⟩ := flatT_get (sortT l) hi hj
          rw [g2]
          refine ⟨v, ?_, rfl, g3⟩
          rw [← r4, List.getElem?_take_of_lt (by omega), Array.getElem?_toList] at g1
          show W'.cell? ⟨gb, 0 + (i * 2 + j), none⟩ = _
          rw [Nat.zero_add]
          simpa [World.cell?, hgb] using g1
        · by_cases h0 : cap = 0
          · exact .inl ⟨h0, by rw [if_pos h0]⟩
          · exact .inr ⟨h0, by rw [if_neg h0]; rfl, cur, hgb, by show 0 + cap * 2 ≤ _; rw [r3]; omega⟩
end Go.Proofs.Ytlbfenfepmmihaa

namespace Go.ZR
open Go.Proofs
open Go.Z Go.ZM Go.RowKit
set_option maxRecDepth 100000
theorem w8_ok : COk Try.prog (ctrs w8) := cok_cons Go.Proofs.Ytlbfenfepmmihaa.ok97 cok_nil
theorem timCell_v (l : List Tim) (i j : Nat) : ∃ v, timCell l i j = .v v := by
  match j with
  | 0 => exact ⟨_, rfl⟩
  | 1 => exact ⟨_, rfl⟩
  | _ + 2 => exact ⟨_, rfl⟩
noncomputable def iW26c98 : Code := match Try.f98.body with | some c => c | none => .skip
noncomputable def iW26_98 : InlF := ⟨iW26c98, Try.f98.ntmps, Try.f98.results.toList, anns []⟩
noncomputable def iW26 : List (Nat × InlF) := [(98, iW26_98)]
theorem iW26_ok : InlsOk Try.prog iW26 := ⟨inlOk Try.func98 (by kernel_rfl) (by kernel_rfl), trivial⟩
noncomputable def code46 : Code := match Try.f46.body with | some c => c | none => .skip
set_option maxHeartbeats 4000000 in
theorem vc46 : ∀ (w : Whl), okW w → (∃ (F : Nat → D), ∃ (f : Nat → D), ∃ (G : Nat → D), ∃ (l : List Tim), [O.d (D.fn (137 : Nat) (0 : Nat) [D.ptr (96 : Nat) [D.recs (2 : Nat) w.l.length (timCell w.l)].length fun (i : Nat) => [D.recs (2 : Nat) w.l.length (timCell w.l)].getD i (D.v undef)].length fun (i : Nat) => [D.ptr (96 : Nat) [D.recs (2 : Nat) w.l.length (timCell w.l)].length fun (i : Nat) => [D.recs (2 : Nat) w.l.length (timCell w.l)].getD i (D.v undef)].getD i (D.v undef)), O.d (D.fn (99 : Nat) (0 : Nat) (0 : Nat) fun (i : Nat) => [].getD i (D.v undef))] = [O.d (D.fn (137 : Nat) (0 : Nat) (1 : Nat) F), O.d (D.fn (99 : Nat) (0 : Nat) (0 : Nat) G)] ∧
  F (0 : Nat) = D.ptr (96 : Nat) (1 : Nat) f ∧ f (0 : Nat) = D.recs (2 : Nat) l.length (timCell l) ∧ l.length ≤ (4096 : Nat)) ∧ (((∀ (i : Nat), i < (sortT (timsOf ([D.recs (2 : Nat) w.l.length (timCell w.l)].getD (0 : Nat) (D.v undef)))).length →
  ∀ (j : Nat), j < (2 : Nat) → ∃ (v : Value), timCell (sortT (timsOf ([D.recs (2 : Nat) w.l.length (timCell w.l)].getD (0 : Nat) (D.v undef)))) i j = D.v v) ∧
  True) ∧ true = true ∧ true = true ∧ True) ∧ (w.l.length = (timsOf (D.recs (2 : Nat) w.l.length (timCell w.l))).length ∧ ∀ (i : Nat), i < w.l.length → ∀ (j : Nat), j < (2 : Nat) →
  timCell w.l i j = timCell (timsOf (D.recs (2 : Nat) w.l.length (timCell w.l))) i j) ∧ w.ks = w.ks ∧ posL w = posL (Whl.mk (timsOf (D.recs (2 : Nat) w.l.length (timCell w.l))) w.ks) ∧
  ((sortT (timsOf ([D.recs (2 : Nat) w.l.length (timCell w.l)].getD (0 : Nat) (D.v undef)))).length = (sortT (timsOf (D.recs (2 : Nat) w.l.length (timCell w.l)))).length ∧
  ∀ (i : Nat), i < (sortT (timsOf ([D.recs (2 : Nat) w.l.length (timCell w.l)].getD (0 : Nat) (D.v undef)))).length → ∀ (j : Nat), j < (2 : Nat) → timCell (sortT (timsOf ([D.recs (2 : Nat) w.l.length (timCell w.l)].getD (0 : Nat) (D.v undef)))) i j = timCell (sortT (timsOf (D.recs (2 : Nat) w.l.length (timCell w.l)))) i j) ∧
  (!(Nat.beq (0 : Nat) (2 : Nat) || (Nat.beq (1 : Nat) (2 : Nat) || (Nat.beq (4 : Nat) (2 : Nat) || false))) && (!(Nat.beq (1 : Nat) (0 : Nat) || (Nat.beq (4 : Nat) (0 : Nat) || false)) && (!(Nat.beq (4 : Nat) (1 : Nat) || false) && (!false && true))) && true) = true := by
  have e : ∀ w : Whl, timsOf ([D.recs 2 w.l.length (timCell w.l)].getD 0 (D.v undef)) = w.l := fun w => timsOf_cell w.l
  simp only [↓Bool.and_eq_true, ↓Bool.not_eq_true', and_true, implies_true, Bool.or_false, Nat.beq, List.getD_cons_zero, Nat.zero_add, List.length_cons, List.length_nil, timsOf_cell]
  intro w h
  exact ⟨⟨_, _, _, w.l, rfl, rfl, rfl, h.2.2⟩, fun i _ j _ => timCell_v _ i j⟩
set_option maxRecDepth 100000 in
theorem ok46 : FnIs Try.prog 46 listC := by
  refine fnIs (C := (ctrsJ Try.prog w8 iW26 2)) (by kernel_rfl) (cokJ (by kernel_rfl) w8_ok iW26_ok) Try.func46 (code := code46) (by kernel_rfl) (by kernel_rfl) ?_
  rintro a ⟨w, rfl, h⟩
  exact ⟨anns [], kcast (vc46 w h) (by kernel_rfl)⟩

end Go.ZR

set_option maxRecDepth 100000
namespace Go.ZM
open Go.Z Go.ZR
end Go.ZM
namespace Go.ZR
open Go.Z Go.ZM Go.Proofs
def w9 : List (Nat × Ctr) := [(42, newC), (43, ansWC), (44, setC), (52, cancelC), (46, listC), (45, dueC), (47, sameTC)]
def yesW (n : Nat) (pre : List O → Prop) : Ctr := nC n false pre fun _ => [bO true]
end Go.ZR
