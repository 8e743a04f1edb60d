/- Part 11 of what the closing text rests on. -/
import Derived.Test.YtlbfenfepmmihaaH10
import Derived.Shelf.SlSortCmp.NoneTotal
import Derived.Shelf.SlGeneric
import Derived.Ground.SlsfProg
/- SortedFunc at numbers of 32 bits that are ordered by how far they are. -/
namespace Go.Proofs
open Go.Shelf
def Try.sortU_ren : Go.Shelf.Ren := ⟨fun | 6 => 109 | 15 => 132 | 14 => 154 | 28 => 179 | 29 => 180 | 20 => 189 | 21 => 190 | 22 => 191 | 23 => 192 | 24 => 193 | 25 => 194 | 26 => 195 | 27 => 196 | 46 => 238 | 47 => 217 | 48 => 218 | 49 => 239 | 50 => 240 | 57 => 262 | n => n, fun | 22 => 24 | 24 => 22 | 25 => 132 | 3 => 3 | 39 => 138 | 0 => 0 | 53 => 22 | 55 => 135 | 4 => 4 | 46 => 280 | 45 => 279 | 50 => 184 | 5 => 5 | 9 => 9 | 66 => 318 | 70 => 322 | 76 => 340 | 77 => 104 | n => n, fun | n => n⟩
theorem Try.sortU : Go.Proofs.SlLaysF.n6 Try.prog Try.sortU_ren := {
  mixed := by kernel_rfl
  f6 := ⟨Try.f109.name, by decide, Try.func109.trans (congrArg some (by kernel_rfl))⟩
  f14 := ⟨Try.f154.name, by decide, Try.func154.trans (congrArg some (by kernel_rfl))⟩
  f15 := Try.func132.trans (congrArg some (by kernel_rfl))
  f20 := ⟨Try.f189.name, by decide, Try.func189.trans (congrArg some (by kernel_rfl))⟩
  f21 := ⟨Try.f190.name, by decide, Try.func190.trans (congrArg some (by kernel_rfl))⟩
  f22 := ⟨Try.f191.name, by decide, Try.func191.trans (congrArg some (by kernel_rfl))⟩
  f23 := ⟨Try.f192.name, by decide, Try.func192.trans (congrArg some (by kernel_rfl))⟩
  f24 := ⟨Try.f193.name, by decide, Try.func193.trans (congrArg some (by kernel_rfl))⟩
  f25 := ⟨Try.f194.name, by decide, Try.func194.trans (congrArg some (by kernel_rfl))⟩
  f26 := ⟨Try.f195.name, by decide, Try.func195.trans (congrArg some (by kernel_rfl))⟩
  f27 := ⟨Try.f196.name, by decide, Try.func196.trans (congrArg some (by kernel_rfl))⟩
  f28 := Try.func179.trans (congrArg some (by kernel_rfl))
  f29 := Try.func180.trans (congrArg some (by kernel_rfl))
  f46 := ⟨Try.f238.name, by decide, Try.func238.trans (congrArg some (by kernel_rfl))⟩
  f47 := Try.func217.trans (congrArg some (by kernel_rfl))
  f48 := Try.func218.trans (congrArg some (by kernel_rfl))
  f49 := ⟨Try.f239.name, by decide, Try.func239.trans (congrArg some (by kernel_rfl))⟩
  f50 := ⟨Try.f240.name, by decide, Try.func240.trans (congrArg some (by kernel_rfl))⟩
  f57 := ⟨Try.f262.name, by decide, Try.func262.trans (congrArg some (by kernel_rfl))⟩
  t0 := Try.underlying0
  a0 := Try.isAgg0
  z0 := Try.sizeOf0
  v0 := Try.zeroValue0
  t3 := Try.underlying3
  a3 := Try.isAgg3
  z3 := Try.sizeOf3
  v3 := Try.zeroValue3
  t4 := Try.underlying4
  a4 := Try.isAgg4
  z4 := Try.sizeOf4
  v4 := Try.zeroValue4
  t5 := Try.underlying5
  a5 := Try.isAgg5
  z5 := Try.sizeOf5
  v5 := Try.zeroValue5
  t9 := Try.underlying9
  a9 := Try.isAgg9
  z9 := Try.sizeOf9
  v9 := Try.zeroValue9
  t22 := Try.underlying24
  a22 := Try.isAgg24
  z22 := Try.sizeOf24
  v22 := Try.zeroValue24
  a24 := Try.isAgg22
  z24 := Try.sizeOf22
  t25 := Try.underlying132
  a25 := Try.isAgg132
  z25 := Try.sizeOf132
  v25 := Try.zeroValue132
  t39 := Try.underlying138
  a39 := Try.isAgg138
  z39 := Try.sizeOf138
  v39 := Try.zeroValue138
  t45 := Try.underlying279
  a45 := Try.isAgg279
  z45 := Try.sizeOf279
  v45 := Try.zeroValue279
  t46 := Try.underlying280
  a46 := Try.isAgg280
  z46 := Try.sizeOf280
  v46 := Try.zeroValue280
  t50 := Try.underlying184
  a50 := Try.isAgg184
  z50 := Try.sizeOf184
  v50 := Try.zeroValue184
  t53 := Try.underlying22
  a53 := Try.isAgg22
  z53 := Try.sizeOf22
  v53 := Try.zeroValue22
  t55 := Try.underlying135
  a55 := Try.isAgg135
  z55 := Try.sizeOf135
  v55 := Try.zeroValue135
  t66 := Try.underlying318
  a66 := Try.isAgg318
  z66 := Try.sizeOf318
  v66 := Try.zeroValue318
  t70 := Try.underlying322
  a70 := Try.isAgg322
  z70 := Try.sizeOf322
  v70 := Try.zeroValue322
  t76 := Try.underlying340
  a76 := Try.isAgg340
  z76 := Try.sizeOf340
  v76 := Try.zeroValue340
  t77 := Try.underlying104
  a77 := Try.isAgg104
  z77 := Try.sizeOf104
  v77 := Try.zeroValue104 }
end Go.Proofs
namespace Go.Proofs.Ytlbfenfepmmihaa
open Go.Proofs
open Go.RowKit Go.Maps Go.Sort Go.Shelf

abbrev U32 := { x : Int // 0 ≤ x ∧ x ≤ 4294967295 }
instance : Inhabited U32 := ⟨⟨0, by decide⟩⟩
def encU (x : U32) : Value := .int .u32 x.1
def farF (c x : Int) : Int := (x - c) % 4294967296
def cmpF (c : Int) (x y : U32) : Int := farF c x.1 - farF c y.1
theorem ltF (c : Int) (x y : U32) : ltOf (cmpF c) x y = decide (farF c x.1 < farF c y.1) := by
  unfold ltOf cmpF
  rw [decide_eq_decide]; omega
theorem swoF (c : Int) : SWO (ltOf (cmpF c)) where
  irrefl x := by rw [ltF]; simp
  trans x y z h1 h2 := by rw [ltF] at *; simp at *; omega
  ntrans x y z h1 h2 := by rw [ltF] at *; simp at *; omega
theorem totF (c : Int) (x y : U32) (h1 : ltOf (cmpF c) x y = false) (h2 : ltOf (cmpF c) y x = false) : x = y := by
  rw [ltF] at *
  simp only [decide_eq_false_iff_not] at *
  unfold farF at *
  have := x.2; have := y.2
  exact Subtype.ext (by omega)

theorem putCells_take (cur : Array Value) (ts : List U32) (h : ts.length ≤ cur.size) : (putCells encU 0 ts.toArray cur).toList.take ts.length = ts.map encU := by
  apply List.ext_getElem?
  intro j
  by_cases hj : j < ts.length
  · rw [List.getElem?_take_of_lt hj, Array.getElem?_toList]
    simp [putCells, hj, show j < cur.size by omega]
  · rw [List.getElem?_take_eq_none (by omega), List.getElem?_eq_none (by simp; omega)]
theorem holds_block {w : World} {g : Nat} {cur : Array Value} {e : TypeId} {ss : List U32} (hb : w.heap[g]? = some (.cells cur e (0, 0))) (ht : cur.toList.take ss.length = ss.map encU) : Holds encU w g 0 ss.toArray := by
  intro j hj
  have hj' : j < ss.length := by simpa using hj
  refine ⟨?_, by simp [World.frozen?, hb]⟩
  have h1 : (cur.toList.take ss.length)[j]? = (ss.map encU)[j]? := by rw [ht]
  rw [List.getElem?_take_of_lt hj'] at h1
  simp only [World.cell?, hb, Nat.zero_add]
  simp only [Option.isSome_none, Bool.false_eq_true, if_false]
  rw [← Array.getElem?_toList, h1]
  simp [hj']
theorem heap_sorted {w : World} {g n : Nat} {os : Array Obj} {cur : Array Value} {e : TypeId} {fr : Nat × Nat} (d : Array U32) (hb : w.heap[g]? = some (.cells cur e fr)) :
    (sortWorld encU w g 0 n d os).heap[g]? = some (.cells (putCells encU 0 d cur) e fr) := by
  have hg : g < w.heap.size := (Array.getElem?_eq_some_iff.1 hb).1
  unfold sortWorld
  rw [heap_grow_old _ _ (by simpa using hg)]
  simp [putRow, mapBlock, Sort.ahead, Array.getElem?_modify, hb]
  rfl
theorem grownBy_sort {w : World} {g n : Nat} {os : Array Obj} (d : Array U32) : w.grownBy (sortWorld encU w g 0 n d os) (some g) := by
  refine ⟨rfl, rfl, rfl, by simp [sortWorld], fun k hk hne => ?_⟩
  unfold sortWorld
  rw [heap_grow_old _ _ (by simpa using hk)]
  have : g ≠ k := fun e => hne (by rw [e])
  simp [putRow, mapBlock, Sort.ahead, Array.getElem?_modify, this]
/-- The numbers, by how far they are. -/
def byFar (c : Int) (ss : List Int) : List Int := ss.mergeSort fun x y => decide (farF c x ≤ farF c y)
theorem byFar_map (c : Int) (us : List U32) : (us.mergeSort fun x y => !(ltOf (cmpF c)) y x).map (fun x : U32 => x.1) = byFar c (us.map fun x => x.1) := by
  unfold byFar
  refine List.map_mergeSort fun a _ b _ => ?_
  rw [ltF, ← decide_not, decide_eq_decide]; omega
theorem toU (ss : List Int) (h : ∀ x ∈ ss, 0 ≤ x ∧ x ≤ 4294967295) : ∃ us : List U32, us.map (fun x : U32 => x.1) = ss := by
  refine ⟨ss.attach.map fun x => ⟨x.1, h x.1 x.2⟩, ?_⟩
  simp

set_option maxRecDepth 100000 in
set_option maxHeartbeats 2000000 in
theorem Try.sortedFunc (n : Nat) (hn : 4 ≤ n) (g : Nat) (lb : Array Value) (eg : ∀ args w, (callFunc g args).run Try.prog w = .ok (.enter g args) w) (S Sp : List Int → Prop) (N : Nat) (hN : N ≤ maxLen) (hNb : N * 4 ≤ 140737488355328) (w : World)
    (hseq : SeqStops Fence.wide (n - 1 - 1 - 1) Try.prog g lb (Value.int .u32) S Sp N w) (hS : ∀ ss, S ss → ss.length < 4611686018427387904 ∧ ∀ x ∈ ss, 0 ≤ x ∧ x ≤ 4294967295)
    (Bt T : Nat) (c : Int) (hB : Bt < w.heap.size) (hT : T < w.heap.size) (h1 : w.cell? ⟨Bt, 0, none⟩ = some (.pointer (some ⟨T, 0, none⟩))) (h2 : w.cell? ⟨T, 0, none⟩ = some (.int .u32 c)) :
    CallsIn Fence.wide n Try.prog 61 #[.func (.func g) #[] lb, .func (.func 63) #[] #[.pointer (some ⟨Bt, 0, none⟩)]] w fun e W' => ∃ (v : Value) (ss : List Int), e = .returned v ∧ S ss ∧
      W'.ownsRow w.heap.size 22 1 v ss.length ((byFar c ss).map (Value.int .u32)) ∧ (v = .slice none 0 0 ↔ ss = []) ∧ Below w.heap.size w W' := by
  have hn1 : 1 ≤ n := by omega
  have hc := Try.collect (n - 1) (by omega) g lb eg S Sp N hN hNb w hseq
  have hf1 : Fence.wide.fn 108 := trivial
  have hf2 : Fence.wide.fn 109 := trivial
  refine callsIn_of_wp Try.func61 rfl trivial ?_ rfl
  simp only [Try.ntmps61, List.size_toArray, List.length_cons, List.length_nil, Nat.reduceAdd, Nat.reduceSub, Array.replicate_succ, Array.replicate_zero, List.push_toArray, List.append_toArray, List.nil_append, List.cons_append]
  gi_wp2_with (gi_at_call 108; refine hc.mono ?_; rintro e W ⟨v, ss, rfl, hss, hrow, hnil, hb⟩)
  rcases hrow.2 with ⟨rfl, hz⟩ | ⟨gb, cap, cur, rfl, hbase, hgb, r1, r2, r3, r4⟩
  · have hss0 : ss = [] := List.eq_nil_of_length_eq_zero hz
    subst hss0
    have hn0 : CallsIn Fence.wide (n - 1) Try.prog 109 #[.slice none 0 0, .func (.func 63) #[] #[.pointer (some ⟨Bt, 0, none⟩)]] W fun e w' => e = .returned (.tuple #[]) ∧ w' = W :=
      callsIn_wide.2 (AnyF.slices_SortFunc_none (ρ := Try.sortU_ren) { Try.sortU with } none 0 _ W)
    gi_wp2_with (gi_at_call 109; refine hn0.mono ?_; rintro e w' ⟨rfl, rfl⟩)
    go_ret
    exact ⟨.slice none 0 0, [], rfl, hss, by simpa [byFar] using hrow, by simp, hb⟩
  · obtain ⟨us, hus⟩ := toU ss (hS ss hss).2
    subst hus
    simp only [List.length_map, List.map_map] at *
    have hH : Holds encU W gb 0 us.toArray := holds_block hgb (by rw [Nat.mul_one] at r4; exact r4)
    have hgl : gb < W.heap.size := (Array.getElem?_eq_some_iff.1 hgb).1
    have c1 : W.cell? ⟨Bt, 0, none⟩ = some (.pointer (some ⟨T, 0, none⟩)) := (hb.cell (p := ⟨Bt, 0, none⟩) hB).trans h1
    have c2 : W.cell? ⟨T, 0, none⟩ = some (.int .u32 c) := (hb.cell (p := ⟨T, 0, none⟩) hT).trans h2
    have hcmp : CmpLays1 Try.prog 63 #[.pointer (some ⟨Bt, 0, none⟩)] encU (cmpF c) gb 0 us.toArray.size W := fun m os dk _ x y => by
      have hsz := hb.size
      have k : ∀ a : Addr, a.block < w.heap.size → (sortWorld encU W gb 0 m dk os).cell? a = W.cell? a := fun a ha => by
        unfold sortWorld
        rw [cell?_grow _ _ _ (by simp; omega), cell?_putRow_other _ _ _ _ _ _ (.inl (by omega))]
        rfl
      refine (Try.cmp63 x.1 y.1 c Bt T _ ((k ⟨Bt, 0, none⟩ hB).trans c1) ((k ⟨T, 0, none⟩ hT).trans c2)).mono fun e w' ⟨he, q, hq⟩ => ⟨he, q, #[], ?_⟩
      rw [hq, grow_empty]
    have hs0 : CallsIn Fence.wide (n - 1) Try.prog 109 #[.slice (some ⟨gb, 0, none⟩) us.length cap, .func (.func 63) #[] #[.pointer (some ⟨Bt, 0, none⟩)]] W fun e w' =>
        e = .returned (.tuple #[]) ∧ ∃ n os, w' = sortWorld encU W gb 0 n (us.mergeSort fun x y => !(ltOf (cmpF c)) y x).toArray os :=
      callsIn_wide.2 (Any.slices_SortFunc_total Try.sortU encU (fun _ => rfl) (cmpF c) (swoF c) 63 #[.pointer (some ⟨Bt, 0, none⟩)] gb 0 cap us.toArray W (enters_of Try.func63 (by kernel_rfl) rfl) hcmp hH hgl (by simpa using (hS _ hss).1) (totF c))
    generalize hts : (us.mergeSort fun x y => !(ltOf (cmpF c)) y x) = ts at hs0
    gi_wp2_with (gi_at_call 109; refine hs0.mono ?_; rintro e w' ⟨rfl, nn, os, rfl⟩)
    go_ret
    have hl : ts.length = us.length := by rw [← hts, List.length_mergeSort]
    have hm : (byFar c (us.map fun x => x.1)).map (Value.int .u32) = ts.map encU := by rw [← byFar_map, hts, List.map_map]; rfl
    refine ⟨_, us.map fun x => x.1, rfl, hss, ?_, by simpa using hnil, hb.grown (grownBy_sort _) hb.size (fun j hj => by cases hj; exact hbase)⟩
    rw [hm, List.length_map]
    exact ⟨by simp [hl], .inr ⟨gb, cap, _, rfl, hbase, heap_sorted _ hgb, r1, r2, by simp [putCells, r3], by rw [Nat.mul_one, ← hl]; exact putCells_take cur ts (by omega)⟩⟩
end Go.Proofs.Ytlbfenfepmmihaa

/- A map's columns, as the library's contracts tell a map. -/
namespace Go.Proofs.Ytlbfenfepmmihaa
open Go.Proofs
open Go.RowKit Go.Maps Go.Sort Go.Shelf Go.Z Go.WideElems

def anyR {H : Type} (_ : Value) : Option (DataW H × List MemPlace) := some (.nil, [])
theorem key_u32 {x : Int} (h : 0 ≤ x ∧ x ≤ 4294967295) : keyOf Try.prog 22 (.int .u32 x) = some (.int .u32 x) := by
  have hw : (Lit.int .u32 x).wf = true := by simp [Lit.wf]; exact h
  simp [keyOf, Try.underlying22, mapKey, hw]
theorem keys_of {es : Array MapEntry} {clock : Nat} {ks : List Int} {vs : Col} (h : MapIs es clock (.ints .u32 ks) vs) : es.toList.map (·.key) = ks.map (Value.int .u32) :=
  Col.keys_of (by rw [Array.length_toList]; exact h.size) fun i e he => by
    rw [Array.getElem?_toList] at he
    exact (h.at_ i e he).1
theorem fit_u32 {H : Type} {es : Array MapEntry} {clock : Nat} {ks : List Int} {vs : Col} (h : MapIs es clock (.ints .u32 ks) vs) (hn : ks.Nodup) (hr : ∀ x ∈ ks, 0 ≤ x ∧ x ≤ 4294967295) (hl : ks.length ≤ maxLen) : Fit Try.prog 22 (anyR (H := H)) es clock := by
  have hk := keys_of h
  refine ⟨by rw [h.size]; exact hl, ?_, fun x hx => ?_⟩
  · refine ⟨fun x hx => ?_, ?_, ?_⟩
    · obtain ⟨i, hi, he⟩ := List.getElem_of_mem hx
      exact h.born i x (by rw [← Array.getElem?_toList, List.getElem?_eq_getElem hi, he])
    · rw [List.nodup_iff_pairwise_ne, List.pairwise_map]
      rw [List.pairwise_iff_getElem]
      intro i j hi hj hij
      have := h.order i j es.toList[i] es.toList[j] hij (by rw [← Array.getElem?_toList, List.getElem?_eq_getElem hi]) (by rw [← Array.getElem?_toList, List.getElem?_eq_getElem hj])
      omega
    · rw [hk]
      exact List.Pairwise.map _ (fun a b hab e => hab (by cases e; rfl)) hn
  · have : x.key ∈ es.toList.map (·.key) := List.mem_map_of_mem hx
    rw [hk] at this
    obtain ⟨n, hn', he⟩ := List.mem_map.1 this
    have := rd_mk (R := anyR (H := H)) (val := x.val) (born := x.born) (key_u32 (hr n hn')) rfl
    exact ⟨_, by rw [he] at this; exact this⟩
theorem has_u32 {H : Type} {es : Array MapEntry} {ks : List Int} (hk : es.toList.map (·.key) = ks.map (Value.int .u32)) (hr : ∀ x ∈ ks, 0 ≤ x ∧ x ≤ 4294967295) (x : Int) :
    has (.map ((es.toList.map (rg Try.prog 22 (anyR (H := H)))).foldr DataW.insert [])) (.int .u32 x) = true ↔ x ∈ ks := by
  rw [has_eq, List.any_eq_true]
  constructor
  · rintro ⟨p, hp, hs⟩
    obtain ⟨e, he, rfl⟩ := List.mem_map.1 ((Go.WideShapes.sorted_perm _).mem_iff.1 hp)
    have hm : e.key ∈ es.toList.map (·.key) := List.mem_map_of_mem he
    rw [hk] at hm
    obtain ⟨n, hn', hen⟩ := List.mem_map.1 hm
    have := rd_mk (R := anyR (H := H)) (val := e.val) (born := e.born) (key_u32 (hr n hn')) rfl
    rw [hen] at this
    rw [rg_of this] at hs
    have : n = x := by simpa [Lit.sameKey] using hs
    exact this ▸ hn'
  · intro hx
    have : Value.int .u32 x ∈ es.toList.map (·.key) := by rw [hk]; exact List.mem_map_of_mem hx
    obtain ⟨e, he, hen⟩ := List.mem_map.1 this
    have hrd := rd_mk (R := anyR (H := H)) (val := e.val) (born := e.born) (key_u32 (hr x hx)) rfl
    rw [← hen] at hrd
    refine ⟨rg Try.prog 22 anyR e, (Go.WideShapes.sorted_perm _).mem_iff.2 (List.mem_map_of_mem he), ?_⟩
    rw [rg_of hrd]
    simp [Lit.sameKey]
end Go.Proofs.Ytlbfenfepmmihaa

/- SortedFunc over a map's keys, as a contract. -/
set_option maxRecDepth 100000
namespace Go.ZM
open Go.Z
def inU (x : Int) : Prop := 0 ≤ x ∧ x ≤ 4294967295
def okKeys (ks : List Int) : Prop := ks.Nodup ∧ (∀ x ∈ ks, inU x) ∧ ks.length ≤ 1099511627776
def byFar' (c : Int) (ks : List Int) : List Int := Go.Proofs.Ytlbfenfepmmihaa.byFar c ks
end Go.ZM
namespace Go.ZR
open Go.Z Go.ZM Go.Proofs
def keysD : D → List Int
  | .fn _ _ _ f => match f 0 with
    | .ptr _ _ g => match g 0 with
      | .map (.ints _ ks) _ => ks
      | _ => []
    | _ => []
  | _ => []
def farD : D → Int
  | .fn _ _ _ f => match f 0 with
    | .ptr _ _ g => match g 0 with
      | .ptr _ _ h => match h 0 with
        | .v (.int _ c) => c
        | _ => 0
      | _ => 0
    | _ => 0
  | _ => 0
def dOf : O → D
  | .d x => x
  | _ => .v undef
def at0 (a : List O) (i : Nat) : O := a.getD i .any
/-- What is collected and sorted. -/
def sfC : Ctr where
  own := []
  pre := fun a => ∃ (F f G g h : Nat → D) (ks : List Int) (vs : Col) (n : Nat) (c : Int), a = [.d (.fn 110 0 1 F), .d (.fn 63 0 1 G)] ∧ F 0 = .ptr 125 1 f ∧ f 0 = .map (.ints .u32 ks) vs ∧ G 0 = .ptr 25 1 g ∧ g 0 = .ptr 127 n h ∧ 1 ≤ n ∧ h 0 = .v (.int .u32 c) ∧ okKeys ks
  res := fun a => [.own 22 (.ints .u32 (byFar' (farD (dOf (at0 a 1))) (keysD (dOf (at0 a 0)))))]
  upd := fun _ => [.any, .any]
  ro := false
  quiet := false
end Go.ZR
namespace Go.Proofs.Ytlbfenfepmmihaa
open Go.Proofs Go.ZM Go.ZR
open Go.RowKit Go.Maps Go.Sort Go.Shelf Go.Z Go.WideElems

theorem byFar_perm {c : Int} {l m : List Int} (h : l.Perm m) (hr : ∀ x ∈ m, inU x) : byFar c l = byFar c m := by
  unfold byFar
  have tr : ∀ a b d : Int, decide (farF c a ≤ farF c b) = true → decide (farF c b ≤ farF c d) = true → decide (farF c a ≤ farF c d) = true := fun a b d h1 h2 => by simp only [decide_eq_true_eq] at *; omega
  have to : ∀ a b : Int, (decide (farF c a ≤ farF c b) || decide (farF c b ≤ farF c a)) = true := fun a b => by simp only [Bool.or_eq_true, decide_eq_true_eq]; omega
  refine List.Perm.eq_of_pairwise (le := fun a b => decide (farF c a ≤ farF c b) = true) (fun a b ha hb h1 h2 => ?_) (List.pairwise_mergeSort tr to l) (List.pairwise_mergeSort tr to m) (((List.mergeSort_perm l _).trans h).trans (List.mergeSort_perm m _).symm)
  simp only [decide_eq_true_eq] at h1 h2
  have e : farF c a = farF c b := by omega
  have h1 := hr a (h.mem_iff.1 ((List.mergeSort_perm l _).mem_iff.1 ha))
  have h2 := hr b ((List.mergeSort_perm m _).mem_iff.1 hb)
  unfold farF at e
  unfold inU at h1 h2
  omega

theorem ok61 : FnIs Try.prog 61 sfC := by
  refine ⟨fun w A args vs fp hA hnd hlt hpre _ => ?_, entersOk Try.func61 (by kernel_rfl) (by kernel_rfl)⟩
  obtain ⟨F, f, G, g, h, ks, vcol, n, c, rfl, hF, hf, hG, hg, hn, hc, hk1, hk2, hk3⟩ := hpre
  match vs, hA with
  | [], hA => simp [OL.holds] at hA
  | [_], hA => simp [OL.holds] at hA
  | _ :: _ :: _ :: _, hA => simp [OL.holds] at hA
  | [v1, v2], hA =>
    simp only [OL.holds, O.holds] at hA
    obtain ⟨_, _, rfl, ⟨hv1, rfl⟩, _, _, rfl, ⟨hv2, rfl⟩, rfl⟩ := hA
    simp only [D.holds] at hv1 hv2
    obtain ⟨us1, rfl, l1, h1⟩ := hv1
    obtain ⟨us2, rfl, l2, h2⟩ := hv2
    obtain ⟨p1, e1, q1⟩ := h1 0 (by omega)
    obtain ⟨p2, e2, q2⟩ := h2 0 (by omega)
    rw [hF] at q1
    rw [hG] at q2
    simp only [D.holds] at q1 q2
    obtain ⟨Bm, cm, rfl, _, hBm, lm, hm⟩ := q1
    obtain ⟨Bt, ct, rfl, _, hBt, lt, ht⟩ := q2
    obtain ⟨m1, em, qm⟩ := hm 0 (by omega)
    obtain ⟨t1, et, qt⟩ := ht 0 (by omega)
    rw [hf] at qm
    rw [hg] at qt
    simp only [D.holds] at qm qt
    obtain ⟨b, es, clock, rfl, _, hb, hmap⟩ := qm
    obtain ⟨T, cT, rfl, _, hT, lT, hTc⟩ := qt
    obtain ⟨c1, ec, qc⟩ := hTc 0 (by omega)
    rw [hc] at qc
    simp only [D.holds] at qc
    obtain ⟨rfl, _⟩ := qc
    obtain rfl : us1 = [.pointer (some ⟨Bm, 0, none⟩)] := by
      match us1, l1, e1 with
      | [_], _, e1 => simpa using e1
    obtain rfl : us2 = [.pointer (some ⟨Bt, 0, none⟩)] := by
      match us2, l2, e2 with
      | [_], _, e2 => simpa using e2
    have lt_of : ∀ {k : Nat} {o : Obj}, w.heap[k]? = some o → k < w.heap.size := fun h => (Array.getElem?_eq_some_iff.1 h).1
    have cell0 : ∀ {k : Nat} {cs : List Value} {ty : Nat} {x : Value}, w.heap[k]? = some (.cells cs.toArray ty (0, 0)) → cs[0]? = some x → w.cell? ⟨k, 0, none⟩ = some x := fun hk hx => by simp [World.cell?, hk, hx]
    have hfit := fit_u32 (H := Unit) hmap hk1 hk2 (by unfold maxLen; omega)
    have hown := World.ownsMap_of_fit hb hfit (R := anyR) (fun _ _ _ h => h)
    have hkeys := keys_of hmap
    have hhas := has_u32 (H := Unit) hkeys hk2
    have hsz : Maps.size (DataW.map ((es.toList.map (rg Try.prog 22 (anyR (H := Unit)))).foldr DataW.insert [])) = ks.length := by
      rw [size_eq, (Go.WideShapes.sorted_perm _).length_eq, List.length_map, Array.length_toList, hmap.size]; rfl
    have hseq := Try.keys_stops 3 (by omega) Bm b es.size _ w (lt_of hBm) (cell0 hBm em) hown
    rw [hsz] at hseq
    have hss : ∀ ss : List Int, (ss.Nodup ∧ ∀ x, x ∈ ss ↔ has (.map ((es.toList.map (rg Try.prog 22 (anyR (H := Unit)))).foldr DataW.insert [])) (.int .u32 x) = true) → ss.Perm ks := fun ss h => (List.perm_ext_iff_of_nodup h.1 hk1).2 fun x => (h.2 x).trans (hhas x)
    refine ((callsIn_wide (n := 6)).1 (Try.sortedFunc 6 (by omega) 110 #[.pointer (some ⟨Bm, 0, none⟩)] (enters_of Try.func110 (by kernel_rfl) rfl) _ _ ks.length (by unfold maxLen; omega) (by omega) w hseq (fun ss h => ⟨by rw [(hss ss h).length_eq]; omega, fun x hx => hk2 x ((hss ss h).mem_iff.1 hx)⟩)
      Bt T c (lt_of hBt) (lt_of hT) (cell0 hBt et) (cell0 hT ec))).mono ?_
    rintro e W' ⟨v, ss, rfl, hS, hrow, hnil, hbel⟩
    have hp := hss ss hS
    have hby : byFar c ss = byFar c ks := byFar_perm hp hk2
    have hres : byFar' (farD (dOf (at0 [O.d (.fn 110 0 1 F), O.d (.fn 63 0 1 G)] 1))) (keysD (dOf (at0 [O.d (.fn 110 0 1 F), O.d (.fn 63 0 1 G)] 0))) = byFar c ks := by
      show byFar (farD (.fn 63 0 1 G)) (keysD (.fn 110 0 1 F)) = _
      simp only [farD, keysD, hG, hF, hg, hf, hc]
    have hlen : (byFar c ks).length = ks.length := List.length_mergeSort _
    rw [hby] at hrow
    rcases hrow.2 with ⟨rfl, hz⟩ | ⟨gb, cap, cur, rfl, hbase, hgb, r1, r2, r3, r4⟩
    · refine ⟨[.slice none 0 0], [], [], rfl, ⟨hbel.os, hbel.tape, hbel.output, hbel.size, fun b hb _ => hbel.block b hb⟩, by simp, by simp, ?_, ?_⟩
      · exact ⟨[], [], rfl, by simp [O.holds], [], [], rfl, by simp [O.holds], by simp [OL.holds]⟩
      · show OL.holds _ W' [.own 22 (.ints .u32 (byFar' _ _))] _ _
        rw [hres]
        have h0 : (byFar c ks) = [] := List.eq_nil_of_length_eq_zero (by rw [hlen, ← hp.length_eq]; exact hz)
        rw [h0]
        exact ⟨[], [], rfl, by simp only [O.holds]; exact ⟨⟨none, 0, 0⟩, rfl, .inl rfl, ⟨rfl, Nat.le_refl _, fun i z hz => by simp at hz⟩, by simp⟩, by simp [OL.holds]⟩
    · refine ⟨[.slice (some ⟨gb, 0, none⟩) ss.length cap], [], [gb], rfl, ⟨hbel.os, hbel.tape, hbel.output, hbel.size, fun b hb _ => hbel.block b hb⟩, by simp, ?_, ?_, ?_⟩
      · intro b hb
        simp at hb
        subst hb
        exact .inr hbase
      · exact ⟨[], [], rfl, by simp [O.holds], [], [], rfl, by simp [O.holds], by simp [OL.holds]⟩
      · show OL.holds _ W' [.own 22 (.ints .u32 (byFar' _ _))] _ _
        rw [hres]
        have hl2 : (byFar c ks).length = ss.length := by rw [hlen, hp.length_eq]
        refine ⟨[gb], [], rfl, ?_, by simp [OL.holds]⟩
        simp only [O.holds]
        refine ⟨⟨some ⟨gb, 0, none⟩, ss.length, cap⟩, rfl, .inr rfl, ⟨hl2.symm, r1, fun i z hz => ?_⟩, ?_⟩
        · have hi : i < (byFar c ks).length := by
            rcases Nat.lt_or_ge i (byFar c ks).length with h | h
            · exact h
            · rw [List.getElem?_eq_none h] at hz; cases hz
          have := congrArg (fun l => l[i]?) r4
          simp only [List.getElem?_map, hz] at this
          rw [List.getElem?_take_of_lt (by omega), Array.getElem?_toList] at this
          show W'.cell? ⟨gb, 0 + i, none⟩ = _
          rw [Nat.zero_add]
          simpa [World.cell?, hgb] using this
        · by_cases h0 : cap = 0
          · exact absurd (hnil.2 (List.eq_nil_of_length_eq_zero (by omega))) (by simp)
          · exact .inr ⟨h0, rfl, cur, hgb, by show 0 + cap * 1 ≤ _; rw [r3]; omega⟩
end Go.Proofs.Ytlbfenfepmmihaa
