/- Part 16 of what the closing text rests on. -/
import Derived.Test.YtdamnoleoakehaaGreatDoorKX15
import Derived.Deep.LoopGhost
namespace Go.Q
noncomputable section
open Go.RowKit
open Go.Z hiding cond_false get

def leQ (b : Nat) : Option Nat → Prop
  | none => False
  | some c => b ≤ c
def baseQ (s : St) (rc : Nat → Rc) : Option Nat → Tr (Option Ob)
  | none => s.h
  | some c => (rc c).h
def bndQ (s : St) (rc : Nat → Rc) : Option Nat → Nat
  | none => s.nx
  | some c => (rc c).hi
def stQ (s : St) (rc : Nat → Rc) (q : Option Nat) : St := { s with h := baseQ s rc q }
def loose (ops : Array Oper) (rc : Nat → Rc) (q : Option Nat) (listed : Array Bool) (i : Nat) : Prop :=
  i < ops.size ∧ listed.getD i false = true ∧ (rc i).kind = 5 ∧ ∀ b, i < b → leQ b q → (rc b).kind = 2 → anc ops ops.size b i = false
def Mq (ops : Array Oper) (s : St) (rc : Nat → Rc) (q : Option Nat) (listed : Array Bool) : Mset := fun n o c =>
  ((stQ s rc q).get n = some o ∧ c = bndQ s rc q) ∨ ∃ i, loose ops rc q listed i ∧ (n, o) ∈ (rc i).news ∧ c = (rc i).hi

structure DInv (ρ : Rh) (ops : Array Oper) (env : E) (s : St) (rc : Nat → Rc) (N : Nat) (θ0 : Tz) (w0 : World) (θ : Tz) (q : Option Nat) (listed : Array Bool) (a : Act) (w : World) : Prop where
  size : listed.size = ops.size
  closed : ClosedL ops listed
  bars : ∀ b, b < ops.size → (rc b).kind = 2 → (listed.getD b false = true ↔ leQ b q)
  qok : ∀ c, q = some c → c < ops.size ∧ (rc c).kind = 2
  ms : MS ρ θ (Mq ops s rc q listed) w
  disj : ∀ i n o, loose ops rc q listed i → (n, o) ∈ (rc i).news → (stQ s rc q).get n = none
  low : ∀ m, m < s.fl → (stQ s rc q).get m = s.get m
  free : ∀ m L, θ m = some L → m < s.nx ∨ ∃ i, i < ops.size ∧ listed.getD i false = true ∧ (rc i).lo ≤ m ∧ m < (rc i).hi
  start : ∀ m, m < s.nx → θ m = θ0 m
  tmps : SzOk N a
  slot0 : ∀ t d, E.get env t = some d → (∀ i ∈ writers ops.toList 0 t, listed.getD i false = false) → ∃ v, a.tmps[t]? = some v ∧ W ρ (cut θ s.nx) d v
  slot1 : ∀ t i, i ∈ writers ops.toList 0 t → listed.getD i false = true → (∀ j ∈ writers ops.toList 0 t, listed.getD j false = true → j ≤ i) → ∃ v, a.tmps[t]? = some v ∧ W ρ (cut θ (rc i).hi) (rc i).d v
  own : ∀ n o c L, Mq ops s rc q listed n o c → s.fl ≤ n → θ n = some L → w0.heap.size ≤ L.b ∨ ∃ m o' K, s.fl ≤ m ∧ s.get m = some o' ∧ θ0 m = some K ∧ K.b = L.b
  still : ∀ b, b < w0.heap.size → (∀ n o L, s.fl ≤ n → s.get n = some o → θ0 n = some L → L.b ≠ b) → w.heap[b]? = w0.heap[b]?
  os : w.os = w0.os ∧ w.tape = w0.tape ∧ w.output = w0.output
  hsize : w0.heap.size ≤ w.heap.size

section
variable {Γ : Cx} {ρ : Rh} {P : Program} {call : CallF} {ops : Array Oper} {env : E} {s : St} {G : Nat → Dg} {rc : Nat → Rc} {N : Nat} {θ0 θ θ' : Tz} {w0 w w' : World} {q : Option Nat} {listed : Array Bool} {a : Act} {k : Nat} {o : Oper}

theorem listed_set {i : Nat} (hk : k < listed.size) : (listed.setIfInBounds k true).getD i false = true ↔ i = k ∨ listed.getD i false = true := by
  by_cases h : k = i
  · subst h; simp [hk]
  · rw [getD_set_ne false h]
    constructor
    · exact .inr
    · rintro (h' | h')
      · exact absurd h'.symm h
      · exact h'
theorem ready_op (hk : k ∈ Region.ready .any ops listed) : ∃ o, ops[k]? = some o ∧ ops.toList[k]? = some o ∧ k < ops.size ∧ listed.getD k false = false := by
  obtain ⟨h0, o, ho, _⟩ := mem_ready.1 hk
  exact ⟨o, ho, by simpa using ho, (Array.getElem?_eq_some_iff.1 ho).1, getD_tf h0⟩

theorem DInv.see (D : DInv ρ ops env s rc N θ0 w0 θ q listed a w) (K : Known ops (anc ops ops.size) s G rc k) (hk : k ∈ Region.ready .any ops listed) : EnvOk ρ (cut θ (G k).nx) (seenD ops (anc ops ops.size) (G k).recs env k) a := by
  obtain ⟨o, _, _, _, hun⟩ := ready_op hk
  intro t d h
  have env0 : E.get env t = some d → (∀ i ∈ writers ops.toList 0 t, listed.getD i false = false) → ∃ v, a.tmps[t]? = some v ∧ W ρ (cut θ (G k).nx) d v := fun h1 h2 => by
    obtain ⟨v, h3, h4⟩ := D.slot0 t d h1 h2
    exact ⟨v, h3, W_mono (cut_le θ K.nx) _ _ h4⟩
  have hsort := writers_sorted (t := t) (l := ops.toList) (k := 0)
  unfold seenD at h
  split at h
  · rename_i hw
    exact env0 h fun i hi => by rw [hw] at hi; cases hi
  · rename_i i l hw
    rw [hw] at hsort
    cases hc : allN (anc ops ops.size k) (i :: l) with
    | true =>
      rw [hc] at h
      simp only [_root_.cond_true] at h
      split at h <;> cases h
      rename_i r hr
      rw [K.recs] at hr
      split at hr <;> cases hr
      rename_i hlt
      have hmem := lastN_mem l i
      obtain ⟨v, h3, h4⟩ := D.slot1 t (lastN i l) (by rw [hw]; exact hmem) (anc_of_ready D.closed hk (allN_spec hc _ hmem)) fun j hj _ => lastN_max l i hsort j (by rw [hw] at hj; exact hj)
      exact ⟨v, h3, W_mono (cut_le θ (K.hi _ hlt).2.2.1) _ _ h4⟩
    | false =>
      rw [hc] at h
      simp only [_root_.cond_false] at h
      obtain ⟨h1, h2⟩ := condO h
      refine env0 h2 fun j hj => ?_
      cases hl : listed.getD j false with
      | false => rfl
      | true =>
        rw [hw] at hj
        have := anc_listed D.closed hl (allN_spec h1 j hj)
        rw [hun] at this; cases this

theorem DInv.slots (D : DInv ρ ops env s rc N θ0 w0 θ q listed a w) (hch : chainsOk ops (anc ops ops.size) ops.toList = true) (hNd : ∀ o ∈ ops.toList, ∀ t, o.dst = some t → t < N) (hk : k ∈ Region.ready .any ops listed) (ho : ops.toList[k]? = some o) (hx : θ.ext θ') {v : Value} (hv : W ρ (cut θ' (rc k).hi) (rc k).d v) :
    SzOk N (a.put o.dst v) ∧
    (∀ t d, E.get env t = some d → (∀ i ∈ writers ops.toList 0 t, (listed.setIfInBounds k true).getD i false = false) → ∃ u, (a.put o.dst v).tmps[t]? = some u ∧ W ρ (cut θ' s.nx) d u) ∧
    (∀ t i, i ∈ writers ops.toList 0 t → (listed.setIfInBounds k true).getD i false = true → (∀ j ∈ writers ops.toList 0 t, (listed.setIfInBounds k true).getD j false = true → j ≤ i) → ∃ u, (a.put o.dst v).tmps[t]? = some u ∧ W ρ (cut θ' (rc i).hi) (rc i).d u) := by
  obtain ⟨o', ho1, ho2, hkn, hun⟩ := ready_op hk
  obtain rfl : o' = o := by rw [ho] at ho2; exact (Option.some.inj ho2).symm
  have hks : k < listed.size := by rw [D.size]; exact hkn
  have hom : o' ∈ ops.toList := List.mem_of_getElem? ho
  have same : ∀ t, o'.dst ≠ some t → (a.put o'.dst v).tmps[t]? = a.tmps[t]? := fun t ht => by
    cases hd : o'.dst with
    | none => rfl
    | some d =>
      have hne : d ≠ t := fun e => ht (by rw [hd, e])
      simp [Act.put, Array.getElem?_setIfInBounds_ne hne]
  have kw : ∀ t, o'.dst = some t → k ∈ writers ops.toList 0 t := fun t ht => writers_mem.2 ⟨k, o', ho, by omega, ht⟩
  refine ⟨?_, fun t d h1 h2 => ?_, fun t i hi hl hmax => ?_⟩
  · have h1 := D.tmps.1
    have h2 := D.tmps.2
    refine ⟨?_, ?_⟩
    · cases o'.dst <;> simpa [Act.put] using h1
    · cases o'.dst <;> exact h2
  · have ht : o'.dst ≠ some t := fun ht => by
      have := h2 k (kw t ht)
      rw [(listed_set hks).2 (.inl rfl)] at this; cases this
    obtain ⟨u, h3, h4⟩ := D.slot0 t d h1 fun i hi => by
      have := h2 i hi
      cases hl : listed.getD i false with
      | false => rfl
      | true => rw [(listed_set hks).2 (.inr hl)] at this; cases this
    exact ⟨u, by rw [same t ht]; exact h3, W_mono (cut_mono hx _) _ _ h4⟩
  · by_cases hik : i = k
    · subst hik
      obtain ⟨j, oj, hj, hje, hjd⟩ := writers_mem.1 hi
      obtain rfl : j = i := by omega
      rw [ho] at hj; cases hj
      have htN := hNd _ hom t hjd
      refine ⟨v, ?_, hv⟩
      rw [hjd]
      have := D.tmps.1
      simp [Act.put, this, htN]
    · have hli : listed.getD i false = true := ((listed_set hks).1 hl).resolve_left hik
      have ht : o'.dst ≠ some t := fun ht => by
        have h1 := hmax k (kw t ht) ((listed_set hks).2 (.inl rfl))
        have hch' := chainN_pair (chainsOk_spec hch o' hom t ht)
        have := pair_lt writers_sorted hch' (kw t ht) hi (by omega)
        have := anc_listed D.closed hli this
        rw [hun] at this; cases this
      obtain ⟨u, h3, h4⟩ := D.slot1 t i hi hli fun j hj hlj => hmax j hj ((listed_set hks).2 (.inr hlj))
      exact ⟨u, by rw [same t ht]; exact h3, W_mono (cut_mono hx _) _ _ h4⟩

theorem DInv.still0 (D : DInv ρ ops env s rc N θ0 w0 θ q listed a w) (hch : chainsOk ops (anc ops ops.size) ops.toList = true) (hNd : ∀ o ∈ ops.toList, ∀ t, o.dst = some t → t < N) (hk : k ∈ Region.ready .any ops listed) (ho : ops.toList[k]? = some o) (h0 : (rc k).kind = 0) {v : Value} (hv : W ρ (cut θ (rc k).hi) (rc k).d v) :
    DInv ρ ops env s rc N θ0 w0 θ q (listed.setIfInBounds k true) (a.put o.dst v) w := by
  obtain ⟨o', ho1, ho2, hkn, hun⟩ := ready_op hk
  have hks : k < listed.size := by rw [D.size]; exact hkn
  obtain ⟨s1, s2, s3⟩ := D.slots hch hNd hk ho (Tz.ext_refl θ) hv
  have hloose : ∀ i, loose ops rc q (listed.setIfInBounds k true) i → loose ops rc q listed i := fun i ⟨h1, h2, h3, h4⟩ => by
    refine ⟨h1, ((listed_set hks).1 h2).resolve_left fun e => ?_, h3, h4⟩
    subst e; rw [h0] at h3; cases h3
  have hM : ∀ n o c, Mq ops s rc q (listed.setIfInBounds k true) n o c → Mq ops s rc q listed n o c := fun n o c h => by
    rcases h with h | ⟨i, h1, h2⟩
    · exact .inl h
    · exact .inr ⟨i, hloose i h1, h2⟩
  refine ⟨by simpa using D.size, D.closed.set hk, fun b hb h2 => ?_, D.qok, ⟨fun n o c h => D.ms.ok n o c (hM _ _ _ h), fun n o c o' c' h1 h2 => D.ms.fn n o c o' c' (hM _ _ _ h1) (hM _ _ _ h2), fun n o c m o' c' L K h1 h2 => D.ms.inj n o c m o' c' L K (hM _ _ _ h1) (hM _ _ _ h2)⟩,
    fun i n o h1 h2 => D.disj i n o (hloose i h1) h2, D.low, fun m L h => ?_, D.start, s1, s2, s3, fun n o c L h => D.own n o c L (hM _ _ _ h), D.still, D.os, D.hsize⟩
  · rw [← D.bars b hb h2, listed_set hks]
    constructor
    · rintro (e | h)
      · subst e; rw [h0] at h2; cases h2
      · exact h
    · exact .inr
  · rcases D.free m L h with h1 | ⟨i, h1, h2, h3⟩
    · exact .inl h1
    · exact .inr ⟨i, h1, (listed_set hks).2 (.inr h2), h3⟩
end
end
end Go.Q

namespace Go.Q
noncomputable section
open Go.RowKit
open Go.Z hiding cond_false get

section
variable {Γ : Cx} {ρ : Rh} {P : Program} {call : CallF} {ops : Array Oper} {env : E} {s : St} {G : Nat → Dg} {rc : Nat → Rc} {N : Nat} {θ0 θ θ1 : Tz} {w0 w w' : World} {q q' : Option Nat} {listed : Array Bool} {a : Act} {k : Nat} {o : Oper} {s1 s1' : St}

theorem DInv.unused (D : DInv ρ ops env s rc N θ0 w0 θ q listed a w) (KN : Known ops (anc ops ops.size) s G rc ops.size) (hk : k ∈ Region.ready .any ops listed) : ∀ n, (rc k).lo ≤ n → n < (rc k).hi → θ n = none := by
  obtain ⟨o', ho1, ho2, hkn, hun⟩ := ready_op hk
  intro n h1 h2
  cases hθ : θ n with
  | none => rfl
  | some L =>
    obtain ⟨q1, q2, q3, q4⟩ := KN.hi k hkn
    rcases D.free n L hθ with h | ⟨i, hi, hl, h3, h4⟩
    · omega
    · rcases Nat.lt_trichotomy i k with h | h | h
      · have := KN.apart i k h hkn; omega
      · subst h; rw [hun] at hl; cases hl
      · have := KN.apart k i h hi; omega

theorem DInv.mem (D : DInv ρ ops env s rc N θ0 w0 θ q listed a w) (KN : Known ops (anc ops ops.size) s G rc ops.size) (hch : chainsOk ops (anc ops ops.size) ops.toList = true) (hNd : ∀ o ∈ ops.toList, ∀ t, o.dst = some t → t < N) (hk : k ∈ Region.ready .any ops listed) (ho : ops.toList[k]? = some o)
    (hlo : s1.nx = (rc k).lo) (hhi : s1'.nx = (rc k).hi) (hfl : s.fl ≤ s1.fl) (hsub : ∀ n o, s1.get n = some o → ∃ c, c ≤ s1.nx ∧ Mq ops s rc q listed n o c) (g : Gon ρ (cut θ s1.nx) s1 w θ1 s1' w') {v : Value} (hv : W ρ θ1 (rc k).d v)
    (hM : ∀ n o c, Mq ops s rc q' (listed.setIfInBounds k true) n o c → behind s1 s1' (Mq ops s rc q listed) n o c)
    (hbars : ∀ b, b < ops.size → (rc b).kind = 2 → ((listed.setIfInBounds k true).getD b false = true ↔ leQ b q')) (hqok : ∀ c, q' = some c → c < ops.size ∧ (rc c).kind = 2)
    (hdisj : (∀ n o c, Mq ops s rc q listed n o c → s1.get n = none → s1'.get n = none) → ∀ i n o, loose ops rc q' (listed.setIfInBounds k true) i → (n, o) ∈ (rc i).news → (stQ s rc q').get n = none)
    (hlow : ∀ m, m < s.fl → (stQ s rc q').get m = s.get m) : ∃ θ2, DInv ρ ops env s rc N θ0 w0 θ2 q' (listed.setIfInBounds k true) (a.put o.dst v) w' := by
  obtain ⟨o', ho1, ho2, hkn, hun⟩ := ready_op hk
  have hks : k < listed.size := by rw [D.size]; exact hkn
  obtain ⟨k1, k2, k3, k4⟩ := KN.hi k hkn
  have hfree : ∀ n, s1.nx ≤ n → n < s1'.nx → θ n = none := fun n h1 h2 => D.unused KN hk n (by omega) (by omega)
  obtain ⟨f1, f2, f3, f4⟩ := D.ms.frame hsub hfree g
  generalize hθ2 : mergeT θ θ1 s1.nx s1'.nx = θ2 at f1 f2 f3
  rw [hhi] at f3
  obtain ⟨s1p, s2p, s3p⟩ := D.slots (v := v) hch hNd hk ho f2 (by rw [f3]; exact hv)
  refine ⟨θ2, by simpa using D.size, D.closed.set hk, hbars, hqok, ⟨fun n o c h => f1.ok n o c (hM _ _ _ h), fun n o c o' c' h1 h2 => f1.fn n o c o' c' (hM _ _ _ h1) (hM _ _ _ h2), fun n o c m o' c' L K h1 h2 => f1.inj n o c m o' c' L K (hM _ _ _ h1) (hM _ _ _ h2)⟩,
    hdisj f4, hlow, fun m L h => ?_, fun m hm => ?_, s1p, s2p, s3p, fun n o c L h h1 h2 => ?_, fun b hb hno => ?_, ⟨g.env.1.trans D.os.1, g.env.2.1.trans D.os.2.1, g.env.2.2.trans D.os.2.2⟩, Nat.le_trans D.hsize g.size⟩
  · by_cases hm : s1.nx ≤ m ∧ m < s1'.nx
    · exact .inr ⟨k, hkn, (listed_set hks).2 (.inl rfl), by omega, by omega⟩
    · rw [← hθ2] at h
      unfold mergeT at h
      rw [if_neg hm] at h
      rcases D.free m L h with h1 | ⟨i, h1, h2, h3⟩
      · exact .inl h1
      · exact .inr ⟨i, h1, (listed_set hks).2 (.inr h2), h3⟩
  · rw [← hθ2]
    unfold mergeT
    rw [if_neg (by omega)]
    exact D.start m hm
  · have old : ∀ {n o c L}, Mq ops s rc q listed n o c → s.fl ≤ n → θ2 n = some L → w0.heap.size ≤ L.b ∨ ∃ m o' K, s.fl ≤ m ∧ s.get m = some o' ∧ θ0 m = some K ∧ K.b = L.b := fun {n o c L} hm h1 h2 => by
      obtain ⟨_, L', hL', _⟩ := D.ms.ok n o c hm
      have := f2 n L' hL'
      rw [h2] at this; cases this
      exact D.own n o c _ hm h1 hL'
    rcases hM n o c h with ⟨h3, h4⟩ | ⟨h3, _⟩
    · by_cases hn : n < s1.fl
      · have hg := g.low n hn
        rw [h3] at hg
        obtain ⟨c', _, hm⟩ := hsub n o hg.symm
        exact old hm h1 h2
      · obtain ⟨L', hL', _⟩ := g.sat.res n o h3
        have e1 : θ2 n = some L' := by
          have hlt : n < (rc k).hi := Nat.lt_of_not_le fun hh => by rw [g.sat.fresh n (by omega)] at hL'; cases hL'
          have := congrFun f3 n
          rw [cut_lt hlt] at this
          rw [this]; exact hL'
        rw [h2] at e1; cases e1
        rcases g.own n o L (by omega) h3 hL' with hh | ⟨m, o2, M', q1, q2, q3, q4⟩
        · left; have := D.hsize; omega
        · obtain ⟨c', _, hm⟩ := hsub m o2 q2
          rcases D.own m o2 c' M' hm (by omega) (cut_some q3).2 with hh | ⟨m', o3, K, p1, p2, p3, p4⟩
          · left; omega
          · exact .inr ⟨m', o3, K, p1, p2, p3, p4.trans q4⟩
    · exact old h3 h1 h2
  · have hw := D.hsize
    rw [g.still b (by omega) fun n o L h1 h2 h3 e => ?_]
    · exact D.still b hb hno
    · obtain ⟨c', _, hm⟩ := hsub n o h2
      rcases D.own n o c' L hm (by omega) (cut_some h3).2 with hh | ⟨m', o3, K, p1, p2, p3, p4⟩
      · omega
      · exact hno m' o3 K p1 p2 p3 (p4.trans e)

theorem Trace.news (T : Trace Γ P call ops (anc ops ops.size) env s G rc) {i n : Nat} {ob : Ob} (hi : i < ops.size) (h : (n, ob) ∈ (rc i).news) : (rc i).lo ≤ n ∧ n < (rc i).hi := by
  have ho : ops.toList[i]? = some ops.toList[i] := List.getElem?_eq_getElem (by simpa using hi)
  generalize ops.toList[i] = o at ho
  obtain ⟨g1, t, hst, _, _⟩ := T.step i o ho
  generalize hr : rc i = r at hst h
  cases hst with
  | skip h1 => cases h
  | val d h1 h2 => cases h
  | rd h vs d h1 h2 h3 h4 h5 => cases h
  | bar h d s1 h1 h2 h3 h4 h5 h6 => cases h
  | flt d s1 h1 h2 h3 =>
    obtain ⟨a1, a2, _⟩ := newsOf_mem h
    exact ⟨a1, by show n < s1.nx; omega⟩

theorem stQ_get {h : Tr (Option Ob)} {n nx : Nat} (e : h.get n = (baseQ s rc q).get n) : St.get { s with h := h, nx := nx } n = (stQ s rc q).get n := by
  simp only [St.get, stQ, e]

theorem DInv.found (D : DInv ρ ops env s rc N θ0 w0 θ q listed a w) {fls : List (Nat × List (Nat × Ob))} {h : Tr (Option Ob)} {j nx : Nat} (hh : heapFor (anc ops ops.size) k fls (baseQ s rc q) = some h) (hk : k ∈ Region.ready .any ops listed)
    (hfls : ∀ i news, (i, news) ∈ fls → anc ops ops.size k i = true → i < ops.size ∧ (rc i).kind = 5 ∧ news = (rc i).news ∧ ∀ b, i < b → leQ b q → (rc b).kind = 2 → anc ops ops.size b i = false)
    (hb : bndQ s rc q ≤ j) (hj : ∀ i, anc ops ops.size k i = true → (rc i).kind = 5 → (∃ news, (i, news) ∈ fls) → (rc i).hi ≤ j) :
    ∀ n o, St.get { s with h := h, nx := nx } n = some o → ∃ c, c ≤ j ∧ Mq ops s rc q listed n o c := by
  intro n o hn
  rcases heapFor_get hh n with ⟨i, news, o', h1, h2, h3, h4⟩ | h1
  · obtain ⟨q1, q2, q3, q4⟩ := hfls i news h1 h2
    have : o' = o := by
      simp only [St.get, h4] at hn
      exact Option.some.inj hn
    subst this
    exact ⟨(rc i).hi, hj i h2 q2 ⟨_, h1⟩, .inr ⟨i, ⟨q1, anc_of_ready D.closed hk h2, q2, q4⟩, by rw [← q3]; exact h3, rfl⟩⟩
  · rw [stQ_get h1] at hn
    exact ⟨_, hb, .inl ⟨hn, rfl⟩⟩

theorem DInv.lastQ (D : DInv ρ ops env s rc N θ0 w0 θ q listed a w) (K : Known ops (anc ops ops.size) s G rc k) (hk : k ∈ Region.ready .any ops listed) (hb : (rc k).kind = 2) (hl : lastOk (anc ops ops.size) k (G k).last = true) : q = (G k).last := by
  obtain ⟨o', ho1, ho2, hkn, hun⟩ := ready_op hk
  have hL := K.last
  have hlt : ∀ c, q = some c → c < k := fun c hc => by
    obtain ⟨c1, c2⟩ := D.qok c hc
    rcases Nat.lt_or_ge c k with h | h
    · exact h
    · have := (D.bars k hkn hb).2 (by rw [hc]; exact h)
      rw [hun] at this; cases this
  cases hlast : (G k).last with
  | none =>
    rw [hlast] at hL
    cases hq : q with
    | none => rfl
    | some c => exact absurd (D.qok c hq).2 (hL.1 c (hlt c hq))
  | some b =>
    rw [hlast] at hL hl
    obtain ⟨l1, l2, l3, _⟩ := hL
    have hlb := (D.bars b (by omega) l2).1 (anc_of_ready D.closed hk hl)
    cases hq : q with
    | none => rw [hq] at hlb; exact hlb.elim
    | some c =>
      rw [hq] at hlb
      have h1 := hlt c hq
      have hlb : b ≤ c := hlb
      rcases Nat.lt_or_ge b c with h | h
      · exact absurd (D.qok c hq).2 (l3 c h h1)
      · congr 1; omega

theorem DInv.bar (D : DInv ρ ops env s rc N θ0 w0 θ q listed a w) (hΓ : CxOk Γ ρ) (hC : CallOk ρ P call) (hflnx : s.fl ≤ s.nx) (T : Trace Γ P call ops (anc ops ops.size) env s G rc) (K : Known ops (anc ops ops.size) s G rc k) (KN : Known ops (anc ops ops.size) s G rc ops.size) (hch : chainsOk ops (anc ops ops.size) ops.toList = true) (hNd : ∀ o ∈ ops.toList, ∀ t, o.dst = some t → t < N)
    (hk : k ∈ Region.ready .any ops listed) (ho : ops.toList[k]? = some o) {h : Tr (Option Ob)} {d : DV} (hr : rc k = ⟨d, 2, (G k).nx, s1'.nx, [], s1'.h⟩) (hh : heapFor (anc ops ops.size) k (G k).fls (G k).base = some h) (hl : lastOk (anc ops ops.size) k (G k).last = true)
    (hst : stepD Γ P call o.op (seenD ops (anc ops ops.size) (G k).recs env k) { s with h := h, nx := (G k).nx } = .ok [(d, s1')]) {Q : Exit → Act → World → Prop} :
    o.wp P a w (fun a' w' => ∃ θ' q', DInv ρ ops env s rc N θ0 w0 θ' q' (listed.setIfInBounds k true) a' w') Q := by
  obtain ⟨o', ho1, ho2, hkn, hun⟩ := ready_op hk
  have hks : k < listed.size := by rw [D.size]; exact hkn
  have hb2 : (rc k).kind = 2 := by rw [hr]
  have hq := D.lastQ K hk hb2 hl
  have hbase : (G k).base = baseQ s rc q ∧ bndQ s rc q ≤ (G k).nx ∧ ∀ b, leQ b q → b < k := by
    have hL := K.last
    rw [← hq] at hL
    cases hqq : q with
    | none =>
      rw [hqq] at hL
      exact ⟨hL.2.1, K.nx, fun b hb => hb.elim⟩
    | some c =>
      rw [hqq] at hL
      exact ⟨hL.2.2.2.1, (K.hi c hL.1).2.2.1, fun b hb => Nat.lt_of_le_of_lt hb hL.1⟩
  obtain ⟨hb3, hb4, hb5⟩ := hbase
  rw [hb3] at hh
  have hfls : ∀ i news, (i, news) ∈ (G k).fls → anc ops ops.size k i = true → i < ops.size ∧ (rc i).kind = 5 ∧ news = (rc i).news ∧ ∀ b, i < b → leQ b q → (rc b).kind = 2 → anc ops ops.size b i = false := fun i news h1 _ => by
    obtain ⟨q1, q2, q3, q4⟩ := K.fls i news h1
    exact ⟨by omega, q2, q3, fun b h2 h3 h4 => q4 b h2 (hb5 b h3) h4⟩
  have hsub := D.found (nx := (G k).nx) hh hk hfls hb4 fun i _ _ ⟨news, h1⟩ => (K.hi i (K.fls i news h1).1).2.2.1
  have hsat := D.ms.sat (s := { s with h := h, nx := (G k).nx }) (by show s.fl ≤ (G k).nx; have := K.nx; omega) hsub
  refine stepD_sound hΓ hC hsat (D.see K hk) hst _ _ fun d' s2 θ1 v w' hin g hv => ?_
  simp only [List.mem_singleton, Prod.mk.injEq] at hin
  obtain ⟨rfl, rfl⟩ := hin
  have hs2 : ∀ n, (stQ s rc (some k)).get n = s2.get n := fun n => by
    have : s2.b = s.b := g.bs
    simp only [St.get, stQ, baseQ, hr, this]
  -- loose floats behind it
  have hloose : ∀ i, loose ops rc (some k) (listed.setIfInBounds k true) i → loose ops rc q listed i ∧ (i < k → anc ops ops.size k i = false) := fun i ⟨h1, h2, h3, h4⟩ => by
    refine ⟨⟨h1, ((listed_set hks).1 h2).resolve_left fun e => ?_, h3, fun b h5 h6 h7 => h4 b h5 (Nat.le_of_lt (hb5 b h6)) h7⟩, fun h5 => h4 k h5 (Nat.le_refl k) hb2⟩
    subst e; rw [hb2] at h3; cases h3
  -- they are not in what it found
  have hout : ∀ i n ob, loose ops rc (some k) (listed.setIfInBounds k true) i → (n, ob) ∈ (rc i).news → St.get { s with h := h, nx := (G k).nx } n = none := fun i n ob h1 h2 => by
    obtain ⟨l1, l2⟩ := hloose i h1
    obtain ⟨n1, n2⟩ := T.news l1.1 h2
    rcases heapFor_get hh n with ⟨j, news, o', h3, h4, h5, h6⟩ | h3
    · obtain ⟨q1, q2, q3, _⟩ := K.fls j news h3
      rw [q3] at h5
      obtain ⟨m1, m2⟩ := T.news (by omega) h5
      rcases Nat.lt_trichotomy i j with e | e | e
      · have := KN.apart i j e (by omega); omega
      · subst e; rw [l2 q1] at h4; cases h4
      · have := KN.apart j i e l1.1; omega
    · rw [stQ_get h3]
      exact D.disj i n ob l1 h2
  suffices hx : ∃ θ2, DInv ρ ops env s rc N θ0 w0 θ2 (some k) (listed.setIfInBounds k true) (a.put o.dst v) w' from let ⟨θ2, D2⟩ := hx; ⟨θ2, some k, D2⟩
  refine D.mem (s1 := { s with h := h, nx := (G k).nx }) (s1' := s2) (q' := some k) KN hch hNd hk ho (by rw [hr]) (by rw [hr]) (Nat.le_refl _) hsub g (v := v) (by rw [hr]; exact hv) (fun n ob c hM => ?_) (fun b hbn hb => ?_) (fun c hc => ?_) (fun hgone i n ob h1 h2 => ?_) (fun m hm => ?_)
  · rcases hM with ⟨h1, rfl⟩ | ⟨i, h1, h2, rfl⟩
    · rw [hs2] at h1
      exact .inl ⟨h1, by simp only [bndQ, hr]⟩
    · exact .inr ⟨.inr ⟨i, (hloose i h1).1, h2, rfl⟩, hout i n ob h1 h2⟩
  · rw [listed_set hks]
    constructor
    · rintro (e | h1)
      · subst e; exact Nat.le_refl _
      · exact Nat.le_of_lt (hb5 b ((D.bars b hbn hb).1 h1))
    · intro h1
      have h1 : b ≤ k := h1
      by_cases e : b = k
      · exact .inl e
      · right
        rw [D.bars b hbn hb]
        have hL := K.last
        rw [← hq] at hL
        cases hqq : q with
        | none => rw [hqq] at hL; exact absurd hb (hL.1 b (by omega))
        | some c =>
          rw [hqq] at hL
          rcases Nat.lt_or_ge c b with h2 | h2
          · exact absurd hb (hL.2.2.1 b h2 (by omega))
          · exact h2
  · cases hc; exact ⟨hkn, hb2⟩
  · rw [hs2]
    exact hgone n ob _ (.inr ⟨i, (hloose i h1).1, h2, rfl⟩) (hout i n ob h1 h2)
  · rw [hs2, g.low m hm]
    rcases heapFor_get hh m with ⟨j, news, o', h3, h4, h5, h6⟩ | h3
    · obtain ⟨q1, q2, q3, _⟩ := K.fls j news h3
      rw [q3] at h5
      obtain ⟨m1, m2⟩ := T.news (by omega) h5
      have := (K.hi j q1).2.1
      omega
    · rw [stQ_get h3]; exact D.low m hm

theorem DInv.flt (D : DInv ρ ops env s rc N θ0 w0 θ q listed a w) (hΓ : CxOk Γ ρ) (hC : CallOk ρ P call) (hflnx : s.fl ≤ s.nx) (K : Known ops (anc ops ops.size) s G rc k) (KN : Known ops (anc ops ops.size) s G rc ops.size) (hch : chainsOk ops (anc ops ops.size) ops.toList = true) (hNd : ∀ o ∈ ops.toList, ∀ t, o.dst = some t → t < N)
    (hk : k ∈ Region.ready .any ops listed) (ho : ops.toList[k]? = some o) {d : DV} (hr : rc k = ⟨d, 5, (G k).nx, s1'.nx, newsOf s1' (G k).nx (s1'.nx - (G k).nx), .nil⟩)
    (hst : stepD Γ P call o.op (seenD ops (anc ops ops.size) (G k).recs env k) (emptyS (G k).nx) = .ok [(d, s1')]) {Q : Exit → Act → World → Prop} :
    o.wp P a w (fun a' w' => ∃ θ' q', DInv ρ ops env s rc N θ0 w0 θ' q' (listed.setIfInBounds k true) a' w') Q := by
  obtain ⟨o', ho1, ho2, hkn, hun⟩ := ready_op hk
  have hks : k < listed.size := by rw [D.size]; exact hkn
  have hkind : (rc k).kind = 5 := by rw [hr]
  have hsub : ∀ n o, (emptyS (G k).nx).get n = some o → ∃ c, c ≤ (emptyS (G k).nx).nx ∧ Mq ops s rc q listed n o c := fun n o h => by
    simp [emptyS, St.get, Tr.get_nil] at h
  have hsat := D.ms.sat (s := emptyS (G k).nx) (Nat.le_refl _) hsub
  refine stepD_sound hΓ hC hsat (D.see K hk) hst _ _ fun d' s2 θ1 v w' hin g hv => ?_
  simp only [List.mem_singleton, Prod.mk.injEq] at hin
  obtain ⟨rfl, rfl⟩ := hin
  have hloose : ∀ i, loose ops rc q (listed.setIfInBounds k true) i → i ≠ k → loose ops rc q listed i := fun i ⟨h1, h2, h3, h4⟩ hne => ⟨h1, ((listed_set hks).1 h2).resolve_left hne, h3, h4⟩
  suffices hx : ∃ θ2, DInv ρ ops env s rc N θ0 w0 θ2 q (listed.setIfInBounds k true) (a.put o.dst v) w' from let ⟨θ2, D2⟩ := hx; ⟨θ2, q, D2⟩
  refine D.mem (s1 := emptyS (G k).nx) (s1' := s2) (q' := q) KN hch hNd hk ho (by rw [hr]; rfl) (by rw [hr]) (by show s.fl ≤ (G k).nx; have := K.nx; omega) hsub g (v := v) (by rw [hr]; exact hv) (fun n ob c hM => ?_) (fun b hbn hb => ?_) D.qok (fun _ i n ob h1 h2 => ?_) D.low
  · rcases hM with h1 | ⟨i, h1, h2, rfl⟩
    · exact .inr ⟨.inl h1, by simp [emptyS, St.get, Tr.get_nil]⟩
    · by_cases hik : i = k
      · subst hik
        rw [hr] at h2
        obtain ⟨_, _, h3⟩ := newsOf_mem h2
        exact .inl ⟨h3, by rw [hr]⟩
      · exact .inr ⟨.inr ⟨i, hloose i h1 hik, h2, rfl⟩, by simp [emptyS, St.get, Tr.get_nil]⟩
  · rw [listed_set hks, ← D.bars b hbn hb]
    constructor
    · rintro (e | h1)
      · subst e; rw [hkind] at hb; cases hb
      · exact h1
    · exact .inr
  · by_cases hik : i = k
    · subst hik
      rw [hr] at h2
      obtain ⟨h3, h4, _⟩ := newsOf_mem h2
      cases hg : (stQ s rc q).get n with
      | none => rfl
      | some o2 =>
        obtain ⟨_, L, hL, _⟩ := D.ms.ok n o2 _ (.inl ⟨hg, rfl⟩)
        have hle := (KN.hi i hkn).1
        rw [hr] at hle
        have hle : (G i).nx ≤ s2.nx := hle
        have := D.unused KN hk n (by rw [hr]; exact h3) (by rw [hr]; show n < s2.nx; omega)
        rw [hL] at this; cases this
    · exact D.disj i n ob (hloose i h1 hik) h2
end
end
end Go.Q

namespace Go.Q
noncomputable section
open Go.RowKit
open Go.Z hiding cond_false get

section
variable {Γ : Cx} {ρ : Rh} {P : Program} {call : CallF} {ops : Array Oper} {env : E} {s : St} {G : Nat → Dg} {rc : Nat → Rc} {N : Nat} {θ0 θ θ1 : Tz} {w0 w w' : World} {q q' : Option Nat} {listed : Array Bool} {a : Act} {k : Nat} {o : Oper}

theorem Trace.rd_up (T : Trace Γ P call ops (anc ops ops.size) env s G rc) {x : Nat × Op × List DV × DV} {j : Nat} : ∀ {m : Nat}, j ≤ m → m ≤ ops.size → x ∈ (G j).rd → x ∈ (G m).rd
  | 0, h1, _, h => by
    have : j = 0 := by omega
    subst this; exact h
  | m + 1, h1, h2, h => by
    by_cases e : j = m + 1
    · subst e; exact h
    · have hm := T.rd_up (m := m) (by omega) (by omega) h
      have ho : ops.toList[m]? = some ops.toList[m] := List.getElem?_eq_getElem (by simp; omega)
      generalize ops.toList[m] = o at ho
      obtain ⟨g1, t, hst, _, hG⟩ := T.step m o ho
      rw [hG]
      generalize hr : rc m = r at hst
      cases hst <;> first | exact hm | exact List.Mem.tail _ hm

def FlsOk (ops : Array Oper) (rc : Nat → Rc) (q : Option Nat) (k : Nat) (fls : List (Nat × List (Nat × Ob))) : Prop :=
  ∀ i news, (i, news) ∈ fls → anc ops ops.size k i = true → i < ops.size ∧ (rc i).kind = 5 ∧ news = (rc i).news ∧ ∀ b, i < b → leQ b q → (rc b).kind = 2 → anc ops ops.size b i = false

theorem DInv.walk (D : DInv ρ ops env s rc N θ0 w0 θ q listed a w) (Kn : ∀ k, k ≤ ops.size → Known ops (anc ops ops.size) s G rc k) (hk : k ∈ Region.ready .any ops listed) {op : Op} {vs : List DV} {d : DV} : ∀ (j : Nat), j ≤ k →
    (∃ h, heapFor (anc ops ops.size) k (G j).fls (G j).base = some h ∧ quietD Γ P op vs { s with h := h } = some (.ok d)) → keepOld Γ P (anc ops ops.size) k op vs d s (G j).old = true → (∀ c, q = some c → c < j) →
    ∃ h fls, heapFor (anc ops ops.size) k fls (baseQ s rc q) = some h ∧ quietD Γ P op vs { s with h := h } = some (.ok d) ∧ FlsOk ops rc q k fls := by
  obtain ⟨o', ho1, ho2, hkn, hun⟩ := ready_op hk
  intro j
  induction j using Nat.strongRecOn with
  | _ j ih =>
    intro hjk ⟨h, hh, hq⟩ hold hc
    have K := Kn j (by omega)
    have hL := K.last
    -- the layer is reached
    have here : q = (G j).last → (G j).base = baseQ s rc q → ∃ h fls, heapFor (anc ops ops.size) k fls (baseQ s rc q) = some h ∧ quietD Γ P op vs { s with h := h } = some (.ok d) ∧ FlsOk ops rc q k fls := fun e1 e2 => by
      refine ⟨h, (G j).fls, by rw [← e2]; exact hh, hq, fun i news h1 _ => ?_⟩
      obtain ⟨q1, q2, q3, q4⟩ := K.fls i news h1
      refine ⟨by omega, q2, q3, fun b h2 h3 h4 => q4 b h2 ?_ h4⟩
      cases hqq : q with
      | none => rw [hqq] at h3; exact h3.elim
      | some c =>
        rw [hqq] at h3
        exact Nat.lt_of_le_of_lt h3 (hc c hqq)
    cases hlast : (G j).last with
    | none =>
      rw [hlast] at hL
      have : q = none := by
        cases hqq : q with
        | none => rfl
        | some c => exact absurd (D.qok c hqq).2 (hL.1 c (hc c hqq))
      exact here (by rw [this, hlast]) (by rw [this]; exact hL.2.1)
    | some b =>
      rw [hlast] at hL
      obtain ⟨l1, l2, l3, l4, l5⟩ := hL
      by_cases hlb : listed.getD b false = true
      · have h1 := (D.bars b (by omega) l2).1 hlb
        have : q = some b := by
          cases hqq : q with
          | none => rw [hqq] at h1; exact h1.elim
          | some c =>
            rw [hqq] at h1
            have h1 : b ≤ c := h1
            have h2 := hc c hqq
            rcases Nat.lt_or_ge b c with h3 | h3
            · exact absurd (D.qok c hqq).2 (l3 c h3 h2)
            · congr 1; omega
        exact here (by rw [this, hlast]) (by rw [this]; exact l4)
      · rw [l5] at hold
        simp only [keepOld, Bool.or_eq_true, Bool.and_eq_true] at hold
        have hnb : ¬ (anc ops ops.size k b = true) := fun h => hlb (anc_of_ready D.closed hk h)
        obtain ⟨h1, h2⟩ := hold.resolve_left hnb
        obtain ⟨h3, h4, h5⟩ := readsIn_ok h1
        refine ih b l1 (by omega) ⟨h3, h4, h5⟩ h2 fun c hcc => ?_
        rcases Nat.lt_or_ge c b with h6 | h6
        · exact h6
        · exact absurd ((D.bars b (by omega) l2).2 (by rw [hcc]; exact h6)) hlb

theorem DInv.satR (D : DInv ρ ops env s rc N θ0 w0 θ q listed a w) (KN : Known ops (anc ops ops.size) s G rc ops.size) (hk : k ∈ Region.ready .any ops listed) {fls : List (Nat × List (Nat × Ob))} {h : Tr (Option Ob)} (hh : heapFor (anc ops ops.size) k fls (baseQ s rc q) = some h) (hf : FlsOk ops rc q k fls) : SatR ρ θ { s with h := h } w := by
  have hb : bndQ s rc q ≤ (G ops.size).nx := by
    cases hq : q with
    | none => exact KN.nx
    | some c => exact (KN.hi c (D.qok c hq).1).2.2.1
  have hsub := D.found (j := (G ops.size).nx) (nx := s.nx) hh hk hf hb fun i h1 _ ⟨news, h3⟩ => (KN.hi i (hf i news h3 h1).1).2.2.1
  refine ⟨fun n ob hn => ?_⟩
  obtain ⟨c, _, hM⟩ := hsub n ob hn
  obtain ⟨_, L, hL, ho⟩ := D.ms.ok n ob c hM
  exact ⟨L, hL, Ob.holds_mono (cut_ext θ c) rfl ho⟩

theorem DInv.read (D : DInv ρ ops env s rc N θ0 w0 θ q listed a w) (hΓ : CxOk Γ ρ) (T : Trace Γ P call ops (anc ops ops.size) env s G rc) (Kn : ∀ k, k ≤ ops.size → Known ops (anc ops ops.size) s G rc k)
    (hk : k ∈ Region.ready .any ops listed) {h : Tr (Option Ob)} {vs : List DV} {d : DV} (h0 : (rc k).kind = 0) (hh : heapFor (anc ops ops.size) k (G k).fls (G k).base = some h) (hr : readQ Γ P o.op (seenD ops (anc ops ops.size) (G k).recs env k) { s with h := h } = some (vs, .ok d))
    (hbel : belowD (G k).nx d = true) (hold : keepOld Γ P (anc ops ops.size) k o.op vs d s (G k).old = true) (hmem : (k, o.op, vs, d) ∈ (G (k + 1)).rd) :
    ∃ z, W ρ (cut θ (G k).nx) d z ∧ (execOp a.eval o).run P w = .ok (.value z) w := by
  obtain ⟨o', ho1, ho2, hkn, hun⟩ := ready_op hk
  have KN := Kn ops.size (Nat.le_refl _)
  obtain ⟨e1, e2⟩ := readQ_ok hr
  have hv := WL_mono (cut_ext θ (G k).nx) _ _ (resF_sound (D.see (Kn k (by omega)) hk) e1)
  have fin : ∀ {h fls}, heapFor (anc ops ops.size) k fls (baseQ s rc q) = some h → quietD Γ P o.op vs { s with h := h } = some (.ok d) → FlsOk ops rc q k fls → ∃ z, W ρ (cut θ (G k).nx) d z ∧ (execOp a.eval o).run P w = .ok (.value z) w := fun h1 h2 h3 => by
    obtain ⟨z, z1, z2⟩ := quietD_sound hΓ (D.satR KN hk h1 h3) hv h2
    exact ⟨z, W_cut d z hbel z1, z2⟩
  by_cases hlt : ∀ c, q = some c → c < k
  · obtain ⟨h1, fls, g1, g2, g3⟩ := D.walk Kn hk k (Nat.le_refl _) ⟨h, hh, e2⟩ hold hlt
    exact fin g1 g2 g3
  · obtain ⟨c, hc, hck⟩ : ∃ c, q = some c ∧ ¬ c < k := by
      cases hq : q with
      | none => exact absurd (fun c hc => by rw [hq] at hc; cases hc) hlt
      | some c => exact ⟨c, rfl, fun h => hlt fun c' hc' => by rw [hq] at hc'; cases hc'; exact h⟩
    obtain ⟨c1, c2⟩ := D.qok c hc
    have hne : c ≠ k := fun e => by subst e; rw [h0] at c2; cases c2
    have hoc : ops.toList[c]? = some ops.toList[c] := List.getElem?_eq_getElem (by simpa using c1)
    generalize ops.toList[c] = oc at hoc
    obtain ⟨g1, t, hst, _, _⟩ := T.step c oc hoc
    have hm2 := T.rd_up (m := c) (by omega) (by omega) hmem
    have hcl : listed.getD c false = true := (D.bars c c1 c2).2 (by rw [hc]; exact Nat.le_refl _)
    have Kc := Kn c (by omega)
    generalize hrc : rc c = r at hst
    cases hst with
    | skip h1 => rw [hrc] at c2; cases c2
    | val d h1 h2 => rw [hrc] at c2; cases c2
    | rd h vs d h1 h2 h3 h4 h5 => rw [hrc] at c2; cases c2
    | flt d s1 h1 h2 h3 => rw [hrc] at c2; cases c2
    | bar h' d' s1 h1 h2 h3 h4 h5 h6 =>
      rcases keepRd_mem h6 hm2 with h7 | h7
      · have := anc_listed D.closed hcl h7
        rw [hun] at this; cases this
      · obtain ⟨h8, h9, h10⟩ := readsIn_ok h7
        refine fin (fls := restF (anc ops ops.size) c (G c).fls) ?_ h10 fun i news hi _ => ?_
        · rw [hc]
          show heapFor _ _ _ (rc c).h = _
          rw [hrc]; exact h9
        · obtain ⟨p1, p2⟩ := restF_mem hi
          obtain ⟨q1, q2, q3, q4⟩ := Kc.fls i news p1
          refine ⟨by omega, q2, q3, fun b hb1 hb2 hb3 => ?_⟩
          rw [hc] at hb2
          have hb2 : b ≤ c := hb2
          by_cases e : b = c
          · subst e; exact p2
          · exact q4 b hb1 (by omega) hb3

theorem DInv.step (D : DInv ρ ops env s rc N θ0 w0 θ q listed a w) (hΓ : CxOk Γ ρ) (hC : CallOk ρ P call) (hflnx : s.fl ≤ s.nx) (T : Trace Γ P call ops (anc ops ops.size) env s G rc) (Kn : ∀ k, k ≤ ops.size → Known ops (anc ops ops.size) s G rc k) (hch : chainsOk ops (anc ops ops.size) ops.toList = true) (hNd : ∀ o ∈ ops.toList, ∀ t, o.dst = some t → t < N)
    (hk : k ∈ Region.ready .any ops listed) {Q : Exit → Act → World → Prop} :
    wpOp P ops Q k (fun a' w' => ∃ θ' q', DInv ρ ops env s rc N θ0 w0 θ' q' (listed.setIfInBounds k true) a' w') a w := by
  obtain ⟨o, ho1, ho, hkn, hun⟩ := ready_op hk
  have K := Kn k (by omega)
  have KN := Kn ops.size (Nat.le_refl _)
  obtain ⟨g1, t, hst, _, hG⟩ := T.step k o ho
  have hsee := D.see K hk
  unfold wpOp
  simp only [ho1]
  generalize hr : rc k = r at hst
  cases hst with
  | skip h1 =>
    rw [guardD_sound hsee h1]
    simp only [Bool.false_eq_true, if_false]
    exact ⟨θ, q, D.still0 hch hNd hk ho (by rw [hr]) (by rw [hr]; simp only [noD, W])⟩
  | val d h1 h2 =>
    rw [guardD_sound hsee h1, if_pos rfl]
    left
    have hval : ∃ z, W ρ (cut θ (G k).nx) d z ∧ (execOp a.eval o).run P w = .ok (.value z) w := by
      unfold pureQ at h2
      split at h2
      · rename_i c x y hop
        unfold pickD at h2
        split at h2 <;> try exact (fail_ok h2).elim
        rename_i t ht
        split at h2 <;> cases h2
        rename_i hd
        have hc := getF_sound hsee ht
        simp only [W] at hc
        have hv := getF_sound hsee hd
        refine ⟨_, ?_, run_pick a.eval o hop hc w⟩
        cases t <;> exact hv
      · split at h2
        · rename_i vs r' hq
          subst h2
          obtain ⟨e1, e2⟩ := readQ_ok hq
          exact quietD_sound hΓ (s := emptyS (G k).nx) ⟨fun n ob hn => by simp [emptyS, St.get, Tr.get_nil] at hn⟩ (resF_sound hsee e1) e2
        · exact (fail_ok h2).elim
    obtain ⟨z, z1, z2⟩ := hval
    unfold Oper.wp
    rw [z2]
    exact ⟨θ, q, D.still0 hch hNd hk ho (by rw [hr]) (by rw [hr]; exact z1)⟩
  | rd h vs d h1 h2 h3 h4 h5 =>
    rw [guardD_sound hsee h1, if_pos rfl]
    left
    obtain ⟨z, z1, z2⟩ := D.read hΓ T Kn hk (by rw [hr]) h2 h3 h4 h5 (by rw [hG]; exact .head _)
    unfold Oper.wp
    rw [z2]
    exact ⟨θ, q, D.still0 hch hNd hk ho (by rw [hr]) (by rw [hr]; exact z1)⟩
  | bar h d s1 h1 h2 h3 h4 h5 h6 =>
    rw [guardD_sound hsee h1, if_pos rfl]
    left
    exact D.bar hΓ hC hflnx T K KN hch hNd hk ho hr h2 h3 h4
  | flt d s1 h1 h2 h3 =>
    rw [guardD_sound hsee h1, if_pos rfl]
    left
    exact D.flt hΓ hC hflnx K KN hch hNd hk ho hr h2

def unl (ops : Array Oper) (listed : Array Bool) : Nat := (List.range ops.size).countP fun i => !listed.getD i false
theorem countP_less {p p' : Nat → Bool} (hp : ∀ i, p' i = true → p i = true) {k : Nat} (h1 : p k = true) (h2 : p' k = false) : ∀ {l : List Nat}, k ∈ l → l.countP p' < l.countP p
  | x :: l, h => by
    have hle : l.countP p' ≤ l.countP p := List.countP_mono_left fun i _ hi => hp i hi
    rw [List.countP_cons, List.countP_cons]
    rcases List.mem_cons.1 h with rfl | h
    · simp [h1, h2]; omega
    · have := countP_less hp h1 h2 h
      by_cases hx : p' x = true
      · simp [hx, hp x hx]; omega
      · simp [hx]; split <;> omega
theorem topo_spec : ∀ {l : List Oper} {j : Nat}, topoOk ops l j = true → ∀ i, i < l.length → ∀ x ∈ predsO ops (j + i), x < j + i
  | [], j, _, i, hi => by simp at hi
  | o :: l, j, h, i, hi => by
    simp only [topoOk, Bool.and_eq_true] at h
    cases i with
    | zero => intro x hx; exact nblt (allN_spec h.1 x hx)
    | succ i =>
      have := topo_spec h.2 i (by simpa using hi)
      rw [show j + (i + 1) = j + 1 + i by omega]
      exact this
theorem all_listed (hsz : listed.size = ops.size) (htopo : topoOk ops ops.toList 0 = true) (hr : Region.ready .any ops listed = []) : ∀ i, i < ops.size → listed.getD i false = true := by
  intro i
  induction i using Nat.strongRecOn with
  | _ i ih =>
    intro hi
    cases hl : listed.getD i false with
    | true => rfl
    | false =>
      exfalso
      have hoi : ops[i]? = some ops[i] := Array.getElem?_eq_getElem hi
      have : i ∈ Region.ready .any ops listed := by
        refine mem_ready.2 ⟨?_, _, hoi, fun e he hb => ?_⟩
        · simp [hsz, hi] at hl ⊢; exact hl
        · have hx : e.on ∈ predsO ops i := by
            unfold predsO
            rw [hoi]
            exact List.mem_map.2 ⟨e, List.mem_filter.2 ⟨by simpa using he, hb⟩, rfl⟩
          have := topo_spec htopo i (by simpa using hi) e.on (by rw [Nat.zero_add]; exact hx)
          rw [Nat.zero_add] at this
          exact ih e.on this (by omega)
      rw [hr] at this; cases this

theorem draw_any (hΓ : CxOk Γ ρ) (hC : CallOk ρ P call) (hflnx : s.fl ≤ s.nx) (T : Trace Γ P call ops (anc ops ops.size) env s G rc) (Kn : ∀ k, k ≤ ops.size → Known ops (anc ops ops.size) s G rc k) (hch : chainsOk ops (anc ops ops.size) ops.toList = true) (htopo : topoOk ops ops.toList 0 = true) (hNd : ∀ o ∈ ops.toList, ∀ t, o.dst = some t → t < N)
    {Q : Exit → Act → World → Prop} (hfin : ∀ θ q listed a w, DInv ρ ops env s rc N θ0 w0 θ q listed a w → (∀ i, i < ops.size → listed.getD i false = true) → Q .normal a w) :
    ∀ (f : Nat) {θ : Tz} {q : Option Nat} {listed : Array Bool} {a : Act} {w : World}, DInv ρ ops env s rc N θ0 w0 θ q listed a w → unl ops listed ≤ f → wpAny P .any ops Q f listed a w
  | 0, θ, q, listed, a, w, D, hf => by
    have hall : ∀ i, i < ops.size → listed.getD i false = true := fun i hi => by
      cases hl : listed.getD i false with
      | true => rfl
      | false =>
        have h0 : unl ops listed = 0 := by omega
        unfold unl at h0
        rw [List.countP_eq_zero] at h0
        have := h0 i (List.mem_range.2 hi)
        rw [hl] at this
        exact absurd rfl this
    refine ⟨?_, hfin θ q listed a w D hall⟩
    cases hr : Region.ready .any ops listed with
    | nil => rfl
    | cons k l =>
      obtain ⟨_, _, _, h1, h2⟩ := ready_op (k := k) (ops := ops) (listed := listed) (by rw [hr]; exact .head _)
      rw [hall k h1] at h2; cases h2
  | f + 1, θ, q, listed, a, w, D, hf => by
    refine ⟨fun hr => hfin θ q listed a w D (all_listed D.size htopo hr), fun k hk => ?_⟩
    obtain ⟨_, _, _, h1, h2⟩ := ready_op hk
    refine wpOp_mono (fun a' w' hh => ?_) (D.step hΓ hC hflnx T Kn hch hNd hk)
    obtain ⟨θ', q', D'⟩ := hh
    refine draw_any hΓ hC hflnx T Kn hch htopo hNd hfin f D' ?_
    have hks : k < listed.size := by rw [D.size]; exact h1
    have : unl ops (listed.setIfInBounds k true) < unl ops listed := by
      refine countP_less (k := k) (fun i hi => ?_) (by rw [h2]; rfl) ?_ (List.mem_range.2 h1)
      · cases hl : listed.getD i false with
        | false => rfl
        | true => rw [(listed_set hks).2 (.inr hl)] at hi; cases hi
      · rw [(listed_set hks).2 (.inl rfl)]; rfl
    omega
end
end
end Go.Q

namespace Go.Q
noncomputable section
open Go.RowKit
open Go.Z hiding cond_false get

section
variable {Γ : Cx} {ρ : Rh} {P : Program} {call : CallF} {ops : Array Oper} {env : E} {s : St} {N : Nat} {θ : Tz} {w : World} {a : Act}

theorem cut_self (hs : Sat ρ θ s w) : cut θ s.nx = θ := by
  funext n
  unfold cut
  by_cases h : n < s.nx
  · rw [if_pos h]
  · rw [if_neg h, hs.fresh n (by omega)]

theorem outE_spec {recs : Tr Rc} {t : Nat} : ∀ {l : List Oper} {k : Nat} {env env' : E}, outE N recs l k env = .ok env' →
    (∀ o ∈ l, ∀ t, o.dst = some t → t < N) ∧ ∀ d, E.get env' t = some d → (writers l k t = [] ∧ E.get env t = some d) ∨ ∃ i, i ∈ writers l k t ∧ (∀ j ∈ writers l k t, j ≤ i) ∧ ∃ r, recs.get i = some r ∧ d = r.d
  | [], k, env, env', h => by
    cases h
    exact ⟨fun o ho => (by cases ho), fun d hd => .inl ⟨rfl, hd⟩⟩
  | o :: l, k, env, env', h => by
    unfold outE at h
    split at h <;> try (cases h; done)
    rename_i r hr
    split at h <;> try (cases h; done)
    rename_i env1 h1
    obtain ⟨q1, q2⟩ := outE_spec (t := t) h
    have hlt : ∀ t, o.dst = some t → t < N := fun t ht => by
      unfold putE at h1
      rw [ht] at h1
      simp only at h1
      cases hb : Nat.blt t N with
      | true => exact nblt hb
      | false => rw [hb] at h1; cases h1
    refine ⟨fun o' ho' => ?_, fun d hd => ?_⟩
    · rcases List.mem_cons.1 ho' with rfl | ho'
      · exact hlt
      · exact q1 o' ho'
    · rw [writers_cons]
      rcases q2 d hd with ⟨h2, h3⟩ | ⟨i, h2, h3, h4⟩
      · unfold putE at h1
        cases hdst : o.dst with
        | none =>
          rw [hdst] at h1
          cases h1
          exact .inl ⟨h2, h3⟩
        | some t' =>
          rw [hdst] at h1
          simp only at h1 ⊢
          rw [show Nat.blt t' N = true from by have := hlt t' hdst; simpa using this] at h1
          cases h1
          rw [E_get_cons] at h3
          by_cases htt : t' = t
          · subst htt
            rw [if_pos rfl] at h3; cases h3
            rw [h2]
            simp only [Nat.beq_refl, _root_.cond_true]
            exact .inr ⟨k, .head _, fun j hj => by simp at hj; omega, r, hr, rfl⟩
          · rw [if_neg htt] at h3
            have hb : Nat.beq t' t = false := by
              cases hb : Nat.beq t' t with
              | false => rfl
              | true => exact absurd (nbeq hb) htt
            rw [hb]
            exact .inl ⟨h2, h3⟩
      · refine .inr ?_
        cases hdst : o.dst with
        | none => exact ⟨i, h2, h3, h4⟩
        | some t' =>
          simp only
          obtain ⟨j, oj, _, hje, _⟩ := writers_mem.1 h2
          cases Nat.beq t' t with
          | false => exact ⟨i, h2, h3, h4⟩
          | true =>
            refine ⟨i, .tail _ h2, fun m hm => ?_, h4⟩
            rcases List.mem_cons.1 hm with rfl | hm
            · omega
            · exact h3 m hm

theorem outE_kept {recs : Tr Rc} : ∀ {l : List Oper} {k : Nat} {env env' : E}, outE N recs l k env = .ok env' → Kept l env env'
  | [], k, env, env', h => by cases h; exact Kept.refl _ _
  | o :: l, k, env, env', h => by
    unfold outE at h
    split at h <;> try (cases h; done)
    rename_i r hr
    split at h <;> try (cases h; done)
    rename_i env1 h1
    intro t ht
    rw [outE_kept h t fun o' ho' => ht o' (.tail _ ho')]
    have := ht o (.head _)
    unfold putE at h1
    cases hdst : o.dst with
    | none => rw [hdst] at h1; cases h1; rfl
    | some t' =>
      rw [hdst] at h1
      simp only at h1
      cases hb : Nat.blt t' N with
      | false => rw [hb] at h1; cases h1
      | true =>
        rw [hb] at h1; cases h1
        rw [E_get_cons, if_neg fun e => this (by rw [hdst, e])]

theorem drawD_sound (hP : P.follows .mixedOrders = true) (hΓ : CxOk Γ ρ) (hC : CallOk ρ P call) {id : Nat} {l : List ES} (hs0 : Sat ρ θ s w) (he : EnvOk ρ θ (E.get env) a) (hN : SzOk N a) (h : drawD Γ P call N id ops env s = .ok l) {Q : Exit → Act → World → Prop}
    (hfin : ∀ env' s' θ' a' w', (env', s') ∈ l → Gon ρ θ s w θ' s' w' → EnvOk ρ θ' (E.get env') a' → SzOk N a' → Kept ops.toList env env' → Q .normal a' w') : (Code.region id ops true).wp P Q a w := by
  unfold drawD at h
  simp only at h
  obtain ⟨hc, h'⟩ := cond_fail h
  clear h
  simp only [Bool.and_eq_true] at hc
  obtain ⟨htopo, hch⟩ := hc
  split at h' <;> try (cases h'; done)
  rename_i g hg
  split at h' <;> try (cases h'; done)
  rename_i env' henv
  split at h' <;> cases h'
  rename_i hp hput
  -- what is reckoned
  obtain ⟨G, rc, e1, e2, e3⟩ := dagD_trace _ _ _ _ hg
  have T : Trace Γ P call ops (anc ops ops.size) env s G rc := ⟨e1, fun k o ho => by
    obtain ⟨g1, t, b1, b2, b3⟩ := e3 k o ho
    rw [Nat.zero_add] at b1 b2 b3
    exact ⟨g1, t, b1, b2, b3⟩⟩
  have hlen : ops.toList.length = ops.size := by simp
  have Kn : ∀ k, k ≤ ops.size → Known ops (anc ops ops.size) s G rc k := fun k hk => T.known k (by rw [hlen]; exact hk)
  have KN := Kn ops.size (Nat.le_refl _)
  rw [Nat.zero_add, hlen] at e2
  have hNd := (outE_spec (t := 0) henv).1
  refine wp_region_any hP ?_
  -- the world of the draw
  generalize hw1 : ({ w with drawn := w.drawn + 1 } : World) = w1
  have hb : Below w.heap.size w w1 := by rw [← hw1]; exact ⟨rfl, rfl, rfl, Nat.le_refl _, fun _ _ => rfl⟩
  have g0 := hs0.below hb
  have hs := g0.sat
  have hcut := cut_self hs
  -- the beginning
  have D : DInv ρ ops env s rc N θ w1 θ none (Array.replicate ops.size false) a w1 := by
    have hun : ∀ i, (Array.replicate ops.size false).getD i false = false := fun i => by
      rw [Array.getD_eq_getD_getElem?, Array.getElem?_replicate]
      split <;> rfl
    have hst : ∀ n, (stQ s rc none).get n = s.get n := fun n => rfl
    have nol : ∀ i, ¬ loose ops rc none (Array.replicate ops.size false) i := fun i h => by
      have := h.2.1
      rw [hun] at this; cases this
    have hM : ∀ {n o c}, Mq ops s rc none (Array.replicate ops.size false) n o c → s.get n = some o ∧ c = s.nx := fun h => by
      rcases h with h | ⟨i, h1, _⟩
      · exact h
      · exact absurd h1 (nol i)
    refine ⟨by simp, fun j oj hj hl => (by rw [hun] at hl; cases hl), fun b _ _ => (by rw [hun]; exact ⟨fun h => (by cases h), fun h => h.elim⟩), fun c hc => (by cases hc), ⟨fun n o c h => ?_, fun n o c o' c' h1 h2 => ?_, fun n o c m o' c' L K h1 h2 h3 h4 h5 => ?_⟩,
      fun i n o h1 => absurd h1 (nol i), fun m _ => hst m, fun m L hm => .inl (Nat.lt_of_not_le fun hh => (by rw [hs.fresh m hh] at hm; cases hm)), fun m _ => rfl, hN, fun t d hd _ => ?_, fun t i _ hl => (by rw [hun] at hl; cases hl),
      fun n o c L h h1 h2 => .inr ⟨n, o, L, h1, (hM h).1, h2, rfl⟩, fun b _ _ => rfl, ⟨rfl, rfl, rfl⟩, Nat.le_refl _⟩
    · obtain ⟨h1, rfl⟩ := hM h
      obtain ⟨L, h2, h3⟩ := hs.res n o h1
      exact ⟨Nat.lt_of_not_le fun hh => (by rw [hs.fresh n hh] at h2; cases h2), L, h2, by rw [hcut]; exact h3⟩
    · obtain ⟨a1, rfl⟩ := hM h1
      obtain ⟨a2, rfl⟩ := hM h2
      rw [a1] at a2; cases a2
      exact ⟨rfl, rfl⟩
    · exact hs.inj n m o o' L K (hM h1).1 (hM h2).1 h3 h4 h5
    · obtain ⟨v, h1, h2⟩ := he t d hd
      exact ⟨v, h1, by rw [hcut]; exact h2⟩
  refine draw_any hΓ hC hs.fln T Kn hch htopo hNd ?_ ops.size D (by
    unfold unl
    exact Nat.le_trans List.countP_le_length (by simp))
  -- the end
  intro θ2 q listed a2 w2 D hall
  have hgb : ∀ b, (rc b).kind = 2 → b < ops.size → leQ b q := fun b h1 h2 => (D.bars b h2 h1).1 (hall b h2)
  have hq : q = (G ops.size).last := by
    have hL := KN.last
    cases hlast : (G ops.size).last with
    | none =>
      rw [hlast] at hL
      cases hqq : q with
      | none => rfl
      | some c => exact absurd (D.qok c hqq).2 (hL.1 c (D.qok c hqq).1)
    | some b =>
      rw [hlast] at hL
      have h1 := hgb b hL.2.1 hL.1
      cases hqq : q with
      | none => rw [hqq] at h1; exact h1.elim
      | some c =>
        rw [hqq] at h1
        have h1 : b ≤ c := h1
        obtain ⟨c1, c2⟩ := D.qok c hqq
        rcases Nat.lt_or_ge b c with h3 | h3
        · exact absurd c2 (hL.2.2.1 c h3 c1)
        · congr 1; omega
  have hbase : (G ops.size).base = baseQ s rc q ∧ bndQ s rc q ≤ (G ops.size).nx ∧ ∀ b, leQ b q → b < ops.size := by
    have hL := KN.last
    rw [← hq] at hL
    cases hqq : q with
    | none => rw [hqq] at hL; exact ⟨hL.2.1, KN.nx, fun b hb => hb.elim⟩
    | some c => rw [hqq] at hL; exact ⟨hL.2.2.2.1, (KN.hi c hL.1).2.2.1, fun b hb => Nat.lt_of_le_of_lt hb hL.1⟩
  obtain ⟨hb1, hb2, hb3⟩ := hbase
  rw [← e2] at hput henv
  rw [hb1] at hput
  have hsub : ∀ n o, St.get { s with h := hp, nx := (G ops.size).nx } n = some o → ∃ c, c ≤ (G ops.size).nx ∧ Mq ops s rc q listed n o c := fun n o hn => by
    rcases allPut_get hput n with ⟨i, news, o', h1, h2, h3⟩ | h1
    · obtain ⟨q1, q2, q3, q4⟩ := KN.fls i news h1
      have : o' = o := by
        simp only [St.get, h3] at hn
        exact Option.some.inj hn
      subst this
      exact ⟨_, (KN.hi i q1).2.2.1, .inr ⟨i, ⟨q1, hall i q1, q2, fun b h4 h5 h6 => q4 b h4 (hb3 b h5) h6⟩, by rw [← q3]; exact h2, rfl⟩⟩
    · rw [stQ_get h1] at hn
      exact ⟨_, hb2, .inl ⟨hn, rfl⟩⟩
  have hsat := D.ms.sat (s := { s with h := hp, nx := (G ops.size).nx }) (by show s.fl ≤ (G ops.size).nx; have := KN.nx; have := hs.fln; omega) hsub
  have hlt2 : ∀ m L, θ2 m = some L → m < (G ops.size).nx := fun m L hm => by
    rcases D.free m L hm with h1 | ⟨i, h1, _, _, h2⟩
    · have := KN.nx; omega
    · have := (KN.hi i h1).2.2.1; omega
  have hcut2 : cut θ2 (G ops.size).nx = θ2 := by
    funext m
    unfold cut
    split
    · rfl
    · cases hm : θ2 m with
      | none => rfl
      | some L => exact absurd (hlt2 m L hm) ‹_›
  rw [hcut2] at hsat
  have hnx : s.nx ≤ (G ops.size).nx := KN.nx
  have hg : Gon ρ θ s w1 θ2 { s with h := hp, nx := (G ops.size).nx } w2 := by
    refine ⟨hsat, fun n L hn => ?_, hnx, fun n hn => D.start n hn, rfl, rfl, fun m hm => ?_, D.os, D.hsize, D.still, fun n o L h1 h2 h3 => ?_⟩
    · have : n < s.nx := Nat.lt_of_not_le fun hh => by rw [hs.fresh n hh] at hn; cases hn
      rw [D.start n this]; exact hn
    · rcases allPut_get hput m with ⟨i, news, o', h1, h2, h3⟩ | h1
      · obtain ⟨q1, q2, q3, q4⟩ := KN.fls i news h1
        rw [q3] at h2
        obtain ⟨m1, m2⟩ := T.news q1 h2
        have := (KN.hi i q1).2.1
        have hm : m < s.fl := hm
        have := hs.fln
        omega
      · rw [stQ_get h1]; exact D.low m hm
    · obtain ⟨c, _, hM⟩ := hsub n o h2
      exact D.own n o c L hM h1 h3
  have hen : EnvOk ρ θ2 (E.get env') a2 := fun t d hd => by
    rcases (outE_spec (t := t) henv).2 d hd with ⟨h1, h2⟩ | ⟨i, h1, h2, r, h3, rfl⟩
    · obtain ⟨v, h3, h4⟩ := D.slot0 t d h2 fun i hi => by rw [h1] at hi; cases hi
      exact ⟨v, h3, W_mono (cut_ext θ2 _) _ _ h4⟩
    · obtain ⟨j, oj, hj, hje, _⟩ := writers_mem.1 h1
      have hi : i < ops.size := by have := get_lt hj; simp at this; omega
      rw [KN.recs, if_pos hi] at h3
      cases h3
      obtain ⟨v, h5, h6⟩ := D.slot1 t i h1 (hall i hi) fun j hj _ => h2 j hj
      exact ⟨v, h5, W_mono (cut_ext θ2 _) _ _ h6⟩
  rw [e2] at hg
  exact hfin env' _ θ2 a2 w2 (.head _) (g0.trans hg) hen D.tmps (outE_kept henv)
end
end
end Go.Q

namespace Go.Q
noncomputable section
open Go.RowKit
open Go.Z hiding cond_false get

theorem eqbC_eq : ∀ {l m : List Cl}, eqbC l m = true → l = m
  | [], [], _ => rfl
  | [], _ :: _, h => by simp [eqbC] at h
  | _ :: _, [], h => by simp [eqbC] at h
  | .v x :: l, .v y :: m, h => by
    simp only [eqbC, Bool.and_eq_true] at h
    rw [DV.eqb_eq _ _ h.1, eqbC_eq h.2]
  | .b i :: l, .b j :: m, h => by
    simp only [eqbC, Bool.and_eq_true] at h
    rw [nbeq h.1, eqbC_eq h.2]
  | .v _ :: _, .b _ :: _, h => by simp [eqbC] at h
  | .b _ :: _, .v _ :: _, h => by simp [eqbC] at h
theorem eqbM_eq : ∀ {l m : List (DV × DV)}, eqbM l m = true → l = m
  | [], [], _ => rfl
  | [], _ :: _, h => by simp [eqbM] at h
  | _ :: _, [], h => by simp [eqbM] at h
  | (k, v) :: l, (k', v') :: m, h => by
    simp only [eqbM, Bool.and_eq_true] at h
    rw [DV.eqb_eq _ _ h.1, DV.eqb_eq _ _ h.2.1, eqbM_eq h.2.2]
theorem eqbN_eq : ∀ {l m : List Nat}, eqbN l m = true → l = m
  | [], [], _ => rfl
  | [], _ :: _, h => by simp [eqbN] at h
  | _ :: _, [], h => by simp [eqbN] at h
  | a :: l, b :: m, h => by
    simp only [eqbN, Bool.and_eq_true] at h
    rw [nbeq h.1, eqbN_eq h.2]
theorem natO_eq : ∀ {a b : Option (Nat × Nat)}, natO a b = true → a = b
  | none, none, _ => rfl
  | some (a, b), some (c, d), h => by
    simp only [natO, Bool.and_eq_true] at h
    rw [nbeq h.1, nbeq h.2]
  | none, some _, h => by simp [natO] at h
  | some _, none, h => by simp [natO] at h
theorem Ob.eqb_eq : ∀ {x y : Ob}, x.eqb y = true → x = y := by
  intro x y h
  unfold Ob.eqb at h
  split at h
  · simp only [Bool.and_eq_true, beq_iff_eq] at h
    rw [nbeq h.1, h.2.1, eqbC_eq h.2.2]
  · simp only [Bool.and_eq_true] at h
    rw [nbeq h.1, eqbM_eq h.2]
  · simp only [Bool.and_eq_true] at h
    rw [natO_eq h.1, eqbN_eq h.2]
  · cases h
theorem eqbO_eq : ∀ {x y : Option Ob}, eqbO x y = true → x = y
  | none, none, _ => rfl
  | some x, some y, h => by rw [Ob.eqb_eq (x := x) (y := y) h]
  | none, some _, h => by simp [eqbO] at h
  | some _, none, h => by simp [eqbO] at h
theorem optB_eq {α : Type} {f : α → α → Bool} (hf : ∀ x y, f x y = true → x = y) (x y : Option α) (h : optB f x y = true) : x = y := by
  cases x <;> cases y <;> simp only [optB] at h <;> first | rfl | (cases h; done) | skip
  rw [hf _ _ h]
theorem eqbT_eq {α : Type} {f : α → α → Bool} (hf : ∀ x y, f x y = true → x = y) {t u : Tr α} (h : eqbT f t u = true) : t = u := by
  have := N8.eqb_eq (fun _ _ h => N8.eqb_eq (fun _ _ h => N8.eqb_eq (fun _ _ h => N8.eqb_eq (fun _ _ h => N8.eqb_eq (optB_eq hf) h) h) h) h) h
  cases t; cases u
  exact congrArg Tr.mk this
theorem St.eqb_eq {s s' : St} (h : s.eqb s' = true) : s.h = s'.h ∧ s.nx = s'.nx := by
  simp only [St.eqb, Bool.and_eq_true] at h
  exact ⟨eqbT_eq (fun _ _ => eqbO_eq) h.2, nbeq h.1⟩
def On (s0 : St) (s : St) : Prop := s.b = s0.b ∧ s.fl = s0.fl
theorem St.on_eq {s0 s s' : St} (h : On s0 s) (h' : On s0 s') (e : s.eqb s' = true) : s = s' := by
  obtain ⟨h1, h2⟩ := St.eqb_eq e
  cases s; cases s'
  simp only at h1 h2
  obtain ⟨a1, a2⟩ := h
  obtain ⟨b1, b2⟩ := h'
  simp only at a1 a2 b1 b2
  rw [h1, h2, a1, a2, b1, b2]
end
end Go.Q

namespace Go.Q
noncomputable section
open Go.RowKit
open Go.Z hiding cond_false get

section
variable {Γ : Cx} {ρ : Rh} {P : Program} {call : CallF} {θ θ' : Tz} {s s' t t' : St} {w w' : World} {N : Nat} {ks : List Nat}

theorem Sat.congr (hs : Sat ρ θ s w) (hg : ∀ n, t.get n = s.get n) (hnx : t.nx = s.nx) (hfl : t.fl = s.fl) : Sat ρ θ t w :=
  ⟨by rw [hnx, hfl]; exact hs.fln, fun n hn => hs.fresh n (by rw [← hnx]; exact hn), fun n o h => hs.res n o (by rw [← hg]; exact h), fun n m o o' L K h1 h2 => hs.inj n m o o' L K (by rw [← hg]; exact h1) (by rw [← hg]; exact h2)⟩
theorem Gon.congr (g : Gon ρ θ s w θ' s' w') (hg : ∀ n, t.get n = s.get n) (hnx : t.nx = s.nx) (hfl : t.fl = s.fl) (hg' : ∀ n, t'.get n = s'.get n) (hnx' : t'.nx = s'.nx) (hfl' : t'.fl = s'.fl) (hb : t'.b = t.b) : Gon ρ θ t w θ' t' w' :=
  ⟨g.sat.congr hg' hnx' hfl', g.ext, by rw [hnx, hnx']; exact g.le, fun n hn => g.agree n (by rw [← hnx]; exact hn), by rw [hfl', g.fl, hfl], hb, fun n hn => by rw [hg', hg]; exact g.low n (by rw [← hfl]; exact hn), g.env, g.size,
    fun b h1 h2 => g.still b h1 fun n o L h3 h4 => h2 n o L (by rw [hfl]; exact h3) (by rw [hg]; exact h4), fun n o L h1 h2 h3 => by
      rcases g.own n o L (by rw [← hfl]; exact h1) (by rw [← hg']; exact h2) h3 with h | ⟨m, o', M, q1, q2, q3⟩
      · exact .inl h
      · exact .inr ⟨m, o', M, by rw [hfl]; exact q1, by rw [hg]; exact q2, q3⟩⟩
theorem lay_get (h : Tr (Option Ob)) (b : Tr Ob) (n : Nat) : (lay h b).get n = match h.get n with | some x => x | none => b.get n := by
  rw [Tr.get_n, Tr.get_n, Tr.get_n]
  by_cases hn : n < 32768
  · rw [if_pos hn, if_pos hn, if_pos hn]
    exact layZ_get (fun c => rfl) h.t b.t n
  · rw [if_neg hn, if_neg hn, if_neg hn]
theorem layO_get (h h0 : Tr (Option Ob)) (n : Nat) : (layO h h0).get n = match h.get n with | some x => some x | none => h0.get n := by
  rw [Tr.get_n, Tr.get_n, Tr.get_n]
  by_cases hn : n < 32768
  · rw [if_pos hn, if_pos hn, if_pos hn]
    exact layZ_get (fun c => rfl) h.t h0.t n
  · rw [if_neg hn, if_neg hn, if_neg hn]
theorem rebase_get (s : St) (n : Nat) : (rebase s).get n = s.get n := by
  show (match (Tr.nil : Tr (Option Ob)).get n with | some x => x | none => (lay s.h s.b).get n) = _
  rw [Tr.get_nil]
  simp only
  rw [lay_get]; rfl
theorem unbase_get (s s2 : St) (n : Nat) (hb : s2.b = (rebase s).b) : St.get { s2 with b := s.b, h := layO s2.h s.h } n = s2.get n := by
  show (match (layO s2.h s.h).get n with | some x => x | none => s.b.get n) = (match s2.h.get n with | some x => x | none => s2.b.get n)
  rw [layO_get, hb]
  cases s2.h.get n with
  | some x => rfl
  | none =>
    simp only
    show _ = (lay s.h s.b).get n
    rw [lay_get]

end
end
end Go.Q

namespace Go.Q
noncomputable section
open Go.RowKit
open Go.Z hiding cond_false get resF

section
variable {Γ : Cx} {ρ : Rh} {P : Program} {θ : Tz} {s : St} {w : World}

theorem results_sound (hs : SatR ρ θ s w) {fn : Func} {a : Act} {env : E} (he : EnvOk ρ θ (E.get env) a) {ds : List DV} (h : resD P env s fn.results.toList = .ok ds) :
    ∃ v, W ρ θ (retD ds) v ∧ (results fn a.tmps).run P w = .ok v w := by
  have key : ∀ (l : List ResultVar) (ds : List DV), resD P env s l = .ok ds → ∃ us : List Value, WL ρ θ ds us ∧ (l.mapM (Go.Z.resF a.tmps)).run P w = .ok us w := by
    intro l
    induction l with
    | nil => intro ds h; cases h; exact ⟨[], WL_nil, by simp⟩
    | cons x l ih =>
      intro ds hh
      have one : ∀ {d : DV} {v' : Value} {m : List DV}, W ρ θ d v' → (Go.Z.resF a.tmps x).run P w = .ok v' w → resD P env s l = .ok m → ∃ us : List Value, WL ρ θ (d :: m) us ∧ ((x :: l).mapM (Go.Z.resF a.tmps)).run P w = .ok us w := by
        intro d v' m hV hrun hm
        obtain ⟨us, k2, k3⟩ := ih _ hm
        refine ⟨v' :: us, by simp only [WL]; exact ⟨hV, k2⟩, ?_⟩
        rw [List.mapM_cons]
        simp [hrun, k3, Result.andThen]
      cases x with
      | tmp t =>
        simp only [resD] at hh
        split at hh <;> try exact (fail_ok hh).elim
        rename_i d hd
        split at hh <;> cases hh
        rename_i m hm
        obtain ⟨v, e1, e2⟩ := he t d hd
        have e3 : a.tmps.getD t undef = v := by simp [Array.getD_eq_getD_getElem?, e1]
        exact one e2 (by simp [Go.Z.resF, e3]) hm
      | cell t T =>
        simp only [resD] at hh
        split at hh <;> try exact (fail_ok hh).elim
        rename_i n o hd
        obtain ⟨ho, hh'⟩ := cond_fail hh
        clear hh
        split at hh' <;> try exact (fail_ok hh').elim
        rename_i T' cs ex hr
        split at hh' <;> try exact (fail_ok hh').elim
        rename_i d hld
        split at hh' <;> cases hh'
        rename_i m hm
        obtain ⟨v, e1, e2⟩ := he t _ hd
        rw [Lin.eqb_eq ho] at e2
        simp only [W, ev_lit] at e2
        obtain ⟨L, hL, _, rfl⟩ := e2
        obtain ⟨L', hL', vs, sp, fz, h1, h2, h3, h4, h5⟩ := hs.res n _ (rowAt_some hr)
        obtain rfl := Option.some.inj (hL.symm.trans hL')
        obtain ⟨u, u1, u2⟩ := ldRow_sound (P := P) hld h3
        have e3 : a.tmps.getD t undef = .pointer (some ⟨L.b, 0, none⟩) := by simp [Array.getD_eq_getD_getElem?, e1]
        refine one u1 ?_ hm
        simp only [Go.Z.resF, e3, asAddr]
        exact u2 w L.b 0 fun j v hj => by
          rw [Nat.zero_add, cell_row h1, List.getElem?_append_left (get_lt hj)]
          exact hj
  obtain ⟨us, k2, k3⟩ := key _ _ h
  refine ⟨retVal us, ?_, ?_⟩
  · match ds, us, k2 with
    | [], [], _ => simp only [retD, retVal, W]; exact ⟨[], rfl, WL_nil⟩
    | [d], [u], k2 => simp only [WL] at k2; exact k2.1
    | d :: d' :: ds, u :: u' :: us, k2 => simp only [retD, retVal, W]; exact ⟨_, rfl, k2⟩
    | [], _ :: _, k2 => simp only [WL] at k2
    | _ :: _, [], k2 => simp only [WL] at k2
    | [_], _ :: _ :: _, k2 => simp only [WL] at k2; exact k2.2.elim
    | _ :: _ :: _, [_], k2 => simp only [WL] at k2; exact k2.2.elim
  · have e : fn.results = fn.results.toList.toArray := by simp
    rw [results_eq, e, List.mapM_toArray]
    simp only [bind_map_left, Sem.run_bind, k3, Result.andThen]
    match us with
    | [] => rfl
    | [_] => rfl
    | _ :: _ :: _ => simp [retVal]

theorem uniqV_mem {s0 : St} : ∀ {l : List (DV × St)}, (∀ x ∈ l, On s0 x.2) → ∀ x ∈ l, x ∈ uniqV l
  | [], _, x, hx => by cases hx
  | [y], _, x, hx => hx
  | y :: z :: l, hl, x, hx => by
    have hl2 : ∀ x ∈ z :: l, On s0 x.2 := fun x hx => hl x (.tail _ hx)
    have ih := uniqV_mem hl2
    have has : ∀ {m : List (DV × St)}, (∀ x ∈ m, On s0 x.2) → hasV y m = true → y ∈ m := by
      intro m
      induction m with
      | nil => intro _ h; cases h
      | cons u m ih2 =>
        intro hm h
        simp only [hasV, Bool.or_eq_true, Bool.and_eq_true] at h
        rcases h with h | h
        · have e1 := DV.eqb_eq _ _ h.1
          have e2 := St.on_eq (hl y (.head _)) (hm u (.head _)) h.2
          have : y = u := Prod.ext e1 e2
          rw [this]; exact .head _
        · exact .tail _ (ih2 (fun x hx => hm x (.tail _ hx)) h)
    show x ∈ cond (hasV y (z :: l)) (uniqV (z :: l)) (y :: uniqV (z :: l))
    cases hb : hasV y (z :: l) with
    | true =>
      rcases List.mem_cons.1 hx with rfl | hx
      · exact ih _ (has hl2 hb)
      · exact ih _ hx
    | false =>
      rcases List.mem_cons.1 hx with rfl | hx
      · exact .head _
      · exact .tail _ (ih _ hx)

def IOk (P : Program) (I : Nat → Option Fd) : Prop := ∀ f F, I f = some F → ∃ fn, P.funcs[f]? = some fn ∧ fn.body = some F.code ∧ fn.ntmps = F.N ∧ fn.results.toList = F.rv ∧ (fn.name == "runtime.NumGoroutine") = false
def HookOk (ρ : Rh) (P : Program) (hook : CallF → Nat → Option (List DV → St → RS)) : Prop :=
  ∀ call, CallOk ρ P call → ∀ f k, hook call f = some k → ∀ (args : List DV) (s : St) (l : List (DV × St)) (θ : Tz) (w : World) (us : List Value), Sat ρ θ s w → WL ρ θ args us → k args s = .ok l →
    EntersOk P f ∧ Calls P f us.toArray w fun e w' => ∃ d s' θ' v, e = .returned v ∧ (d, s') ∈ l ∧ Gon ρ θ s w θ' s' w' ∧ W ρ θ' d v

end
end
end Go.Q

