/- Part 20 of what the closing text rests on. -/
import Derived.Test.YtlbfenfepmmihaaJ19
import Derived.Test.YtlbfenfepmmihaaRows
set_option maxRecDepth 100000
namespace Go.Z
theorem D.recs_ext {X : Nat → Prop} {w : World} {es n : Nat} {f g : Nat → Nat → D} (h : ∀ i, i < n → ∀ j, j < es → f i j = g i j) {c : Value} (hc : (D.recs es n f).holds X w c) : (D.recs es n g).holds X w c := by
  obtain ⟨L, h1, h2, h3, h4, h5, h6⟩ := hc
  exact ⟨L, h1, h2, h3, h4, h5, fun i hi j hj => by rw [← h i hi j hj]; exact h6 i hi j hj⟩
theorem FnIs.weaken {P : Program} {f : Nat} {c d : Ctr} (h : FnIs P f c) (hg : d.gl = c.gl)
    (hp : ∀ (X : Nat → Prop) (w : World) (aa : List O) (vs : List Value) (fp : List Nat), d.pre aa → OL.holds X w aa vs fp → ∃ bs, c.pre bs ∧ OL.holds X w bs vs fp ∧ c.upd bs = d.upd aa ∧ c.res bs = d.res aa) : FnIs P f d := by
  refine ⟨fun w A aa vs fp h1 h2 h3 h4 h5 => ?_, h.2⟩
  obtain ⟨bs, p1, p2, p3, p4⟩ := hp _ w aa vs fp h4 h1
  rw [← p3, ← p4]
  exact h.1 w A bs vs fp p2 h2 h3 p1 (by rw [← hg]; exact h5)
end Go.Z
namespace Go.ZR
open Go.Z Go.ZM Go.Proofs
theorem size43 : Try.prog.types[43].size = 2 := by kernel_rfl
def heaF (h : HeaR) (es n : Nat) (F : Nat → Nat → D) : O := .agg [iO .u32 h.cum, iO .u32 h.win, .d (.recs es n F), .d (.ints .u32 h.dups)]
def isGaps (l : List (Int × Int)) (es n : Nat) (F : Nat → Nat → D) : Prop := es = 2 ∧ l.length = n ∧ ∀ i, i < n → ∀ j, j < 2 → F i j = gapCell l i j
def heardGC : Ctr := { heardQC with pre := fun a => ∃ bs q h es n F, a = [quB bs q, heaF h es n F] ∧ isGaps h.gaps es n F ∧ okQ q ∧ oneP q ∧ okHea h }
theorem gapsOf_ext {l : List (Int × Int)} {es n : Nat} {F : Nat → Nat → D} (h : isGaps l es n F) : gapsOf (.recs es n F) = l := by
  obtain ⟨rfl, rfl, h⟩ := h
  have e := gapsOf_gaps l
  refine Eq.trans ?_ e
  show (List.range l.length).map _ = (List.range l.length).map _
  refine List.map_congr_left fun i hi => ?_
  have hi := List.mem_range.1 hi
  show (vi (F i 0), vi (F i 1)) = (vi (gapCell l i 0), vi (gapCell l i 1))
  rw [h i hi 0 (by decide), h i hi 1 (by decide)]
theorem ok41g : FnIs Try.prog 41 heardGC := by
  refine ok41.weaken rfl fun X w aa vs fp hd hh => ?_
  obtain ⟨bs, q, h, es, n, F, rfl, hF, h1, h2, h3⟩ := hd
  have e : heaOfO (heaF h es n F) = heaOfO (heaO h) := by
    show (⟨h.cum, h.win, gapsOf (.recs es n F), h.dups⟩ : HeaR) = ⟨h.cum, h.win, gapsOf (.recs 2 h.gaps.length (gapCell h.gaps)), h.dups⟩
    rw [gapsOf_ext hF, gapsOf_gaps]
  have ea : heardA [quB bs q, heaF h es n F] = heardA [quB bs q, heaO h] := by
    show heardQ _ (heaOfO (heaF h es n F)) = heardQ _ (heaOfO (heaO h))
    rw [e]
    rfl
  refine ⟨[quB bs q, heaO h], ⟨bs, q, h, rfl, h1, h2, h3⟩, ?_, ?_, ?_⟩
  · obtain ⟨rfl, rfl, hF⟩ := hF
    match vs, hh with
    | [v1, v2], hh =>
      simp only [OL.holds] at hh ⊢
      obtain ⟨f1, f2, e1, a1, f3, f4, e2, a2, a3⟩ := hh
      refine ⟨f1, f2, e1, a1, f3, f4, e2, ?_, a3⟩
      unfold heaF at a2
      unfold heaO
      simp only [O.holds] at a2 ⊢
      obtain ⟨us, e3, a4⟩ := a2
      refine ⟨us, e3, ?_⟩
      match us, a4 with
      | [u1, u2, u3, u4], a4 =>
        simp only [OL.holds] at a4 ⊢
        obtain ⟨g1, g2, k1, b1, g3, g4, k2, b2, g5, g6, k3, b3, b4⟩ := a4
        refine ⟨g1, g2, k1, b1, g3, g4, k2, b2, g5, g6, k3, ?_, b4⟩
        simp only [O.holds] at b3 ⊢
        exact ⟨D.recs_ext hF b3.1, b3.2⟩
  · exact congrArg (fun x => quO (HdR.q x) :: List.replicate 1 O.any) ea.symm
  · exact congrArg (fun x => [O.own 3 (.ints .i64 (HdR.ac x)), .own 3 (.ints .i64 (HdR.fast x)), iO .i64 (HdR.e x)]) ea.symm
end Go.ZR

set_option maxRecDepth 100000
namespace Go.ZM
open Go.Z Go.ZR
def pc1 (b : Int) : PieR := ⟨0, 0, 0, false, false, false, [b]⟩
def sentQ (f : Int) : Nat → QuR
  | 0 => newQ f
  | j + 1 => (nextQ (pushQ (sentQ f j) (pc1 7)).1 0).1
def gapH (c : Int) (i : Int) : HeaR := ⟨c, 0, [(2, i)], []⟩
def toldQ (f : Int) (k : Nat) (c : Int) : Nat → QuR
  | 0 => sentQ f k
  | i + 1 => (heardQ (toldQ f k c i) (gapH c ((i : Int) + 2))).q
end Go.ZM
namespace Go.ZR
open Go.Z Go.ZM Go.Proofs
def n4 : List (Nat × Ctr) := [(37, newQC), (39, pushQC), (40, nextQC), (41, heardGC), (51, cumQC)]
theorem n4_ok : COk Try.prog (ctrs n4) := cok_cons ok37 (cok_cons ok39 (cok_cons ok40 (cok_cons ok41g (cok_cons ok51 cok_nil))))
def yesC (n : Nat) (pre : List O → Prop) : Ctr := nC n false pre fun _ => [bO true]
def ansQC : Ctr := yesC 0 fun a => a = []
def fastC : Ctr := yesC 3 fun a => ∃ f n g : Int, a = [iO .u32 f, iO .u8 n, iO .u8 g] ∧ (0 ≤ f ∧ f ≤ 4294967295) ∧ (0 ≤ n ∧ n ≤ 255) ∧ (0 ≤ g ∧ g ≤ 255)
def n5 : List (Nat × Ctr) := (38, ansQC) :: n4
def kF (n : Int) : Nat := (n % 20 + 5).toNat
def mF (n g : Int) : Int := g % (n % 20 + 5 - 4)
def fast1 (f : Int) (n : Int) : LoopAnn where
  γ := Nat
  pre := fun j => j ≤ kF n
  μ := fun j => kF n - j
  items := fun j => [(10, .c (iO .i64 (j : Int))), (7, .c (quO (sentQ f j)))]
def fast2 (f : Int) (n g : Int) : LoopAnn where
  γ := Nat
  pre := fun i => i ≤ 3
  μ := fun i => 3 - i
  items := fun i => [(12, .c (iO .i64 ((i : Int) + 1))), (7, .c (quO (toldQ f (kF n) (u32 (u32 (f + mF n g) - 1)) i)))]
end Go.ZR

set_option maxRecDepth 100000
namespace Go.ZM
open Go.Z
theorem u32_lo (x : Int) : 0 ≤ u32 x ∧ u32 x ≤ 4294967295 := by unfold u32; omega
theorem okQ_new {f : Int} (h : 0 ≤ f ∧ f ≤ 4294967295) : okQ (newQ f) := ⟨h, by simp [newQ], by simp [newQ], by simp [newQ]⟩
theorem okQ_push {q : QuR} (h : okQ q) {p : PieR} (hp : 0 < p.bytes.length ∧ p.bytes.length ≤ 256) (hl : q.wait.length + q.out.length < 256) : pushQ q p = (⟨u32 (q.next + 1), q.wait ++ [{ p with tsn := q.next }], q.out⟩, q.next, 0) ∧ okQ (pushQ q p).1 := by
  have e : pushQ q p = (⟨u32 (q.next + 1), q.wait ++ [{ p with tsn := q.next }], q.out⟩, q.next, 0) := by
    unfold pushQ
    rw [if_neg (by omega), if_neg (by omega)]
  refine ⟨e, ?_⟩
  rw [e]
  refine ⟨u32_lo _, ?_, ?_, h.2.2.2⟩
  · simp only [List.length_append, List.length_singleton]; omega
  · intro x hx
    rcases List.mem_append.1 hx with hx | hx
    · exact h.2.2.1 x hx
    · rw [List.mem_singleton] at hx
      subst hx
      exact hp.2
theorem nextQ_cons {q : QuR} {p : Int} {x : PieR} {l : List PieR} (hm : markQ q.out = none) (hw : q.wait = x :: l) : nextQ q p = (⟨q.next, l, q.out ++ [⟨x, p, 0, false, false⟩]⟩, x, true) := by
  unfold nextQ
  rw [hm, hw]
theorem nextQ_nil {q : QuR} {p : Int} (hm : markQ q.out = none) (hw : q.wait = []) : nextQ q p = (q, noPie, false) := by
  unfold nextQ
  rw [hm, hw]
def itN (f : Int) (j : Nat) : ItR := ⟨⟨u32 (f + j), 0, 0, false, false, false, [7]⟩, 0, 0, false, false⟩
def itsN (f : Int) (k : Nat) : List ItR := (List.range k).map (itN f)
theorem itsN_succ (f : Int) (k : Nat) : itsN f (k + 1) = itsN f k ++ [itN f k] := by simp [itsN, List.range_succ]
theorem itsN_len (f : Int) (k : Nat) : (itsN f k).length = k := by simp [itsN]
theorem itsN_mem {f : Int} {k : Nat} {x : ItR} (h : x ∈ itsN f k) : ∃ j : Nat, x = itN f j := by
  obtain ⟨j, _, e⟩ := List.mem_map.1 h
  exact ⟨j, e.symm⟩
theorem markQ_itsN (f : Int) (k : Nat) : markQ (itsN f k) = none := by
  unfold markQ
  rw [List.findIdx?_eq_none_iff]
  intro y hy
  obtain ⟨j, rfl⟩ := itsN_mem hy
  rfl
theorem u32_succ (x : Int) : u32 (u32 x + 1) = u32 (x + 1) := by unfold u32; omega
theorem okQ_its {f : Int} {k : Nat} (hk : k ≤ 256) {n : Int} (hn : 0 ≤ n ∧ n ≤ 4294967295) : okQ ⟨n, [], itsN f k⟩ := by
  refine ⟨hn, by simp only [List.length_nil, itsN_len]; omega, fun p h => absurd h (by simp), fun x h => ?_⟩
  obtain ⟨j, rfl⟩ := itsN_mem h
  exact ⟨by simp [itN], Int.le_refl _, by simp [itN]⟩
theorem sentQ_eq {f : Int} (hf : 0 ≤ f ∧ f ≤ 4294967295) : ∀ k : Nat, k ≤ 256 → sentQ f k = ⟨u32 (f + k), [], itsN f k⟩
  | 0, _ => by
    show newQ f = _
    have : u32 (f + ((0 : Nat) : Int)) = f := by unfold u32; omega
    rw [this]
    rfl
  | k + 1, h => by
    show (nextQ (pushQ (sentQ f k) (pc1 7)).1 0).1 = _
    rw [sentQ_eq hf k (by omega)]
    have h1 : pushQ ⟨u32 (f + k), [], itsN f k⟩ (pc1 7) = _ := (okQ_push (okQ_its (by omega) (u32_lo _)) (p := pc1 7) (by simp [pc1]) (by simp only [List.length_nil, itsN_len]; omega)).1
    rw [h1]
    have h2 := nextQ_cons (q := (⟨u32 (u32 (f + k) + 1), [] ++ [{ pc1 7 with tsn := u32 (f + k) }], itsN f k⟩ : QuR)) (p := 0) (markQ_itsN f k) rfl
    rw [h2, u32_succ, itsN_succ]
    have e : f + (k : Int) + 1 = f + ((k + 1 : Nat) : Int) := by omega
    rw [e]
    rfl
theorem sent_push {f : Int} (hf : 0 ≤ f ∧ f ≤ 4294967295) {k : Nat} (h : k < 256) : okQ (sentQ f k) ∧ pushQ (sentQ f k) (pc1 7) = (⟨u32 (f + (k + 1)), [{ pc1 7 with tsn := u32 (f + k) }], itsN f k⟩, u32 (f + k), 0) ∧ okQ (pushQ (sentQ f k) (pc1 7)).1 := by
  rw [sentQ_eq hf k (by omega)]
  have h0 : okQ ⟨u32 (f + k), [], itsN f k⟩ := okQ_its (by omega) (u32_lo _)
  have h1 := okQ_push h0 (p := pc1 7) (by simp [pc1]) (by simp only [List.length_nil, itsN_len]; omega)
  refine ⟨h0, ?_, h1.2⟩
  rw [h1.1]
  show ((⟨u32 (u32 (f + k) + 1), _, _⟩ : QuR), _, _) = _
  rw [u32_succ, Int.add_assoc]
  rfl
def fresh (x : ItR) : Prop := x.pc.bytes.length = 1 ∧ x.path = 0 ∧ x.missed = 0 ∧ x.heard = false ∧ x.marked = false
theorem mapTo_cons {α : Type} (f : Nat → α → α) (x : α) (l : List α) (k : Nat) : mapTo f (x :: l) (k + 1) = f 0 x :: mapTo (fun i => f (i + 1)) l k := by
  simp [mapTo, List.mapIdx_cons]
theorem mapTo_z {α : Type} (f : Nat → α → α) (l : List α) : mapTo f l 0 = l := by simp [mapTo]
theorem hit_no {a : Int} {i : Int} (h : a < i) : hitG [(2, a)] i = false := by
  simp only [hitG, List.any_cons, List.any_nil, Bool.or_false, Bool.and_eq_false_iff, decide_eq_false_iff_not]
  exact Or.inr (by omega)
theorem hit_one (a : Int) : hitG [(2, a)] 1 = false := by
  simp [hitG]
theorem hit_yes {a : Int} {i : Int} (h2 : 2 ≤ i) (h : i ≤ a) : hitG [(2, a)] i = true := by
  simp [hitG, h2, h]
theorem gap_rest {a : Int} : ∀ {R : List ItR} {o : Nat}, (∀ x ∈ R, x.heard = false) → a < o + 1 → R.mapIdx (fun i x => gapI [(2, a)] (i + o) x) = R
  | [], _, _, _ => rfl
  | x :: R, o, hR, ho => by
    rw [List.mapIdx_cons]
    have h1 : gapI [(2, a)] (0 + o) x = x := by
      unfold gapI
      rw [hit_no (by omega), if_neg Bool.false_ne_true]
      have := hR x (List.mem_cons_self ..)
      cases x
      simp only at this
      subst this
      rfl
    have h2 := gap_rest (a := a) (R := R) (o := o + 1) (fun y hy => hR y (List.mem_cons_of_mem _ hy)) (by omega)
    rw [h1]
    have e : (fun i x => gapI [(2, a)] (i + 1 + o) x) = fun i x => gapI [(2, a)] (i + (o + 1)) x := by
      funext i x
      rw [Nat.add_right_comm, Nat.add_assoc]
    rw [e, h2]
theorem last_rest {a : Int} {n : Nat} : ∀ m : Nat, a ≤ n → lastG [(2, a)] (n + m) = lastG [(2, a)] n
  | 0, _ => rfl
  | m + 1, h => by
    show (if hitG [(2, a)] (((n + m : Nat) : Int) + 1) = true then _ else lastG [(2, a)] (n + m)) = _
    rw [hit_no (by omega), if_neg Bool.false_ne_true, last_rest m h]
theorem gapI_no {g : List (Int × Int)} {i : Nat} {x : ItR} (h : hitG g (i + 1) = false) (hx : x.heard = false) : gapI g i x = x := by
  unfold gapI
  rw [h, if_neg Bool.false_ne_true]
  cases x
  simp only at hx
  subst hx
  rfl
theorem gapI_yes {g : List (Int × Int)} {i : Nat} {x : ItR} (h : hitG g (i + 1) = true) : gapI g i x = noteI x := by
  unfold gapI
  rw [h, if_pos rfl]
theorem last_step {g : List (Int × Int)} {i : Nat} (h : hitG g (i + 1) = true) : lastG g (i + 1) = i := by
  show (if hitG g ((i : Int) + 1) = true then _ else _) = _
  rw [h, if_pos rfl]
theorem hst_0 {n : Int} {l : List ItR} {h : HeaR} {a b c d : ItR} {R : List ItR} (hg : h.gaps = [(2, 2)]) (hin : inQ ⟨n, [], l⟩ h = true) (hl : l.drop (doneQ ⟨n, [], l⟩ h) = a :: b :: c :: d :: R) (ha : a.heard = false ∧ a.marked = false ∧ a.missed = 0) (hc : c.heard = false) (hd : d.heard = false) (hR : ∀ x ∈ R, x.heard = false) :
    heardQ ⟨n, [], l⟩ h = ⟨⟨n, [], { a with missed := 1 } :: noteI b :: c :: d :: R⟩, (heardQ ⟨n, [], l⟩ h).ac, [], 0⟩ := by
  have e2 : out2 ⟨n, [], l⟩ h = a :: noteI b :: c :: d :: R := by
    show (l.drop _).mapIdx (gapI h.gaps) = _
    rw [hl, hg, List.mapIdx_cons, List.mapIdx_cons, List.mapIdx_cons, List.mapIdx_cons, gapI_no (hit_one 2) ha.1, gapI_yes (hit_yes (by decide) (by decide)), gapI_no (hit_no (by decide)) hc, gapI_no (hit_no (by decide)) hd, gap_rest (o := 4) hR (by decide)]
  have e3 : last2 ⟨n, [], l⟩ h = 2 := by
    show (lastG h.gaps (l.drop _).length + 1).toNat = _
    rw [hl, hg]
    have : (a :: b :: c :: d :: R).length = 2 + (R.length + 2) := by simp only [List.length_cons]; omega
    rw [this, last_rest _ (by decide), last_step (hit_yes (by decide) (by decide))]
    rfl
  have fa : fliesI a = true := by simp [fliesI, ha.1, ha.2.1]
  have ma : missI a = { a with missed := 1 } := by simp [missI, fa, ha.2.2]
  have nb : fliesI (noteI b) = false := rfl
  have mb : missI (noteI b) = noteI b := by simp [missI, nb]
  have ap : apartF h.gaps = true := by rw [hg]; decide
  unfold heardQ
  rw [ap, hin, if_neg (by decide), if_neg (by decide)]
  have o3 : out3 ⟨n, [], l⟩ h = { a with missed := 1 } :: noteI b :: c :: d :: R := by
    unfold out3
    rw [e2, e3, mapTo_cons, mapTo_cons, mapTo_z, ma, mb]
  have f3 : fast3 ⟨n, [], l⟩ h 2 = [] := by
    unfold fast3
    rw [e2]
    simp [missF, fa, nb, ha.2.2]
  rw [o3, e3, f3]
theorem hst_1 {n : Int} {l : List ItR} {h : HeaR} {a b c d : ItR} {R : List ItR} (hg : h.gaps = [(2, 3)]) (hin : inQ ⟨n, [], l⟩ h = true) (hl : l.drop (doneQ ⟨n, [], l⟩ h) = a :: b :: c :: d :: R) (ha : a.heard = false ∧ a.marked = false ∧ a.missed = 1) (hd : d.heard = false) (hR : ∀ x ∈ R, x.heard = false) :
    heardQ ⟨n, [], l⟩ h = ⟨⟨n, [], { a with missed := 2 } :: noteI b :: noteI c :: d :: R⟩, (heardQ ⟨n, [], l⟩ h).ac, [], 0⟩ := by
  have e2 : out2 ⟨n, [], l⟩ h = a :: noteI b :: noteI c :: d :: R := by
    show (l.drop _).mapIdx (gapI h.gaps) = _
    rw [hl, hg, List.mapIdx_cons, List.mapIdx_cons, List.mapIdx_cons, List.mapIdx_cons, gapI_no (hit_one 3) ha.1, gapI_yes (hit_yes (by decide) (by decide)), gapI_yes (hit_yes (by decide) (by decide)), gapI_no (hit_no (by decide)) hd, gap_rest (o := 4) hR (by decide)]
  have e3 : last2 ⟨n, [], l⟩ h = 3 := by
    show (lastG h.gaps (l.drop _).length + 1).toNat = _
    rw [hl, hg]
    have : (a :: b :: c :: d :: R).length = 3 + (R.length + 1) := by simp only [List.length_cons]; omega
    rw [this, last_rest _ (by decide), last_step (hit_yes (by decide) (by decide))]
    rfl
  have fa : fliesI a = true := by simp [fliesI, ha.1, ha.2.1]
  have ma : missI a = { a with missed := 2 } := by simp [missI, fa, ha.2.2]
  have nb (x : ItR) : fliesI (noteI x) = false := rfl
  have mb (x : ItR) : missI (noteI x) = noteI x := by simp [missI, nb]
  have ap : apartF h.gaps = true := by rw [hg]; decide
  unfold heardQ
  rw [ap, hin, if_neg (by decide), if_neg (by decide)]
  have o3 : out3 ⟨n, [], l⟩ h = { a with missed := 2 } :: noteI b :: noteI c :: d :: R := by
    unfold out3
    rw [e2, e3, mapTo_cons, mapTo_cons, mapTo_cons, mapTo_z, ma, mb, mb]
  have f3 : fast3 ⟨n, [], l⟩ h 3 = [] := by
    unfold fast3
    rw [e2]
    simp [missF, fa, nb, ha.2.2]
  rw [o3, e3, f3]
theorem hst_2 {n : Int} {l : List ItR} {h : HeaR} {a b c d : ItR} {R : List ItR} (hg : h.gaps = [(2, 4)]) (hin : inQ ⟨n, [], l⟩ h = true) (hl : l.drop (doneQ ⟨n, [], l⟩ h) = a :: b :: c :: d :: R) (ha : a.heard = false ∧ a.marked = false ∧ a.missed = 2) (hR : ∀ x ∈ R, x.heard = false) :
    heardQ ⟨n, [], l⟩ h = ⟨⟨n, [], { a with missed := 0, marked := true } :: noteI b :: noteI c :: noteI d :: R⟩, (heardQ ⟨n, [], l⟩ h).ac, [a.path], 0⟩ := by
  have e2 : out2 ⟨n, [], l⟩ h = a :: noteI b :: noteI c :: noteI d :: R := by
    show (l.drop _).mapIdx (gapI h.gaps) = _
    rw [hl, hg, List.mapIdx_cons, List.mapIdx_cons, List.mapIdx_cons, List.mapIdx_cons, gapI_no (hit_one 4) ha.1, gapI_yes (hit_yes (by decide) (by decide)), gapI_yes (hit_yes (by decide) (by decide)), gapI_yes (hit_yes (by decide) (by decide)), gap_rest (o := 4) hR (by decide)]
  have e3 : last2 ⟨n, [], l⟩ h = 4 := by
    show (lastG h.gaps (l.drop _).length + 1).toNat = _
    rw [hl, hg]
    have : (a :: b :: c :: d :: R).length = 4 + R.length := by simp only [List.length_cons]; omega
    rw [this, last_rest _ (by decide), last_step (hit_yes (by decide) (by decide))]
    rfl
  have fa : fliesI a = true := by simp [fliesI, ha.1, ha.2.1]
  have ma : missI a = { a with missed := 0, marked := true } := by simp [missI, fa, ha.2.2]
  have nb (x : ItR) : fliesI (noteI x) = false := rfl
  have mb (x : ItR) : missI (noteI x) = noteI x := by simp [missI, nb]
  have ap : apartF h.gaps = true := by rw [hg]; decide
  unfold heardQ
  rw [ap, hin, if_neg (by decide), if_neg (by decide)]
  have o3 : out3 ⟨n, [], l⟩ h = { a with missed := 0, marked := true } :: noteI b :: noteI c :: noteI d :: R := by
    unfold out3
    rw [e2, e3, mapTo_cons, mapTo_cons, mapTo_cons, mapTo_cons, mapTo_z, ma, mb, mb, mb]
  have f3 : fast3 ⟨n, [], l⟩ h 4 = [a.path] := by
    unfold fast3
    rw [e2]
    simp [missF, fa, nb, ha.2.2]
  rw [o3, e3, f3]
theorem itsN_at {f : Int} {k i : Nat} (h : i < (itsN f k).length) : (itsN f k)[i] = itN f i := by simp [itsN]
theorem itsN_drop {f : Int} {k m : Nat} (h : m + 5 ≤ k) : (itsN f k).drop m = itN f m :: itN f (m + 1) :: itN f (m + 2) :: itN f (m + 3) :: (itsN f k).drop (m + 4) := by
  rw [List.drop_eq_getElem_cons (by rw [itsN_len]; omega), List.drop_eq_getElem_cons (i := m + 1) (by rw [itsN_len]; omega), List.drop_eq_getElem_cons (i := m + 1 + 1) (by rw [itsN_len]; omega), List.drop_eq_getElem_cons (i := m + 1 + 1 + 1) (by rw [itsN_len]; omega), itsN_at, itsN_at, itsN_at, itsN_at]
def told1 (f : Int) (k m : Nat) : QuR := ⟨u32 (f + k), [], { itN f m with missed := 1 } :: noteI (itN f (m + 1)) :: itN f (m + 2) :: itN f (m + 3) :: (itsN f k).drop (m + 4)⟩
def told2 (f : Int) (k m : Nat) : QuR := ⟨u32 (f + k), [], { itN f m with missed := 2 } :: noteI (itN f (m + 1)) :: noteI (itN f (m + 2)) :: itN f (m + 3) :: (itsN f k).drop (m + 4)⟩
def told3 (f : Int) (k m : Nat) : QuR := ⟨u32 (f + k), [], { itN f m with missed := 0, marked := true } :: noteI (itN f (m + 1)) :: noteI (itN f (m + 2)) :: noteI (itN f (m + 3)) :: (itsN f k).drop (m + 4)⟩
def told4 (f : Int) (k m : Nat) : QuR := ⟨u32 (f + k), [], { itN f m with path := 1 } :: noteI (itN f (m + 1)) :: noteI (itN f (m + 2)) :: noteI (itN f (m + 3)) :: (itsN f k).drop (m + 4)⟩
theorem drop_mem {f : Int} {k m : Nat} {x : ItR} (h : x ∈ (itsN f k).drop m) : ∃ j : Nat, x = itN f j := itsN_mem (List.mem_of_mem_drop h)
theorem cum_0 (f : Int) (k : Nat) : cumQ ⟨u32 (f + k), [], itsN f k⟩ = u32 (f - 1) := by
  unfold cumQ u32
  simp only [List.length_nil, itsN_len]
  omega
theorem cum_l {f : Int} {k m : Nat} {l : List ItR} (h : m + l.length = k) : cumQ ⟨u32 (f + k), [], l⟩ = u32 (u32 (f + m) - 1) := by
  unfold cumQ u32
  simp only [List.length_nil]
  omega
theorem told_at {f : Int} (hf : 0 ≤ f ∧ f ≤ 4294967295) {k m : Nat} (hk : k ≤ 256) (h : m + 5 ≤ k) :
    (toldQ f k (u32 (u32 (f + m) - 1)) 0 = sentQ f k ∧ toldQ f k (u32 (u32 (f + m) - 1)) 1 = told1 f k m ∧ toldQ f k (u32 (u32 (f + m) - 1)) 2 = told2 f k m ∧ toldQ f k (u32 (u32 (f + m) - 1)) 3 = told3 f k m) ∧
    ∀ i : Nat, i < 3 → (heardQ (toldQ f k (u32 (u32 (f + m) - 1)) i) (gapH (u32 (u32 (f + m) - 1)) ((i : Int) + 2))).e = 0 ∧ (heardQ (toldQ f k (u32 (u32 (f + m) - 1)) i) (gapH (u32 (u32 (f + m) - 1)) ((i : Int) + 2))).fast = if i = 2 then [0] else [] := by
  have hR : ∀ x ∈ (itsN f k).drop (m + 4), x.heard = false := fun x hx => by
    obtain ⟨j, rfl⟩ := drop_mem hx
    rfl
  have hd : m + 4 + ((itsN f k).drop (m + 4)).length = k := by
    rw [List.length_drop, itsN_len]
    omega
  have h0 := hst_0 (n := u32 (f + k)) (l := itsN f k) (h := gapH (u32 (u32 (f + m) - 1)) 2) (a := itN f m) (b := itN f (m + 1)) (c := itN f (m + 2)) (d := itN f (m + 3)) (R := (itsN f k).drop (m + 4)) rfl
    (by
      unfold inQ
      rw [cum_0, decide_eq_true_eq]
      show u32 (u32 (u32 (f + m) - 1) - u32 (f - 1)) ≤ u32 (u32 (u32 (f - 1) + ((itsN f k).length : Int)) - u32 (f - 1))
      rw [itsN_len]
      unfold u32
      omega)
    (by
      have : doneQ ⟨u32 (f + k), [], itsN f k⟩ (gapH (u32 (u32 (f + m) - 1)) 2) = m := by
        unfold doneQ
        rw [cum_0]
        show (u32 (u32 (u32 (f + m) - 1) - u32 (f - 1))).toNat = m
        unfold u32
        omega
      rw [this, itsN_drop h])
    ⟨rfl, rfl, rfl⟩ rfl rfl hR
  have zz (c : Int) : u32 (c - c) = 0 := by unfold u32; omega
  have inl {l : List ItR} (hl : m + l.length = k) (g : Int) : inQ ⟨u32 (f + k), [], l⟩ (gapH (u32 (u32 (f + m) - 1)) g) = true := by
    unfold inQ
    rw [cum_l hl, decide_eq_true_eq]
    show u32 (u32 (u32 (f + m) - 1) - u32 (u32 (f + m) - 1)) ≤ _
    rw [zz]
    exact (u32_lo _).1
  have dl {l : List ItR} (hl : m + l.length = k) (g : Int) : l.drop (doneQ ⟨u32 (f + k), [], l⟩ (gapH (u32 (u32 (f + m) - 1)) g)) = l := by
    unfold doneQ
    rw [cum_l hl]
    show l.drop (u32 (u32 (u32 (f + m) - 1) - u32 (u32 (f + m) - 1))).toNat = l
    rw [zz]
    rfl
  have l1 : m + (told1 f k m).out.length = k := by simp only [told1, List.length_cons]; omega
  have l2 : m + (told2 f k m).out.length = k := by simp only [told2, List.length_cons]; omega
  have h1 := hst_1 (n := u32 (f + k)) (l := (told1 f k m).out) (h := gapH (u32 (u32 (f + m) - 1)) 3) rfl (inl l1 _) (dl l1 _) ⟨rfl, rfl, rfl⟩ rfl hR
  have h2 := hst_2 (n := u32 (f + k)) (l := (told2 f k m).out) (h := gapH (u32 (u32 (f + m) - 1)) 4) rfl (inl l2 _) (dl l2 _) ⟨rfl, rfl, rfl⟩ hR
  have t0 : toldQ f k (u32 (u32 (f + m) - 1)) 0 = ⟨u32 (f + k), [], itsN f k⟩ := sentQ_eq hf k hk
  have t1 : toldQ f k (u32 (u32 (f + m) - 1)) 1 = told1 f k m := by
    show (heardQ (toldQ f k (u32 (u32 (f + m) - 1)) 0) (gapH (u32 (u32 (f + m) - 1)) 2)).q = _
    rw [t0, h0]
    rfl
  have t2 : toldQ f k (u32 (u32 (f + m) - 1)) 2 = told2 f k m := by
    show (heardQ (toldQ f k (u32 (u32 (f + m) - 1)) 1) (gapH (u32 (u32 (f + m) - 1)) 3)).q = _
    rw [t1]
    exact congrArg HdR.q h1
  have t3 : toldQ f k (u32 (u32 (f + m) - 1)) 3 = told3 f k m := by
    show (heardQ (toldQ f k (u32 (u32 (f + m) - 1)) 2) (gapH (u32 (u32 (f + m) - 1)) 4)).q = _
    rw [t2]
    exact congrArg HdR.q h2
  refine ⟨⟨rfl, t1, t2, t3⟩, fun i hi => ?_⟩
  match i, hi with
  | 0, _ =>
    rw [t0]
    exact ⟨congrArg HdR.e h0, congrArg HdR.fast h0⟩
  | 1, _ =>
    rw [t1]
    exact ⟨congrArg HdR.e h1, congrArg HdR.fast h1⟩
  | 2, _ =>
    rw [t2]
    exact ⟨congrArg HdR.e h2, congrArg HdR.fast h2⟩
theorem okQ_list {n : Int} (hn : 0 ≤ n ∧ n ≤ 4294967295) {l : List ItR} (hl : l.length ≤ 256) (h : ∀ x ∈ l, okIt x) : okQ ⟨n, [], l⟩ := ⟨hn, by simp only [List.length_nil]; omega, fun p hp => absurd hp (by simp), h⟩
theorem told_ok {f : Int} (hf : 0 ≤ f ∧ f ≤ 4294967295) {k m : Nat} (hk : k ≤ 256) (h : m + 5 ≤ k) (i : Nat) (hi : i ≤ 3) : okQ (toldQ f k (u32 (u32 (f + m) - 1)) i) ∧ oneP (toldQ f k (u32 (u32 (f + m) - 1)) i) := by
  obtain ⟨⟨t0, t1, t2, t3⟩, _⟩ := told_at hf hk h
  have hd : m + 4 + ((itsN f k).drop (m + 4)).length = k := by
    rw [List.length_drop, itsN_len]
    omega
  have okN (j : Nat) : okIt (itN f j) := ⟨by simp [itN], Int.le_refl _, by simp [itN]⟩
  have hR (x : ItR) (hx : x ∈ (itsN f k).drop (m + 4)) : okIt x ∧ x.path = 0 := by
    obtain ⟨j, rfl⟩ := drop_mem hx
    exact ⟨okN j, rfl⟩
  match i, hi with
  | 0, _ =>
    rw [t0, sentQ_eq hf k hk]
    refine ⟨okQ_its hk (u32_lo _), fun x hx => ?_⟩
    obtain ⟨j, rfl⟩ := itsN_mem hx
    rfl
  | 1, _ =>
    rw [t1]
    refine ⟨okQ_list (u32_lo _) (by simp only [List.length_cons]; omega) fun x hx => ?_, fun x hx => ?_⟩
    · simp only [List.mem_cons] at hx
      rcases hx with rfl | rfl | rfl | rfl | hx
      · exact ⟨by simp [itN], show (0 : Int) ≤ 1 by decide, show (1 : Int) ≤ 2 by decide⟩
      · exact ⟨by simp [itN, noteI], by simp [itN, noteI], by simp [itN, noteI]⟩
      · exact okN _
      · exact okN _
      · exact (hR x hx).1
    · simp only [told1, List.mem_cons] at hx
      rcases hx with rfl | rfl | rfl | rfl | hx
      · rfl
      · rfl
      · rfl
      · rfl
      · exact (hR x hx).2
  | 2, _ =>
    rw [t2]
    refine ⟨okQ_list (u32_lo _) (by simp only [List.length_cons]; omega) fun x hx => ?_, fun x hx => ?_⟩
    · simp only [List.mem_cons] at hx
      rcases hx with rfl | rfl | rfl | rfl | hx
      · exact ⟨by simp [itN], show (0 : Int) ≤ 2 by decide, show (2 : Int) ≤ 2 by decide⟩
      · exact ⟨by simp [itN, noteI], by simp [itN, noteI], by simp [itN, noteI]⟩
      · exact ⟨by simp [itN, noteI], by simp [itN, noteI], by simp [itN, noteI]⟩
      · exact okN _
      · exact (hR x hx).1
    · simp only [told2, List.mem_cons] at hx
      rcases hx with rfl | rfl | rfl | rfl | hx
      · rfl
      · rfl
      · rfl
      · rfl
      · exact (hR x hx).2
  | 3, _ =>
    rw [t3]
    refine ⟨okQ_list (u32_lo _) (by simp only [List.length_cons]; omega) fun x hx => ?_, fun x hx => ?_⟩
    · simp only [List.mem_cons] at hx
      rcases hx with rfl | rfl | rfl | rfl | hx
      · exact ⟨by simp [itN], show (0 : Int) ≤ 0 by decide, show (0 : Int) ≤ 2 by decide⟩
      · exact ⟨by simp [itN, noteI], by simp [itN, noteI], by simp [itN, noteI]⟩
      · exact ⟨by simp [itN, noteI], by simp [itN, noteI], by simp [itN, noteI]⟩
      · exact ⟨by simp [itN, noteI], by simp [itN, noteI], by simp [itN, noteI]⟩
      · exact (hR x hx).1
    · simp only [told3, List.mem_cons] at hx
      rcases hx with rfl | rfl | rfl | rfl | hx
      · rfl
      · rfl
      · rfl
      · rfl
      · exact (hR x hx).2
theorem okQ_told4 {f : Int} {k m : Nat} (hk : k ≤ 256) (h : m + 5 ≤ k) : okQ (told4 f k m) := by
  have hd : m + 4 + ((itsN f k).drop (m + 4)).length = k := by
    rw [List.length_drop, itsN_len]
    omega
  refine okQ_list (u32_lo _) (by simp only [List.length_cons]; omega) fun x hx => ?_
  simp only [List.mem_cons] at hx
  rcases hx with rfl | rfl | rfl | rfl | hx
  · exact ⟨by simp [itN], Int.le_refl _, by simp [itN]⟩
  · exact ⟨by simp [itN, noteI], by simp [itN, noteI], by simp [itN, noteI]⟩
  · exact ⟨by simp [itN, noteI], by simp [itN, noteI], by simp [itN, noteI]⟩
  · exact ⟨by simp [itN, noteI], by simp [itN, noteI], by simp [itN, noteI]⟩
  · obtain ⟨j, rfl⟩ := drop_mem hx
    exact ⟨by simp [itN], Int.le_refl _, by simp [itN]⟩
theorem next_told3 (f : Int) (k m : Nat) : nextQ (told3 f k m) 1 = (told4 f k m, ⟨u32 (f + m), 0, 0, false, false, false, [7]⟩, true) := by
  have : markQ (told3 f k m).out = some 0 := by
    simp [markQ, told3, List.findIdx?_cons]
  unfold nextQ
  rw [this]
  rfl
theorem next_told4 (f : Int) (k m : Nat) : nextQ (told4 f k m) 1 = (told4 f k m, noPie, false) := by
  have h : markQ ((itsN f k).drop (m + 4)) = none := by
    unfold markQ
    rw [List.findIdx?_eq_none_iff]
    intro x hx
    obtain ⟨j, rfl⟩ := drop_mem hx
    rfl
  refine nextQ_nil ?_ rfl
  unfold markQ at *
  rw [List.findIdx?_eq_none_iff] at *
  intro x hx
  simp only [told4, List.mem_cons] at hx
  rcases hx with rfl | rfl | rfl | rfl | hx
  · rfl
  · rfl
  · rfl
  · rfl
  · exact h x hx
end Go.ZM

namespace Go.ZR
open Go.Proofs
open Go.Z Go.ZM Go.RowKit
set_option maxRecDepth 100000
noncomputable def code38 : Code := match Try.f38.body with | some c => c | none => .skip
set_option maxHeartbeats 4000000 in
theorem vc38 : (∃ (f : Int), [O.d (D.v (Value.int IntKind.u32 (5 : Int)))] = [O.d (D.v (Value.int IntKind.u32 f))]) ∧ ∀ (bs : List Nat), bs.length = (newQ (5 : Int)).out.length →
  (∃ (bs_1 : List Nat), ∃ (q : QuR), ∃ (p : PieR), [O.ptr (166 : Nat) [O.d (D.v (Value.int IntKind.u32 (newQ (5 : Int)).next)), O.own (86 : Nat) (D.recs (7 : Nat) (newQ (5 : Int)).wait.length (pieCell (newQ (5 : Int)).wait)), O.pown (169 : Nat) (171 : Nat) (11 : Nat) (some bs) (newQ (5 : Int)).out.length (itCell (newQ (5 : Int)).out)], O.agg [O.d (D.v (Value.int IntKind.u32 (0 : Int))), O.d (D.v (Value.int IntKind.u16 (0 : Int))), O.d (D.v (Value.int IntKind.u16 (0 : Int))), O.d (D.v (Value.bool false)), O.d (D.v (Value.bool false)), O.d (D.v (Value.bool false)), O.d (D.ints IntKind.u8 [(1 : Int)])]] = [O.ptr (166 : Nat) [O.d (D.v (Value.int IntKind.u32 q.next)), O.own (86 : Nat) (D.recs (7 : Nat) q.wait.length (pieCell q.wait)), O.pown (169 : Nat) (171 : Nat) (11 : Nat) (some bs_1) q.out.length (itCell q.out)], O.agg [O.d (D.v (Value.int IntKind.u32 p.tsn)), O.d (D.v (Value.int IntKind.u16 p.str)), O.d (D.v (Value.int IntKind.u16 p.seq)), O.d (D.v (Value.bool p.b)), O.d (D.v (Value.bool p.e)), O.d (D.v (Value.bool p.u)), O.d (D.ints IntKind.u8 p.bytes)]] ∧
  okQ q ∧ sm p.bytes.length) ∧ ∀ (bs_1 : List Nat), bs_1.length = (itsOf (newQ (5 : Int)).out.length (itCell (newQ (5 : Int)).out)).length → True ∧ SV.c (Value.int IntKind.u32 (newQ (5 : Int)).next) = SV.c (Value.int IntKind.u32 (newQ (5 : Int)).next) ∧
  ([decide ((0 : Int) = (0 : Int))] = [decide ((0 : Int) = (0 : Int))] ∧ True ∧ SV.c (Value.bool (decide ((newQ (5 : Int)).next = (5 : Int)))) = SV.c (Value.bool (decide ((newQ (5 : Int)).next = (5 : Int))))) ∧
  [decide ((0 : Int) = (0 : Int))] = [decide ((0 : Int) = (0 : Int))] ∧ SV.p (2 : Nat) (0 : Nat) = SV.p (2 : Nat) (0 : Nat) ∧ ([decide ((0 : Int) = (0 : Int)) && decide ((newQ (5 : Int)).next = (5 : Int))] = [decide ((0 : Int) = (0 : Int)) && decide ((newQ (5 : Int)).next = (5 : Int))] ∧
  (∃ (n : Int), ∃ (w : List PieR), ∃ (l : List ItR), [O.d (D.ptr (166 : Nat) [D.v (Value.int IntKind.u32 (u32 ((newQ (5 : Int)).next + (1 : Int)))), D.recs (7 : Nat) (piesOf (D.recs (7 : Nat) (newQ (5 : Int)).wait.length (pieCell (newQ (5 : Int)).wait)) ++ [PieR.mk (newQ (5 : Int)).next (0 : Int) (0 : Int) false false false [(1 : Int)]]).length (pieCell (piesOf (D.recs (7 : Nat) (newQ (5 : Int)).wait.length (pieCell (newQ (5 : Int)).wait)) ++ [PieR.mk (newQ (5 : Int)).next (0 : Int) (0 : Int) false false false [(1 : Int)]])), D.recs (1 : Nat) (itsOf (newQ (5 : Int)).out.length (itCell (newQ (5 : Int)).out)).length fun (i _x : Nat) => D.ptr (171 : Nat) (11 : Nat) (itCell (itsOf (newQ (5 : Int)).out.length (itCell (newQ (5 : Int)).out)) i)].length fun (i : Nat) => [D.v (Value.int IntKind.u32 (u32 ((newQ (5 : Int)).next + (1 : Int)))), D.recs (7 : Nat) (piesOf (D.recs (7 : Nat) (newQ (5 : Int)).wait.length (pieCell (newQ (5 : Int)).wait)) ++ [PieR.mk (newQ (5 : Int)).next (0 : Int) (0 : Int) false false false [(1 : Int)]]).length (pieCell (piesOf (D.recs (7 : Nat) (newQ (5 : Int)).wait.length (pieCell (newQ (5 : Int)).wait)) ++ [PieR.mk (newQ (5 : Int)).next (0 : Int) (0 : Int) false false false [(1 : Int)]])), D.recs (1 : Nat) (itsOf (newQ (5 : Int)).out.length (itCell (newQ (5 : Int)).out)).length fun (i _x : Nat) => D.ptr (171 : Nat) (11 : Nat) (itCell (itsOf (newQ (5 : Int)).out.length (itCell (newQ (5 : Int)).out)) i)].getD i (D.v undef))] = [O.d (D.ptr (166 : Nat) [D.v (Value.int IntKind.u32 n), D.recs (7 : Nat) w.length (pieCell w), D.recs (1 : Nat) l.length fun (i _x : Nat) => D.ptr (171 : Nat) (11 : Nat) (itCell l i)].length fun (i : Nat) => [D.v (Value.int IntKind.u32 n), D.recs (7 : Nat) w.length (pieCell w), D.recs (1 : Nat) l.length fun (i _x : Nat) => D.ptr (171 : Nat) (11 : Nat) (itCell l i)].getD i (D.v undef))] ∧
  w.length + l.length ≤ (256 : Nat)) ∧ SV.c (Value.int IntKind.u32 (cumQ (QuR.mk (u32 ((newQ (5 : Int)).next + (1 : Int))) (piesOf ([D.v (Value.int IntKind.u32 (u32 ((newQ (5 : Int)).next + (1 : Int)))), D.recs (7 : Nat) (piesOf (D.recs (7 : Nat) (newQ (5 : Int)).wait.length (pieCell (newQ (5 : Int)).wait)) ++ [PieR.mk (newQ (5 : Int)).next (0 : Int) (0 : Int) false false false [(1 : Int)]]).length (pieCell (piesOf (D.recs (7 : Nat) (newQ (5 : Int)).wait.length (pieCell (newQ (5 : Int)).wait)) ++ [PieR.mk (newQ (5 : Int)).next (0 : Int) (0 : Int) false false false [(1 : Int)]])), D.recs (1 : Nat) (itsOf (newQ (5 : Int)).out.length (itCell (newQ (5 : Int)).out)).length fun (i _x : Nat) => D.ptr (171 : Nat) (11 : Nat) (itCell (itsOf (newQ (5 : Int)).out.length (itCell (newQ (5 : Int)).out)) i)].getD (1 : Nat) (D.v undef))) []))) = SV.c (Value.int IntKind.u32 (cumQ (QuR.mk (u32 ((newQ (5 : Int)).next + (1 : Int))) (piesOf ([D.v (Value.int IntKind.u32 (u32 ((newQ (5 : Int)).next + (1 : Int)))), D.recs (7 : Nat) (piesOf (D.recs (7 : Nat) (newQ (5 : Int)).wait.length (pieCell (newQ (5 : Int)).wait)) ++ [PieR.mk (newQ (5 : Int)).next (0 : Int) (0 : Int) false false false [(1 : Int)]]).length (pieCell (piesOf (D.recs (7 : Nat) (newQ (5 : Int)).wait.length (pieCell (newQ (5 : Int)).wait)) ++ [PieR.mk (newQ (5 : Int)).next (0 : Int) (0 : Int) false false false [(1 : Int)]])), D.recs (1 : Nat) (itsOf (newQ (5 : Int)).out.length (itCell (newQ (5 : Int)).out)).length fun (i _x : Nat) => D.ptr (171 : Nat) (11 : Nat) (itCell (itsOf (newQ (5 : Int)).out.length (itCell (newQ (5 : Int)).out)) i)].getD (1 : Nat) (D.v undef))) [])))) ∧
  ([decide ((0 : Int) = (0 : Int)) && decide ((newQ (5 : Int)).next = (5 : Int))] = [decide ((0 : Int) = (0 : Int)) && decide ((newQ (5 : Int)).next = (5 : Int))] ∧
  True ∧ SV.c (Value.bool (decide (cumQ (QuR.mk (u32 ((newQ (5 : Int)).next + (1 : Int))) (piesOf ([D.v (Value.int IntKind.u32 (u32 ((newQ (5 : Int)).next + (1 : Int)))), D.recs (7 : Nat) (piesOf (D.recs (7 : Nat) (newQ (5 : Int)).wait.length (pieCell (newQ (5 : Int)).wait)) ++ [PieR.mk (newQ (5 : Int)).next (0 : Int) (0 : Int) false false false [(1 : Int)]]).length (pieCell (piesOf (D.recs (7 : Nat) (newQ (5 : Int)).wait.length (pieCell (newQ (5 : Int)).wait)) ++ [PieR.mk (newQ (5 : Int)).next (0 : Int) (0 : Int) false false false [(1 : Int)]])), D.recs (1 : Nat) (itsOf (newQ (5 : Int)).out.length (itCell (newQ (5 : Int)).out)).length fun (i _x : Nat) => D.ptr (171 : Nat) (11 : Nat) (itCell (itsOf (newQ (5 : Int)).out.length (itCell (newQ (5 : Int)).out)) i)].getD (1 : Nat) (D.v undef))) []) = (4 : Int)))) = SV.c (Value.bool (decide (cumQ (QuR.mk (u32 ((newQ (5 : Int)).next + (1 : Int))) (piesOf ([D.v (Value.int IntKind.u32 (u32 ((newQ (5 : Int)).next + (1 : Int)))), D.recs (7 : Nat) (piesOf (D.recs (7 : Nat) (newQ (5 : Int)).wait.length (pieCell (newQ (5 : Int)).wait)) ++ [PieR.mk (newQ (5 : Int)).next (0 : Int) (0 : Int) false false false [(1 : Int)]]).length (pieCell (piesOf (D.recs (7 : Nat) (newQ (5 : Int)).wait.length (pieCell (newQ (5 : Int)).wait)) ++ [PieR.mk (newQ (5 : Int)).next (0 : Int) (0 : Int) false false false [(1 : Int)]])), D.recs (1 : Nat) (itsOf (newQ (5 : Int)).out.length (itCell (newQ (5 : Int)).out)).length fun (i _x : Nat) => D.ptr (171 : Nat) (11 : Nat) (itCell (itsOf (newQ (5 : Int)).out.length (itCell (newQ (5 : Int)).out)) i)].getD (1 : Nat) (D.v undef))) []) = (4 : Int))))) ∧
  [decide ((0 : Int) = (0 : Int)) && decide ((newQ (5 : Int)).next = (5 : Int))] = [decide ((0 : Int) = (0 : Int)) && decide ((newQ (5 : Int)).next = (5 : Int))] ∧
  (decide ((0 : Int) = (0 : Int)) && decide ((newQ (5 : Int)).next = (5 : Int)) && decide (cumQ (QuR.mk (u32 ((newQ (5 : Int)).next + (1 : Int))) (piesOf ([D.v (Value.int IntKind.u32 (u32 ((newQ (5 : Int)).next + (1 : Int)))), D.recs (7 : Nat) (piesOf (D.recs (7 : Nat) (newQ (5 : Int)).wait.length (pieCell (newQ (5 : Int)).wait)) ++ [PieR.mk (newQ (5 : Int)).next (0 : Int) (0 : Int) false false false [(1 : Int)]]).length (pieCell (piesOf (D.recs (7 : Nat) (newQ (5 : Int)).wait.length (pieCell (newQ (5 : Int)).wait)) ++ [PieR.mk (newQ (5 : Int)).next (0 : Int) (0 : Int) false false false [(1 : Int)]])), D.recs (1 : Nat) (itsOf (newQ (5 : Int)).out.length (itCell (newQ (5 : Int)).out)).length fun (i _x : Nat) => D.ptr (171 : Nat) (11 : Nat) (itCell (itsOf (newQ (5 : Int)).out.length (itCell (newQ (5 : Int)).out)) i)].getD (1 : Nat) (D.v undef))) []) = (4 : Int))) = true ∧
  (true && true) = true := by
  simp only [↓Bool.and_eq_true, ↓decide_eq_true_eq, true_and, and_true, List.getD_cons_succ, List.getD_cons_zero, Nat.zero_add, List.length_cons, List.length_nil, List.length_append, piesOf_pies, itsOf_its]
  refine ⟨⟨_, rfl⟩, fun bs _ => ⟨⟨bs, newQ 5, pc1 1, rfl, okQ_new (by decide), by unfold sm; decide⟩, fun bs1 _ => ⟨⟨_, [{ pc1 1 with tsn := 5 }], [], rfl, by decide⟩, rfl, ?_⟩⟩⟩
  decide
set_option maxRecDepth 100000 in
theorem ok38 : FnIs Try.prog 38 ansQC := by
  refine fnIs (C := (ctrs n4)) (by kernel_rfl) n4_ok Try.func38 (code := code38) (by kernel_rfl) (by kernel_rfl) ?_
  rintro a rfl
  exact ⟨anns [], kcast (vc38) (by kernel_rfl)⟩

theorem n5_ok : COk Try.prog (ctrs n5) := cok_cons ok38 n4_ok
end Go.ZR
