/- Part 32 of what the closing text rests on. -/
import Derived.Test.YtlbfenfepmmihaaI31
import Derived.KernelRfl
set_option maxRecDepth 100000
namespace Go.ZM
open Go.Z Go.ZR
def nHel (n s : Int) (b : List Int) : HelR := ⟨n, 9000, 8, 8, s, b⟩
def helC (n s : Int) : ChR := (fromHel (nHel n s []) false).1
def ackC (n s : Int) (b : List Int) : ChR := (fromHel (nHel n s b) true).1
def crN (w n m s t : Int) : CruR := ⟨w, n, m, s, t, 9000, 0, 0⟩
structure Sd (k z n s m t : Int) (a : AsR) : Prop where
  key : a.key = k
  win : a.win = 9000
  life : a.life = 200
  st : a.st = z
  mt : a.mt = n
  ms : a.ms = s
  pt : a.pt = m
  ps : a.ps = t
  set : z = 0 ∨ z = 3 → a.set = false
theorem hel_okH {n s : Int} {b : List Int} (hn : okU n) (hs : okU s) (hb : okB b) (hl : b.length ≤ 40) : okHel (nHel n s b) := hel_ok8 hn (by unfold okU; omega) hs hb hl
theorem hel_zero {n s : Int} (h0 : n ≠ 0) : (fromHel (nHel n s []) false).2 = 0 := by
  unfold fromHel
  rw [if_neg (by simp [greetF, nHel, h0]), if_neg (by simp [nHel])]
  rfl
theorem ack_zero {n s : Int} {b : List Int} (h0 : n ≠ 0) (hl : b.length ≤ 40) : (fromHel (nHel n s b) true).2 = 0 := by
  unfold fromHel
  rw [if_neg (by simp [greetF, nHel, h0]), if_neg (by simp only [nHel]; omega)]
  rfl
theorem helC_t {n s : Int} (h0 : n ≠ 0) : (helC n s).t = 1 := fromHel_t (hel_zero h0)
theorem ackC_t {n s : Int} {b : List Int} (h0 : n ≠ 0) (hl : b.length ≤ 40) : (ackC n s b).t = 2 := fromHel_t (ack_zero h0 hl)
theorem helC_to {n s : Int} (hn : okU n) (hs : okU s) (h0 : n ≠ 0) : toHel (helC n s) = (nHel n s [], 0) := toHel_made (hel_okH hn hs okB_nil (by simp)) (hel_zero h0)
theorem ackC_to {n s : Int} {b : List Int} (hn : okU n) (hs : okU s) (h0 : n ≠ 0) (hb : okB b) (hl : b.length ≤ 40) : toHel (ackC n s b) = (nHel n s b, 0) := toHel_made (hel_okH hn hs hb hl) (ack_zero h0 hl)
def okW (w : Int) : Prop := 0 ≤ w ∧ w ≤ 1000000
theorem crN_sound {w n m s t : Int} (hw : okW w) (hn : n ≠ 0) (hm : m ≠ 0) : soundF (crN w n m s t) = true := by
  unfold okW at hw
  have h1 : decide (0 ≤ w) = true := decide_eq_true hw.1
  have h2 : decide (w ≤ 1099511627776) = true := decide_eq_true (by omega)
  have h3 : decide (n = 0) = false := decide_eq_false hn
  have h4 : decide (m = 0) = false := decide_eq_false hm
  show (decide (0 ≤ w) && decide (w ≤ 1099511627776) && !decide (n = 0) && !decide (m = 0)) = true
  rw [h1, h2, h3, h4]
  rfl
theorem crN_ok {w n m s t : Int} (hw : okW w) (hn : okU n) (hm : okU m) (hs : okU s) (ht : okU t) : okCru (crN w n m s t) := by
  unfold okW at hw
  exact cru_ok (by unfold okNow; omega) hn hm hs ht (by unfold okU; omega) okU0 okU0
theorem crN_open {k w n m s t : Int} (hw : okW w) (hn : okU n) (hm : okU m) (hs : okU s) (ht : okU t) (n0 : n ≠ 0) (m0 : m ≠ 0) : openF k (sealB k (crN w n m s t)) = (crN w n m s t, 0) :=
  open_seal (crN_ok hw hn hm hs ht) (crN_sound hw n0 m0)
theorem fresh_now {w : Int} : freshF w w 200 = true := by
  simp [freshF]
theorem recv_init0 {k n s w d : Int} {a : AsR} (h : Sd k 0 0 0 0 0 a) (hw : okW w) (hn : okU n) (hs : okU s) (n0 : n ≠ 0) (d0 : d ≠ 0) :
    recvA a 0 (helC n s) w d = (a, ⟨[⟨n, ackC d (4294967295 - d) (sealB k (crN w d n (4294967295 - d) s))⟩], []⟩) := by
  have e1 : crumbA a (nHel n s []) w d = crN w d n (4294967295 - d) s := by
    have a1 : numT a d = d := by
      unfold numT drawT
      rw [h.st, if_neg (by decide), if_neg d0]
    have a2 : numS a d = 4294967295 - d := by
      unfold numS
      rw [h.st, if_neg (by decide)]
    unfold crumbA
    rw [a1, a2, h.st, if_neg (by decide), if_neg (by decide)]
    rfl
  have e2 : sealF k (crN w d n (4294967295 - d) s) = (sealB k (crN w d n (4294967295 - d) s), 0) := by
    unfold sealF
    rw [if_pos (crN_sound hw d0 n0)]
  have a1 : numT a d = d := by
    unfold numT drawT
    rw [h.st, if_neg (by decide), if_neg d0]
  have a2 : numS a d = 4294967295 - d := by
    unfold numS
    rw [h.st, if_neg (by decide)]
  unfold recvA
  rw [if_pos (helC_t n0), helC_to hn hs n0, if_pos ⟨rfl, rfl⟩]
  unfold calledA
  rw [if_neg (by rw [h.st]; decide), e1, h.key, e2, if_pos rfl, a1, a2]
  unfold ackA
  rw [h.win]
  rfl
theorem recv_init1 {k n s m t w d : Int} {a : AsR} (h : Sd k 1 n s 0 0 a) (hw : okW w) (hm : okU m) (ht : okU t) (n0 : n ≠ 0) (m0 : m ≠ 0) :
    recvA a 0 (helC m t) w d = (a, ⟨[⟨m, ackC n s (sealB k (crN w n m s t))⟩], []⟩) := by
  have a1 : numT a d = n := by
    unfold numT
    rw [if_pos (.inl h.st), h.mt]
  have a2 : numS a d = s := by
    unfold numS
    rw [if_pos (.inl h.st), h.ms]
  have e1 : crumbA a (nHel m t []) w d = crN w n m s t := by
    unfold crumbA
    rw [a1, a2, h.st, if_neg (by decide), if_neg (by decide)]
    rfl
  have e2 : sealF k (crN w n m s t) = (sealB k (crN w n m s t), 0) := by
    unfold sealF
    rw [if_pos (crN_sound hw n0 m0)]
  unfold recvA
  rw [if_pos (helC_t m0), helC_to hm ht m0, if_pos ⟨rfl, rfl⟩]
  unfold calledA
  rw [if_neg (by rw [h.st]; decide), e1, h.key, e2, if_pos rfl, a1, a2]
  unfold ackA
  rw [h.win]
  rfl
theorem recv_ack {k n s m t w d : Int} {b : List Int} {a : AsR} (h : Sd k 1 n s 0 0 a) (hm : okU m) (ht : okU t) (m0 : m ≠ 0) (hb : okB b) (hl : b.length ≤ 40) :
    Sd k 2 n s m t (recvA a n (ackC m t b) w d).1 ∧ (recvA a n (ackC m t b) w d).2.pk = [⟨m, ⟨10, 0, b⟩⟩] := by
  have e : recvA a n (ackC m t b) w d = waitA { a with st := 2, pt := m, ps := t } m ⟨10, 0, b⟩ w := by
    unfold recvA
    rw [if_neg (by rw [ackC_t m0 hl]; decide), if_pos (ackC_t m0 hl), ackC_to hm ht m0 hb hl, if_pos ⟨rfl, ⟨by rw [h.st]; decide, h.mt.symm⟩, h.st⟩]
    rfl
  rw [e]
  exact ⟨⟨h.key, h.win, h.life, rfl, h.mt, h.ms, rfl, rfl, fun g => by omega⟩, rfl⟩
theorem take_sd {k : Int} {a : AsR} (hk : a.key = k) (hw : a.win = 9000) (hl : a.life = 200) (w n m s t ev : Int) : Sd k 3 n s m t (takeA a (crN w n m s t) ev).1 ∧ (takeA a (crN w n m s t) ev).2.pk = [⟨m, bareC 11⟩] :=
  ⟨⟨hk, hw, hl, rfl, rfl, rfl, rfl, rfl, fun _ => rfl⟩, rfl⟩
theorem recv_echo0 {k n s m t w d : Int} {a : AsR} (h : Sd k 0 0 0 0 0 a) (hw : okW w) (hn : okU n) (hs : okU s) (n0 : n ≠ 0) (hm : okU m) (ht : okU t) (m0 : m ≠ 0) :
    Sd k 3 m t n s (recvA a m ⟨10, 0, sealB k (crN w m n t s)⟩ w d).1 ∧ (recvA a m ⟨10, 0, sealB k (crN w m n t s)⟩ w d).2.pk = [⟨n, bareC 11⟩] := by
  have e : recvA a m ⟨10, 0, sealB k (crN w m n t s)⟩ w d = takeA a (crN w m n t s) 1 := by
    unfold recvA
    rw [if_neg (show ¬ (10 : Int) = 1 by decide), if_neg (show ¬ (10 : Int) = 2 by decide), if_pos rfl, h.key, crN_open hw hm hn ht hs m0 n0, if_pos ⟨rfl, rfl⟩]
    unfold echoedA
    rw [h.life, if_neg (by rw [show (crN w m n t s).time = w from rfl, fresh_now]; decide), if_pos h.st]
  rw [e]
  exact take_sd h.key h.win h.life w m n t s 1
theorem recv_echo2 {k n s m t w d : Int} {a : AsR} (h : Sd k 2 n s m t a) (hw : okW w) (hn : okU n) (hs : okU s) (n0 : n ≠ 0) (hm : okU m) (ht : okU t) (m0 : m ≠ 0) :
    Sd k 3 n s m t (recvA a n ⟨10, 0, sealB k (crN w n m s t)⟩ w d).1 ∧ (recvA a n ⟨10, 0, sealB k (crN w n m s t)⟩ w d).2.pk = [⟨m, bareC 11⟩] := by
  have e : recvA a n ⟨10, 0, sealB k (crN w n m s t)⟩ w d = takeA a (crN w n m s t) 1 := by
    unfold recvA
    rw [if_neg (show ¬ (10 : Int) = 1 by decide), if_neg (show ¬ (10 : Int) = 2 by decide), if_pos rfl, h.key, crN_open hw hn hm hs ht n0 m0, if_pos ⟨rfl, rfl⟩]
    unfold echoedA
    rw [h.life, if_neg (by rw [show (crN w n m s t).time = w from rfl, fresh_now]; decide), if_neg (by rw [h.st]; decide), if_neg (by rw [h.st]; decide),
      if_neg (fun g => g.1 h.mt.symm), if_pos ⟨h.mt.symm, .inr (.inr h.st)⟩, if_pos (.inr h.st)]
  rw [e]
  exact take_sd h.key h.win h.life w n m s t 1
theorem recv_cack2 {k n s m t w d : Int} {a : AsR} (h : Sd k 2 n s m t a) :
    Sd k 3 n s m t (recvA a n (bareC 11) w d).1 ∧ (recvA a n (bareC 11) w d).2.pk = [] := by
  have e : recvA a n (bareC 11) w d = ({ stillA a with st := 3 }, ⟨[], [1]⟩) := by
    unfold recvA
    rw [if_neg (by decide), if_neg (by decide), if_neg (by decide), if_pos (show (bareC 11).t = 11 from rfl), if_pos ⟨⟨by rw [h.st]; decide, h.mt.symm⟩, h.st⟩]
  rw [e]
  exact ⟨⟨h.key, h.win, h.life, rfl, h.mt, h.ms, h.pt, h.ps, fun _ => rfl⟩, rfl⟩
theorem recv_cack3 {k n s m t w d : Int} {a : AsR} (h : Sd k 3 n s m t a) :
    Sd k 3 n s m t (recvA a n (bareC 11) w d).1 ∧ (recvA a n (bareC 11) w d).2.pk = [] := by
  have e : recvA a n (bareC 11) w d = (a, noOut) := by
    unfold recvA
    rw [if_neg (by decide), if_neg (by decide), if_neg (by decide), if_pos (show (bareC 11).t = 11 from rfl), if_neg (fun g => by have := g.2; rw [h.st] at this; omega)]
  rw [e]
  exact ⟨h, rfl⟩
theorem Sd.live {e : Nat} {k st n s m t : Int} {a : AsR} (h : Sd k st n s m t a) (h3 : st ≤ 3) (hn : st ≠ 0 → newT e n) (hm : m ≠ 0 → newT e m) : Live e k a :=
  ⟨h.key, by rw [h.st]; exact h3, fun g => by rw [h.mt]; exact hn (by rw [← h.st]; exact g), fun g => by rw [h.pt]; exact hm (by rw [← h.pt]; exact g)⟩
def co (d : Int) : Int := 4294967295 - d
theorem co_ok {d : Int} (h : okU d) : okU (co d) := okU_sub h
inductive OneP (e : Nat) (k k' w n : Int) : Nat → AsR → AsR → List LtrR → List LtrR → Prop
  | p4 {X Y : AsR} : Sd k 1 n (co n) 0 0 X → Sd k' 0 0 0 0 0 Y → OneP e k k' w n 4 X Y [] [⟨0, helC n (co n)⟩]
  | p3 {X Y : AsR} {d : Int} : newT e d → Sd k 1 n (co n) 0 0 X → Sd k' 0 0 0 0 0 Y → OneP e k k' w n 3 X Y [⟨n, ackC d (co d) (sealB k' (crN w d n (co d) (co n)))⟩] []
  | p2 {X Y : AsR} {d : Int} : newT e d → Sd k 2 n (co n) d (co d) X → Sd k' 0 0 0 0 0 Y → OneP e k k' w n 2 X Y [] [⟨d, ⟨10, 0, sealB k' (crN w d n (co d) (co n))⟩⟩]
  | p1 {X Y : AsR} {d : Int} : newT e d → Sd k 2 n (co n) d (co d) X → Sd k' 3 d (co d) n (co n) Y → OneP e k k' w n 1 X Y [⟨n, bareC 11⟩] []
  | p0 {X Y : AsR} {d : Int} : newT e d → Sd k 3 n (co n) d (co d) X → Sd k' 3 d (co d) n (co n) Y → OneP e k k' w n 0 X Y [] []
section
variable {e : Nat} {k k' w n : Int}
theorem one_stepX (he : e < 4294967296) {r : Nat} {X Y : AsR} {x : LtrR} {L M : List LtrR} {d : Int} (h : OneP e k k' w n r X Y (x :: L) M) (_hd : newT e d) :
    ∃ r', r' < r ∧ OneP e k k' w n r' (recvA X x.tag x.ch w d).1 Y L (M ++ (recvA X x.tag x.ch w d).2.pk) := by
  cases h with
  | p3 hc hX hY =>
    have u := new_okU hc
    obtain ⟨h1, h2⟩ := recv_ack (w := w) (d := d) hX u (co_ok u) (new_ne hc he) (sealB_okB k' (crN w _ n (co _) (co n))) (Nat.le_of_eq (sealB_len k' _))
    refine ⟨2, by omega, ?_⟩
    rw [show (recvA X n (ackC _ (co _) _) w d).2.pk = _ from h2]
    exact .p2 hc h1 hY
  | p1 hc hX hY =>
    obtain ⟨h1, h2⟩ := recv_cack2 (w := w) (d := d) hX
    refine ⟨0, by omega, ?_⟩
    rw [show (recvA X n (bareC 11) w d).2.pk = _ from h2]
    exact .p0 hc h1 hY
theorem one_stepY (he : e < 4294967296) (hw : okW w) (hn : newT e n) {r : Nat} {X Y : AsR} {x : LtrR} {L M : List LtrR} {d : Int} (h : OneP e k k' w n r X Y L (x :: M)) (hd : newT e d) :
    ∃ r', r' < r ∧ OneP e k k' w n r' X (recvA Y x.tag x.ch w d).1 (L ++ (recvA Y x.tag x.ch w d).2.pk) M := by
  have u := new_okU hn
  have n0 := new_ne hn he
  cases h with
  | p4 hX hY =>
    have := recv_init0 (d := d) hY hw u (co_ok u) n0 (new_ne hd he)
    refine ⟨3, by omega, ?_⟩
    rw [show recvA Y 0 (helC n (co n)) w d = _ from this]
    exact .p3 hd hX hY
  | p2 hc hX hY =>
    have v := new_okU hc
    obtain ⟨h1, h2⟩ := recv_echo0 (d := d) hY hw u (co_ok u) n0 v (co_ok v) (new_ne hc he)
    refine ⟨1, by omega, ?_⟩
    rw [show (recvA Y _ ⟨10, 0, _⟩ w d).2.pk = _ from h2]
    exact .p1 hc hX h1
theorem one_liveX (hn : newT e n) {r : Nat} {X Y : AsR} {L M : List LtrR} (h : OneP e k k' w n r X Y L M) : Live e k X := by
  cases h with
  | p4 hX hY => exact hX.live (by omega) (fun _ => hn) (fun g => absurd rfl g)
  | p3 hc hX hY => exact hX.live (by omega) (fun _ => hn) (fun g => absurd rfl g)
  | p2 hc hX hY => exact hX.live (by omega) (fun _ => hn) (fun _ => hc)
  | p1 hc hX hY => exact hX.live (by omega) (fun _ => hn) (fun _ => hc)
  | p0 hc hX hY => exact hX.live (by omega) (fun _ => hn) (fun _ => hc)
theorem one_liveY (hn : newT e n) {r : Nat} {X Y : AsR} {L M : List LtrR} (h : OneP e k k' w n r X Y L M) : Live e k' Y := by
  cases h with
  | p4 hX hY => exact hY.live (by omega) (fun g => absurd rfl g) (fun g => absurd rfl g)
  | p3 hc hX hY => exact hY.live (by omega) (fun g => absurd rfl g) (fun g => absurd rfl g)
  | p2 hc hX hY => exact hY.live (by omega) (fun g => absurd rfl g) (fun g => absurd rfl g)
  | p1 hc hX hY => exact hY.live (by omega) (fun _ => hc) (fun _ => hn)
  | p0 hc hX hY => exact hY.live (by omega) (fun _ => hc) (fun _ => hn)
theorem one_play (he : e < 4294967296) (hw : okW w) (hn : newT e n) : Play e k k' w (OneP e k k' w n) := ⟨one_liveX hn, one_liveY hn, one_stepX he, one_stepY he hw hn⟩
theorem one_play' (he : e < 4294967296) (hw : okW w) (hn : newT e n) : Play e k' k w (fun r a b L M => OneP e k k' w n r b a M L) := ⟨one_liveY hn, one_liveX hn, one_stepY he hw hn, one_stepX he⟩
end
structure Met (a b : AsR) : Prop where
  ra : a.st = 3
  rb : b.st = 3
  ma : a.mt = b.pt
  pa : a.pt = b.mt
  sa : a.ms = b.ps
  ta : a.ps = b.ms
  ua : a.set = false
  ub : b.set = false
theorem met_of {k k' n s m t : Int} {a b : AsR} (h : Sd k 3 n s m t a) (g : Sd k' 3 m t n s b) : Met a b :=
  ⟨h.st, g.st, h.mt.trans g.pt.symm, h.pt.trans g.mt.symm, h.ms.trans g.ps.symm, h.ps.trans g.ms.symm, h.set (.inr rfl), g.set (.inr rfl)⟩
theorem Met.symm {a b : AsR} (h : Met a b) : Met b a := ⟨h.rb, h.ra, h.pa.symm, h.ma.symm, h.ta.symm, h.sa.symm, h.ub, h.ua⟩
theorem one_met {e : Nat} {k k' w n : Int} {r : Nat} {X Y : AsR} (h : OneP e k k' w n r X Y [] []) : Met X Y := by
  cases h with
  | p0 hc hX hY => exact met_of hX hY
def ltB (k n k' m w : Int) : List LtrR := [⟨0, helC n (co n)⟩, ⟨m, ackC n (co n) (sealB k (crN w n m (co n) (co m)))⟩, ⟨m, ⟨10, 0, sealB k' (crN w m n (co m) (co n))⟩⟩, ⟨m, bareC 11⟩]
def stB (k n m : Int) (i : Nat) (a : AsR) : Prop :=
  if i ≤ 1 then Sd k 1 n (co n) 0 0 a else if i = 2 then Sd k 2 n (co n) m (co m) a else Sd k 3 n (co n) m (co m) a
theorem stB_live {e : Nat} {k n m : Int} {i : Nat} {a : AsR} (hn : newT e n) (hm : newT e m) (h : stB k n m i a) : Live e k a := by
  unfold stB at h
  split at h
  · exact h.live (by omega) (fun _ => hn) (fun g => absurd rfl g)
  split at h
  · exact h.live (by omega) (fun _ => hn) (fun _ => hm)
  · exact h.live (by omega) (fun _ => hn) (fun _ => hm)
theorem stB_step {e : Nat} {k k' n m w d : Int} {i : Nat} {a : AsR} (he : e < 4294967296) (hw : okW w) (hn : newT e n) (hm : newT e m) (hi : i < 4) (h : stB k n m i a) :
    stB k n m (i + 1) (recvA a ((ltB k' m k n w).getD i noLtr).tag ((ltB k' m k n w).getD i noLtr).ch w d).1 ∧
    (recvA a ((ltB k' m k n w).getD i noLtr).tag ((ltB k' m k n w).getD i noLtr).ch w d).2.pk = ((ltB k n k' m w).drop (i + 1)).take 1 := by
  have un := new_okU hn
  have um := new_okU hm
  have n0 := new_ne hn he
  have m0 := new_ne hm he
  match i, hi with
  | 0, _ =>
    have h : Sd k 1 n (co n) 0 0 a := h
    have g := recv_init1 (d := d) h hw um (co_ok um) n0 m0
    have e1 : (ltB k' m k n w).getD 0 noLtr = ⟨0, helC m (co m)⟩ := rfl
    have e2 : ((ltB k n k' m w).drop 1).take 1 = [⟨m, ackC n (co n) (sealB k (crN w n m (co n) (co m)))⟩] := rfl
    rw [e1, e2, g]
    exact ⟨h, rfl⟩
  | 1, _ =>
    have h : Sd k 1 n (co n) 0 0 a := h
    have e1 : (ltB k' m k n w).getD 1 noLtr = ⟨n, ackC m (co m) (sealB k' (crN w m n (co m) (co n)))⟩ := rfl
    have e2 : ((ltB k n k' m w).drop 2).take 1 = [⟨m, ⟨10, 0, sealB k' (crN w m n (co m) (co n))⟩⟩] := rfl
    have g := recv_ack (w := w) (d := d) h um (co_ok um) m0 (sealB_okB k' (crN w m n (co m) (co n))) (Nat.le_of_eq (sealB_len k' _))
    rw [e1, e2]
    exact ⟨g.1, g.2⟩
  | 2, _ =>
    have h : Sd k 2 n (co n) m (co m) a := h
    have e1 : (ltB k' m k n w).getD 2 noLtr = ⟨n, ⟨10, 0, sealB k (crN w n m (co n) (co m))⟩⟩ := rfl
    have e2 : ((ltB k n k' m w).drop 3).take 1 = [⟨m, bareC 11⟩] := rfl
    have g := recv_echo2 (d := d) h hw un (co_ok un) n0 um (co_ok um) m0
    rw [e1, e2]
    exact ⟨g.1, g.2⟩
  | 3, _ =>
    have h : Sd k 3 n (co n) m (co m) a := h
    have e1 : (ltB k' m k n w).getD 3 noLtr = ⟨n, bareC 11⟩ := rfl
    have e2 : ((ltB k n k' m w).drop 4).take 1 = [] := rfl
    have g := recv_cack3 (w := w) (d := d) h
    rw [e1, e2]
    exact ⟨g.1, g.2⟩
def TwoP (k k' w n m : Int) (r : Nat) (a b : AsR) (L M : List LtrR) : Prop :=
  ∃ i j, i ≤ 4 ∧ j ≤ 4 ∧ i ≤ j + 1 ∧ j ≤ i + 1 ∧ r + i + j = 8 ∧ stB k n m i a ∧ stB k' m n j b ∧ L = ((ltB k' m k n w).take (j + 1)).drop i ∧ M = ((ltB k n k' m w).take (i + 1)).drop j
theorem two_lists {X : List LtrR} (hX : X.length = 4) {x : LtrR} {L : List LtrR} {i j : Nat} (h : x :: L = (X.take (j + 1)).drop i) : i < 4 ∧ i ≤ j ∧ x = X.getD i noLtr ∧ L = (X.take (j + 1)).drop (i + 1) := by
  have hl : i < (X.take (j + 1)).length := by
    have := congrArg List.length h
    simp only [List.length_cons, List.length_drop] at this
    omega
  rw [List.drop_eq_getElem_cons hl] at h
  have h1 := (List.cons.inj h).1
  have h2 := (List.cons.inj h).2
  rw [List.length_take] at hl
  refine ⟨by omega, by omega, ?_, h2⟩
  rw [h1, List.getElem_take]
  simp [List.getD, List.getElem?_eq_getElem (show i < X.length by omega)]
theorem two_app {X : List LtrR} {i j : Nat} (hX : X.length = 4) (hi : i < 4) (hj : j ≤ i + 1) : (X.take (i + 1)).drop j ++ (X.drop (i + 1)).take 1 = (X.take (i + 2)).drop j := by
  have : X.take (i + 2) = X.take (i + 1) ++ (X.drop (i + 1)).take 1 := by
    rw [show i + 2 = (i + 1) + 1 from rfl, List.take_add]
  rw [this, List.drop_append_of_le_length (by rw [List.length_take]; omega)]
section
variable {e : Nat} {k k' w n m : Int}
theorem two_stepA (he : e < 4294967296) (hw : okW w) (hn : newT e n) (hm : newT e m) {r : Nat} {a b : AsR} {x : LtrR} {L M : List LtrR} {d : Int} (h : TwoP k k' w n m r a b (x :: L) M) :
    ∃ r', r' < r ∧ TwoP k k' w n m r' (recvA a x.tag x.ch w d).1 b L (M ++ (recvA a x.tag x.ch w d).2.pk) := by
  obtain ⟨i, j, h1, h2, h3, h4, h5, h6, h7, h8, h9⟩ := h
  obtain ⟨g1, g2, g3, g4⟩ := two_lists rfl h8
  obtain ⟨s1, s2⟩ := stB_step (k' := k') (d := d) he hw hn hm g1 h6
  rw [← g3] at s1 s2
  refine ⟨r - 1, by omega, i + 1, j, by omega, h2, by omega, by omega, by omega, s1, h7, g4, ?_⟩
  rw [s2, h9]
  exact two_app rfl g1 h4
theorem two_stepB (he : e < 4294967296) (hw : okW w) (hn : newT e n) (hm : newT e m) {r : Nat} {a b : AsR} {x : LtrR} {L M : List LtrR} {d : Int} (h : TwoP k k' w n m r a b L (x :: M)) :
    ∃ r', r' < r ∧ TwoP k k' w n m r' a (recvA b x.tag x.ch w d).1 (L ++ (recvA b x.tag x.ch w d).2.pk) M := by
  obtain ⟨i, j, h1, h2, h3, h4, h5, h6, h7, h8, h9⟩ := h
  obtain ⟨g1, g2, g3, g4⟩ := two_lists rfl h9
  obtain ⟨s1, s2⟩ := stB_step (k' := k) (d := d) he hw hm hn g1 h7
  rw [← g3] at s1 s2
  refine ⟨r - 1, by omega, i, j + 1, h1, by omega, by omega, by omega, by omega, h6, s1, ?_, g4⟩
  rw [s2, h8]
  exact two_app rfl g1 h3
theorem two_play (he : e < 4294967296) (hw : okW w) (hn : newT e n) (hm : newT e m) : Play e k k' w (TwoP k k' w n m) := by
  refine ⟨?_, ?_, fun h _ => two_stepA he hw hn hm h, fun h _ => two_stepB he hw hn hm h⟩
  · rintro r a b L M ⟨i, j, _, _, _, _, _, h6, _⟩
    exact stB_live hn hm h6
  · rintro r a b L M ⟨i, j, _, _, _, _, _, _, h7, _⟩
    exact stB_live hm hn h7
end
theorem two_met {k k' w n m : Int} {r : Nat} {a b : AsR} (h : TwoP k k' w n m r a b [] []) : Met a b := by
  obtain ⟨i, j, h1, h2, h3, h4, h5, h6, h7, h8, h9⟩ := h
  have e1 := congrArg List.length h8
  have e2 := congrArg List.length h9
  simp only [List.length_drop, List.length_take, ltB, List.length_cons, List.length_nil] at e1 e2
  obtain rfl : i = 4 := by omega
  obtain rfl : j = 4 := by omega
  exact met_of h6 h7
end Go.ZM

set_option maxRecDepth 100000
namespace Go.ZM
open Go.Z Go.ZR
def openP (p : PrR) (s : Int) : PrR := hear (drawn p) s (two (openA (sideF p s) (lot p) (4294967295 - lot p) p.now))
def openE (p : PrR) (s : Int) : Int := (openA (sideF p s) (lot p) (4294967295 - lot p) p.now).2.2
def anewF (p : PrR) : PrR := startF (startF p 0) 1
def askF (p : PrR) (q : Int) (s : Int) : PrR := if q = 2 ∨ q = s then openP p s else p
def meetF (p : PrR) (q : Int) : PrR := calmF 30 (askF (askF (anewF p) q 0) q 1)
theorem hear_no0 (p : PrR) : hear p 0 (p.a, noOut) = p := by
  cases p
  simp [hear, saidF, putU, putW, putS, noOut, wayF, upOf, upF]
theorem hear_no1 (p : PrR) : hear p 1 (p.b, noOut) = p := by
  cases p
  simp [hear, saidF, putU, putW, putS, noOut, wayF, upOf, upF]
def idle (a : AsR) (w : Int) : Prop := a.set = false ∨ w < a.at_
theorem tick_idle {a : AsR} {w : Int} (h : idle a w) : tickA a w = (a, noOut) := by
  unfold tickA
  exact if_pos h
theorem dawn_idle {p : PrR} (ha : idle p.a (p.now + 1)) (hb : idle p.b (p.now + 1)) : dawnF p = { p with now := p.now + 1 } := by
  have e0 : tickF { p with now := p.now + 1 } 0 = { p with now := p.now + 1 } := by
    show hear { p with now := p.now + 1 } 0 (tickA p.a (p.now + 1)) = _
    rw [tick_idle ha]
    exact hear_no0 { p with now := p.now + 1 }
  unfold dawnF
  rw [e0]
  show hear { p with now := p.now + 1 } 1 (tickA p.b (p.now + 1)) = _
  rw [tick_idle hb]
  exact hear_no1 { p with now := p.now + 1 }
structure Rest (p : PrR) : Prop where
  met : Met p.a p.b
  v : p.v = []
  w : p.w = []
theorem loop_rest : ∀ (n : Nat) {p : PrR}, p.v = [] → p.w = [] → loopF n p = p
  | 0, _, _, _ => rfl
  | n + 1, p, hv, hw => by
    show (if 0 < lenP p then loopF n (roundF p) else p) = p
    rw [if_neg (by unfold lenP; rw [hv, hw]; decide)]
theorem rest_day {p : PrR} (h : Rest p) : Rest (dayF p) := by
  unfold dayF
  rw [dawn_idle (.inl h.met.ua) (.inl h.met.ub)]
  rw [loop_rest 400 (p := { p with now := p.now + 1 }) h.v h.w]
  exact ⟨h.met, h.v, h.w⟩
theorem rest_calm {p : PrR} (h : Rest (dayF p)) : ∀ n, Rest (calmF (n + 1) p)
  | 0 => h
  | n + 1 => rest_day (rest_calm h n)
theorem day_meets {e : Nat} {ka kb : Int} {Ph : Nat → AsR → AsR → List LtrR → List LtrR → Prop} {p : PrR} {g : Nat} (he : e < 4294967296) (H : Play e ka kb (p.now + 1) Ph) (hm : ∀ {r a b}, Ph r a b [] [] → Met a b)
    (ha : idle p.a (p.now + 1)) (hb : idle p.b (p.now + 1)) (h : InvP e ka kb (p.now + 1) Ph g { p with now := p.now + 1 }) (hg : g ≤ 400) : Rest (dayF p) := by
  unfold dayF
  rw [dawn_idle ha hb]
  obtain ⟨r, h1, h2, h3, _⟩ := play_loop H he 400 h hg
  exact ⟨hm h1, h2, h3⟩
theorem sd_new (k : Int) (l r t : Int) : l = 200 → Sd k 0 0 0 0 0 (newG k l r t) := by
  rintro rfl
  exact ⟨rfl, rfl, rfl, rfl, rfl, rfl, rfl, rfl, fun _ => rfl⟩
theorem rest_30 {p : PrR} (h : Rest (dayF p)) : Rest (calmF 30 p) := rest_calm h 29
theorem open0 {P : PrR} {k t : Int} (ha : P.a = newG k 200 12 8) (hl : lot P = t) (ht : t ≠ 0) :
    openE P 0 = 0 ∧ Sd k 1 t (co t) 0 0 (openP P 0).a ∧ (openP P 0).a.at_ = P.now + 12 ∧ (openP P 0).b = P.b ∧ (openP P 0).v = P.v ∧ (openP P 0).w = P.w ++ [⟨0, helC t (co t)⟩] ∧ (openP P 0).now = P.now ∧ (openP P 0).draw = nxt P.draw := by
  have s0 : sideF P 0 = newG k 200 12 8 := ha
  have e : openA (newG k 200 12 8) t (4294967295 - t) P.now = ((greetA { newG k 200 12 8 with mt := t, ms := co t } P.now).1, (greetA { newG k 200 12 8 with mt := t, ms := co t } P.now).2, 0) := by
    unfold openA
    rw [if_neg (fun h => h rfl), if_neg ht]
    rfl
  have e2 : openP P 0 = hear (drawn P) 0 (greetA { newG k 200 12 8 with mt := t, ms := co t } P.now) := by
    unfold openP
    rw [s0, hl, e]
    rfl
  refine ⟨?_, ?_⟩
  · unfold openE
    rw [s0, hl, e]
  rw [e2]
  exact ⟨⟨rfl, rfl, rfl, rfl, rfl, rfl, rfl, rfl, fun g => by omega⟩, rfl, rfl, rfl, rfl, rfl, rfl⟩
theorem open1 {P : PrR} {k t : Int} (ha : P.b = newG k 200 12 8) (hl : lot P = t) (ht : t ≠ 0) :
    openE P 1 = 0 ∧ Sd k 1 t (co t) 0 0 (openP P 1).b ∧ (openP P 1).b.at_ = P.now + 12 ∧ (openP P 1).a = P.a ∧ (openP P 1).w = P.w ∧ (openP P 1).v = P.v ++ [⟨0, helC t (co t)⟩] ∧ (openP P 1).now = P.now ∧ (openP P 1).draw = nxt P.draw := by
  have s0 : sideF P 1 = newG k 200 12 8 := ha
  have e : openA (newG k 200 12 8) t (4294967295 - t) P.now = ((greetA { newG k 200 12 8 with mt := t, ms := co t } P.now).1, (greetA { newG k 200 12 8 with mt := t, ms := co t } P.now).2, 0) := by
    unfold openA
    rw [if_neg (fun h => h rfl), if_neg ht]
    rfl
  have e2 : openP P 1 = hear (drawn P) 1 (greetA { newG k 200 12 8 with mt := t, ms := co t } P.now) := by
    unfold openP
    rw [s0, hl, e]
    rfl
  refine ⟨?_, ?_⟩
  · unfold openE
    rw [s0, hl, e]
  rw [e2]
  exact ⟨⟨rfl, rfl, rfl, rfl, rfl, rfl, rfl, rfl, fun g => by omega⟩, rfl, rfl, rfl, rfl, rfl, rfl⟩
theorem lot_at {P : PrR} {i : Nat} (h : P.draw = i) (hi : i < 4294967295) : lot P = drF (i + 1 : Nat) ∧ nxt P.draw = (i + 1 : Nat) := by
  have : nxt P.draw = (i + 1 : Nat) := by rw [h]; unfold nxt; omega
  exact ⟨by show drF (nxt P.draw) = _; rw [this], this⟩
structure Anew (e : Nat) (ka kb : Int) (P : PrR) : Prop where
  a : P.a = newG ka 200 12 8
  b : P.b = newG kb 200 12 8
  draw : P.draw = (e + 2 : Nat)
  now : 0 ≤ P.now ∧ P.now ≤ 1000
  v : ∃ n, n ≤ 2 * P.v.length ∧ Mix (Stale e ka kb) n [] P.v
  w : ∃ n, n ≤ 2 * P.w.length ∧ Mix (Stale e ka kb) n [] P.w
  len : P.v.length + P.w.length ≤ 180
section
variable {e : Nat} {ka kb : Int} {P : PrR}
theorem ask0 (he : e < 1000) (h : Anew e ka kb P) : Rest (calmF 30 (openP P 0)) ∧ openE P 0 = 0 := by
  obtain ⟨l1, l2⟩ := lot_at h.draw (by omega)
  have n3 : newT e (drF (e + 3 : Nat)) := ⟨e + 3, by omega, by omega, rfl⟩
  obtain ⟨g1, g2, g3, g4, g5, g6, g7, g8⟩ := open0 h.a l1 (new_ne n3 (by omega))
  obtain ⟨nv, hv, mv⟩ := h.v
  obtain ⟨nw, hw, mw⟩ := h.w
  have hn := h.now
  have hl := h.len
  refine ⟨rest_30 ?_, g1⟩
  generalize openP P 0 = Q at g2 g3 g4 g5 g6 g7 g8 ⊢
  have w1 : okW (Q.now + 1) := by unfold okW; omega
  refine day_meets (e := e) (ka := ka) (kb := kb) (g := nv + nw + 4) (Ph := OneP e ka kb (Q.now + 1) (drF (e + 3 : Nat))) (by omega) (one_play (by omega) w1 n3) one_met (.inr (by omega)) (.inl ?_) ?_ (by omega)
  · rw [g4, h.b]; rfl
  · refine ⟨⟨nv, nw, 4, [], [⟨0, helC (drF (e + 3 : Nat)) (co (drF (e + 3 : Nat)))⟩], ?_, ?_, ?_, rfl⟩, rfl, e + 3, ?_, by omega, by omega⟩
    · show Mix _ nv [] Q.v
      rw [g5]; exact mv
    · show Mix _ nw _ Q.w
      rw [g6]; exact mw.snocNew
    · refine .p4 g2 ?_
      show Sd _ 0 0 0 0 0 Q.b
      rw [g4, h.b]; exact sd_new _ _ _ _ rfl
    · show Q.draw = _
      rw [g8, l2]
theorem ask1 (he : e < 1000) (h : Anew e ka kb P) : Rest (calmF 30 (openP P 1)) ∧ openE P 1 = 0 := by
  obtain ⟨l1, l2⟩ := lot_at h.draw (by omega)
  have n3 : newT e (drF (e + 3 : Nat)) := ⟨e + 3, by omega, by omega, rfl⟩
  obtain ⟨g1, g2, g3, g4, g5, g6, g7, g8⟩ := open1 h.b l1 (new_ne n3 (by omega))
  obtain ⟨nv, hv, mv⟩ := h.v
  obtain ⟨nw, hw, mw⟩ := h.w
  have hn := h.now
  have hl := h.len
  refine ⟨rest_30 ?_, g1⟩
  generalize openP P 1 = Q at g2 g3 g4 g5 g6 g7 g8 ⊢
  have w1 : okW (Q.now + 1) := by unfold okW; omega
  refine day_meets (e := e) (ka := ka) (kb := kb) (g := nv + nw + 4) (Ph := fun r a b L M => OneP e kb ka (Q.now + 1) (drF (e + 3 : Nat)) r b a M L) (by omega) (one_play' (by omega) w1 n3) (fun h => (one_met h).symm) (.inl ?_) (.inr (by omega)) ?_ (by omega)
  · rw [g4, h.a]; rfl
  · refine ⟨⟨nv, nw, 4, [⟨0, helC (drF (e + 3 : Nat)) (co (drF (e + 3 : Nat)))⟩], [], ?_, ?_, ?_, rfl⟩, rfl, e + 3, ?_, by omega, by omega⟩
    · show Mix _ nv _ Q.v
      rw [g6]; exact mv.snocNew
    · show Mix _ nw [] Q.w
      rw [g5]; exact mw
    · refine .p4 g2 ?_
      show Sd _ 0 0 0 0 0 Q.a
      rw [g4, h.a]; exact sd_new _ _ _ _ rfl
    · show Q.draw = _
      rw [g8, l2]
theorem ask2 (he : e < 1000) (h : Anew e ka kb P) : Rest (calmF 30 (openP (openP P 0) 1)) ∧ openE P 0 = 0 ∧ openE (openP P 0) 1 = 0 := by
  obtain ⟨l1, l2⟩ := lot_at h.draw (by omega)
  have n3 : newT e (drF (e + 3 : Nat)) := ⟨e + 3, by omega, by omega, rfl⟩
  have n4 : newT e (drF (e + 4 : Nat)) := ⟨e + 4, by omega, by omega, rfl⟩
  obtain ⟨g1, g2, g3, g4, g5, g6, g7, g8⟩ := open0 h.a l1 (new_ne n3 (by omega))
  obtain ⟨nv, hv, mv⟩ := h.v
  obtain ⟨nw, hw, mw⟩ := h.w
  have hn := h.now
  have hl := h.len
  generalize openP P 0 = Q at g2 g3 g4 g5 g6 g7 g8 ⊢
  rw [l2] at g8
  obtain ⟨m1, m2⟩ := lot_at (i := e + 3) g8 (by omega)
  obtain ⟨k1, k2, k3, k4, k5, k6, k7, k8⟩ := open1 (g4.trans h.b) m1 (new_ne n4 (by omega))
  refine ⟨rest_30 ?_, g1, k1⟩
  generalize openP Q 1 = R at k2 k3 k4 k5 k6 k7 k8 ⊢
  have w1 : okW (R.now + 1) := by unfold okW; omega
  have ra : R.a.at_ = P.now + 12 := by rw [k4, g3]
  refine day_meets (e := e) (ka := ka) (kb := kb) (g := nv + nw + 8) (Ph := TwoP ka kb (R.now + 1) (drF (e + 3 : Nat)) (drF (e + 4 : Nat))) (by omega) (two_play (by omega) w1 n3 n4) two_met (.inr (by omega)) (.inr (by omega)) ?_ (by omega)
  refine ⟨⟨nv, nw, 8, [⟨0, helC (drF (e + 4 : Nat)) (co (drF (e + 4 : Nat)))⟩], [⟨0, helC (drF (e + 3 : Nat)) (co (drF (e + 3 : Nat)))⟩], ?_, ?_, ?_, rfl⟩, rfl, e + 4, ?_, by omega, by omega⟩
  · show Mix _ nv _ R.v
    rw [k6, g5]; exact mv.snocNew
  · show Mix _ nw _ R.w
    rw [k5, g6]; exact mw.snocNew
  · refine ⟨0, 0, by omega, by omega, by omega, by omega, by omega, ?_, k2, rfl, rfl⟩
    show Sd _ 1 _ _ 0 0 R.a
    rw [k4]; exact g2
  · show R.draw = _
    rw [k8, m2]
end
theorem anew_of {e m M N : Nat} {p : PrR} (h : Hist e m p) (he : e < 124) (hm : m < 124) (o : okPr M N p) (hM : M ≤ 1000) (hN : N ≤ 180) : Anew e (keyN (e + 1) 0) (keyN (e + 2) 0) (anewF p) := by
  have l0 : lot p = drF (e + 1 : Nat) := lot_of h (by omega)
  have h1 : Hist (e + 1) m (startF p 0) := h.start (by omega) 0
  have l1 : lot (startF p 0) = drF (e + 2 : Nat) := lot_of h1 (by omega)
  have h2 : Hist (e + 2) m (anewF p) := h1.start (by omega) 1
  have ea : (anewF p).a = newG (keyN (e + 1) 0) 200 12 8 := by
    show newG (lot p * 4294967296) 200 12 8 = _
    rw [l0]; unfold keyN; rw [Int.natCast_zero, Int.add_zero]
  have eb : (anewF p).b = newG (keyN (e + 2) 0) 200 12 8 := by
    show newG (lot (startF p 0) * 4294967296) 200 12 8 = _
    rw [l1]; unfold keyN; rw [Int.natCast_zero, Int.add_zero]
  have sv : ∀ x ∈ p.v, Stale e (keyN (e + 1) 0) (keyN (e + 2) 0) x := fun x hx => stale_of (h.v x hx) (by omega) (by omega) (by omega) (by omega) (by omega) (by omega)
  have sw : ∀ x ∈ p.w, Stale e (keyN (e + 1) 0) (keyN (e + 2) 0) x := fun x hx => stale_of (h.w x hx) (by omega) (by omega) (by omega) (by omega) (by omega) (by omega)
  have hl := o.len
  unfold lenP at hl
  exact ⟨ea, eb, h2.draw, ⟨o.now.1, by have := o.now.2; show p.now ≤ 1000; omega⟩, Mix.all p.v sv, Mix.all p.w sw, Nat.le_trans hl hN⟩
theorem meet_rest {e : Nat} {ka kb : Int} {p : PrR} (he : e < 1000) (h : Anew e ka kb (anewF p)) {q : Int} (hq : q = 0 ∨ q = 1 ∨ q = 2) :
    Rest (meetF p q) ∧ ((q = 2 ∨ q = 0) → openE (anewF p) 0 = 0) ∧ ((q = 2 ∨ q = 1) → openE (askF (anewF p) q 0) 1 = 0) := by
  unfold meetF
  generalize anewF p = P at h ⊢
  rcases hq with rfl | rfl | rfl
  · have e1 : askF (askF P 0 0) 0 1 = openP P 0 := by
      unfold askF
      rw [if_pos (show (0 : Int) = 2 ∨ (0 : Int) = 0 from .inr rfl), if_neg (show ¬ ((0 : Int) = 2 ∨ (0 : Int) = 1) by decide)]
    rw [e1]
    exact ⟨(ask0 he h).1, fun _ => (ask0 he h).2, fun h => absurd h (by decide)⟩
  · have e2 : askF P 1 0 = P := by
      unfold askF
      rw [if_neg (show ¬ ((1 : Int) = 2 ∨ (1 : Int) = 0) by decide)]
    have e1 : askF P 1 1 = openP P 1 := by
      unfold askF
      rw [if_pos (show (1 : Int) = 2 ∨ (1 : Int) = 1 from .inr rfl)]
    rw [e2, e1]
    exact ⟨(ask1 he h).1, fun h => absurd h (by decide), fun _ => (ask1 he h).2⟩
  · have e2 : ∀ P s, askF P 2 s = openP P s := fun P s => by
      unfold askF
      rw [if_pos (.inl rfl)]
    rw [e2, e2]
    exact ⟨(ask2 he h).1, fun _ => (ask2 he h).2.1, fun _ => (ask2 he h).2.2⟩
theorem meets_law (l : List MvR) (n : Nat) (hn : n ≤ 120) {q : Int} (hq : q = 0 ∨ q = 1 ∨ q = 2) :
    Rest (meetF (grownF l n) q) ∧ ((q = 2 ∨ q = 0) → openE (anewF (grownF l n)) 0 = 0) ∧ ((q = 2 ∨ q = 1) → openE (askF (anewF (grownF l n)) q 0) 1 = 0) := by
  obtain ⟨e, he, h⟩ := hist_grown l n (by omega)
  exact meet_rest (by omega) (anew_of h (by omega) (by omega) (grown_ok l n (by omega)) (by omega) (by omega)) hq
end Go.ZM

set_option maxRecDepth 100000
namespace Go.ZR
open Go.Z Go.ZM Go.Proofs
def l13 : List (Nat × Ctr) := [(25, grownC), (26, ansAC), (66, freshPC), (29, openRC asO outO), (30, openRC rfO outW), (31, saidC), (32, calmC), (33, tagsC), (34, firstsC), (35, stateC)]
theorem l13_ok : COk Try.prog (ctrs l13) := cok_cons ok25 (cok_cons ok26 (cok_cons ok66 (cok_cons ok29 (cok_cons ok30 (cok_cons ok31w (cok_cons ok32 (cok_cons ok33 (cok_cons ok34 (cok_cons ok35 cok_nil)))))))))
def meetsC : Ctr := lawC 2 fun a => ∃ (l : List MvR) (x : Int), a = [.d (mvsD l), iO .u8 x] ∧ l.length ≤ 1073741824 ∧ 0 ≤ x ∧ x ≤ 255
end Go.ZR

set_option maxRecDepth 100000
namespace Go.ZM
open Go.Z Go.ZR
end Go.ZM
namespace Go.ZR
open Go.Z Go.ZM Go.Proofs
end Go.ZR

set_option maxRecDepth 100000
namespace Go.ZM
open Go.Z Go.ZR
end Go.ZM
