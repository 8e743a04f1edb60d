/- Part 16 of what the closing text rests on. -/
import Derived.Test.YtlbfenfepmmihaaI12
import Derived.Test.YtlbfenfepmmihaaI14
import Derived.Test.YtlbfenfepmmihaaI15
set_option maxRecDepth 100000
namespace Go.ZM
open Go.Z Go.ZR
structure LtrR where
  tag : Int
  ch : ChR
structure AsR where
  key : Int
  win : Int
  life : Int
  rto : Int
  tries : Int
  ltag : Int
  lch : ChR
  at_ : Int
  left : Int
  set : Bool
  st : Int
  mt : Int
  ms : Int
  pt : Int
  ps : Int
structure OutR where
  pk : List LtrR
  ev : List Int
def noLtr : LtrR := ⟨0, noCh⟩
def noOut : OutR := ⟨[], []⟩
def noAs : AsR := ⟨0, 0, 0, 0, 0, 0, noCh, 0, 0, false, 0, 0, 0, 0, 0⟩
def sayO (tag : Int) (ch : ChR) : OutR := ⟨[⟨tag, ch⟩], []⟩
def bareC (k : Int) : ChR := ⟨k, 0, []⟩
def staleC : ChR := ⟨9, 0, [0, 3, 0, 4]⟩
def stillA (a : AsR) : AsR := { a with ltag := 0, lch := noCh, at_ := 0, left := 0, set := false }
def endA (a : AsR) : AsR := { a with key := (a.key + 1) % 18446744073709551616, ltag := 0, lch := noCh, at_ := 0, left := 0, set := false, st := 0, mt := 0, ms := 0, pt := 0, ps := 0 }
def waitA (a : AsR) (tag : Int) (ch : ChR) (now : Int) : AsR × OutR := ({ a with ltag := tag, lch := ch, at_ := now + a.rto, left := a.tries, set := true }, sayO tag ch)
def helA (a : AsR) (m s : Int) : ChR := (fromHel ⟨m, a.win, 8, 8, s, []⟩ false).1
def ackA (a : AsR) (m s : Int) (b : List Int) : ChR := (fromHel ⟨m, a.win, 8, 8, s, b⟩ true).1
def greetA (a : AsR) (now : Int) : AsR × OutR := waitA { a with st := 1, pt := 0, ps := 0 } 0 (helA a a.mt a.ms) now
def openA (a : AsR) (tag tsn now : Int) : AsR × OutR × Int :=
  if a.st ≠ 0 then (a, noOut, 7) else if tag = 0 then (a, noOut, 1) else
    ((greetA { a with mt := tag, ms := tsn } now).1, (greetA { a with mt := tag, ms := tsn } now).2, 0)
def tickA (a : AsR) (now : Int) : AsR × OutR :=
  if a.set = false ∨ now < a.at_ then (a, noOut) else if a.left = 0 then (endA a, ⟨[], [3]⟩) else
    ({ a with left := a.left - 1, at_ := now + a.rto }, sayO a.ltag a.lch)
def shutA (a : AsR) (now : Int) : AsR × OutR := waitA { a with st := 5 } a.pt (bareC 7) now
def shacA (a : AsR) (now : Int) : AsR × OutR := waitA { a with st := 7 } a.pt (bareC 8) now
def closeA (a : AsR) (now : Int) (dr : Bool) : AsR × OutR × Int :=
  if a.st ≠ 3 then (a, noOut, 7) else if dr = true then ((shutA a now).1, (shutA a now).2, 0) else ({ a with st := 4 }, noOut, 0)
def drainA (a : AsR) (now : Int) : AsR × OutR := if a.st = 4 then shutA a now else if a.st = 6 then shacA a now else (a, noOut)
def abortA (a : AsR) : AsR × OutR := if a.st = 0 then (a, noOut) else (endA a, if a.pt = 0 then noOut else sayO a.pt (bareC 6))
def takeA (a : AsR) (x : CruR) (ev : Int) : AsR × OutR :=
  ({ a with ltag := 0, lch := noCh, at_ := 0, left := 0, set := false, st := 3, mt := x.a, ms := x.c, pt := x.b, ps := x.d }, ⟨[⟨x.b, bareC 11⟩], [ev]⟩)
def drawT (d : Int) : Int := if d = 0 then 1 else d
def numT (a : AsR) (d : Int) : Int := if a.st = 1 ∨ a.st = 2 then a.mt else drawT d
def numS (a : AsR) (d : Int) : Int := if a.st = 1 ∨ a.st = 2 then a.ms else 4294967295 - d
def crumbA (a : AsR) (h : HelR) (now d : Int) : CruR :=
  ⟨now, numT a d, h.tag, numS a d, h.tsn, h.win, if 2 ≤ a.st then a.mt else 0, if 2 ≤ a.st then a.pt else 0⟩
def calledA (a : AsR) (h : HelR) (now d : Int) : AsR × OutR :=
  if a.st = 7 then (a, sayO a.ltag a.lch) else
  if (sealF a.key (crumbA a h now d)).2 = 0 then (a, sayO h.tag (ackA a (numT a d) (numS a d) (sealF a.key (crumbA a h now d)).1)) else (a, noOut)
def echoedA (a : AsR) (x : CruR) (now : Int) : AsR × OutR :=
  if freshF x.time now a.life = false then (a, sayO x.b staleC) else
  if a.st = 0 then takeA a x 1 else
  if a.st = 7 then (a, sayO a.ltag a.lch) else
  if x.a ≠ a.mt ∧ x.b ≠ a.pt ∧ x.f = a.mt ∧ x.g = a.pt ∧ x.f ≠ 0 ∧ x.g ≠ 0 then takeA a x 2 else
  if x.a = a.mt ∧ (x.b ≠ a.pt ∨ a.st = 1 ∨ a.st = 2) then takeA a x (if a.st = 1 ∨ a.st = 2 then 1 else 2) else
  if x.a = a.mt ∧ x.b = a.pt then (a, sayO a.pt (bareC 11)) else (a, noOut)
abbrev mineA (a : AsR) (tag : Int) : Prop := a.st ≠ 0 ∧ tag = a.mt
abbrev theirsA (a : AsR) (tag : Int) (c : ChR) : Prop := a.st ≠ 0 ∧ c.f = 1 ∧ tag = a.pt ∧ tag ≠ 0
def recvA (a : AsR) (tag : Int) (c : ChR) (now d : Int) : AsR × OutR :=
  if c.t = 1 then (if (toHel c).2 = 0 ∧ tag = 0 then calledA a (toHel c).1 now d else (a, noOut)) else
  if c.t = 2 then (if (toHel c).2 = 0 ∧ mineA a tag ∧ a.st = 1 then waitA { a with st := 2, pt := (toHel c).1.tag, ps := (toHel c).1.tsn } (toHel c).1.tag ⟨10, 0, (toHel c).1.cookie⟩ now else (a, noOut)) else
  if c.t = 10 then (if (openF a.key c.v).2 = 0 ∧ tag = (openF a.key c.v).1.a then echoedA a (openF a.key c.v).1 now else (a, noOut)) else
  if c.t = 11 then (if mineA a tag ∧ a.st = 2 then ({ stillA a with st := 3 }, ⟨[], [1]⟩) else (a, noOut)) else
  if c.t = 9 then (if mineA a tag ∧ a.st = 2 ∧ c.v = [0, 3, 0, 4] then greetA a now else (a, noOut)) else
  if c.t = 6 then (if mineA a tag ∨ theirsA a tag c then (endA a, ⟨[], [3]⟩) else (a, noOut)) else
  if c.t = 7 then (if mineA a tag ∧ (a.st = 3 ∨ a.st = 4) then ({ stillA a with st := 6 }, noOut) else if mineA a tag ∧ a.st = 5 then shacA a now else (a, noOut)) else
  if c.t = 8 then (if a.st = 0 then (a, sayO tag ⟨14, 1, []⟩) else if mineA a tag ∧ (a.st = 5 ∨ a.st = 7) then (endA a, ⟨[⟨a.pt, bareC 14⟩], [4]⟩) else (a, noOut)) else
  if c.t = 14 then (if a.st = 7 ∧ (mineA a tag ∨ theirsA a tag c) then (endA a, ⟨[], [4]⟩) else (a, noOut)) else (a, noOut)
def okLt (t : Int) (c : ChR) : Prop := okU t ∧ ((0 ≤ c.t ∧ c.t ≤ 255) ∧ (0 ≤ c.f ∧ c.f ≤ 255) ∧ okB c.v) ∧ c.v.length ≤ 1000
structure okAs (a : AsR) : Prop where
  key : 0 ≤ a.key ∧ a.key ≤ 18446744073709551615
  win : okU a.win
  life : 1 ≤ a.life ∧ a.life ≤ 1048576
  rto : 1 ≤ a.rto ∧ a.rto ≤ 1048576
  tries : 0 ≤ a.tries ∧ a.tries ≤ 100
  ltr : okLt a.ltag a.lch
  at_ : -2199023255552 ≤ a.at_ ∧ a.at_ ≤ 2199023255552
  left : 0 ≤ a.left ∧ a.left ≤ 100
  st : 0 ≤ a.st ∧ a.st ≤ 7
  mt : okU a.mt
  ms : okU a.ms
  pt : okU a.pt
  ps : okU a.ps
  zero : a.st = 0 → a.mt = 0 ∧ a.ms = 0 ∧ a.pt = 0 ∧ a.ps = 0 ∧ a.ltag = 0 ∧ a.lch = noCh ∧ a.at_ = 0 ∧ a.left = 0 ∧ a.set = false
def okNow (n : Int) : Prop := -1099511627776 ≤ n ∧ n ≤ 1099511627776
end Go.ZM

set_option maxRecDepth 100000
namespace Go.ZM
open Go.Z Go.ZR
def ltrCell (l : List LtrR) (i j : Nat) : D :=
  match j with
  | 0 => .v (.int .u32 (l.getD i noLtr).tag)
  | 1 => .v (.int .u8 (l.getD i noLtr).ch.t)
  | 2 => .v (.int .u8 (l.getD i noLtr).ch.f)
  | _ => .ints .u8 (l.getD i noLtr).ch.v
end Go.ZM
namespace Go.ZR
open Go.Z Go.ZM Go.Proofs
def ltrsD (l : List LtrR) : D := .recs 4 l.length (ltrCell l)
def evD (l : List Int) : D := .ints .i64 l
def outO (o : OutR) : O := .agg [.own 142 (ltrsD o.pk), .own 3 (evD o.ev)]
def outW (o : OutR) : O := .agg [.d (ltrsD o.pk), .d (evD o.ev)]
def asL (a : AsR) (o : OutR) : List O := [iO .u64 a.key, iO .u32 a.win, iO .i64 a.life, iO .i64 a.rto, iO .i64 a.tries, iO .u32 a.ltag, iO .u8 a.lch.t, iO .u8 a.lch.f, bsO a.lch.v, iO .i64 a.at_, iO .i64 a.left, bO a.set,
  iO .i64 a.st, iO .u32 a.mt, iO .u32 a.ms, iO .u32 a.pt, iO .u32 a.ps, .own 142 (ltrsD o.pk), .own 3 (evD o.ev)]
def asO (a : AsR) : O := .ptr 148 (asL a noOut)
def rfL (a : AsR) : List O := [iO .u64 a.key, iO .u32 a.win, iO .i64 a.life, iO .i64 a.rto, iO .i64 a.tries, iO .i64 a.st, iO .u32 a.mt, iO .u32 a.pt, iO .u32 a.ms, iO .u32 a.ps, iO .u32 a.ltag, iO .u8 a.lch.t, iO .u8 a.lch.f, bsO a.lch.v,
  bO a.set, iO .i64 a.at_, iO .i64 a.left, .any, .any]
def rfO (a : AsR) : O := .ptr 152 (rfL a)
def asOf : O → AsR
  | .ptr 148 [k, w, l, r, t, lt, ct, cf, cv, at', le, se, st, mt, ms, pt, ps, _, _] => ⟨vi (dO k), vi (dO w), vi (dO l), vi (dO r), vi (dO t), vi (dO lt), ⟨vi (dO ct), vi (dO cf), vl (dO cv)⟩, vi (dO at'), vi (dO le), vb (dO se), vi (dO st), vi (dO mt), vi (dO ms), vi (dO pt), vi (dO ps)⟩
  | .ptr 152 [k, w, l, r, t, st, mt, pt, ms, ps, lt, ct, cf, cv, se, at', le, _, _] => ⟨vi (dO k), vi (dO w), vi (dO l), vi (dO r), vi (dO t), vi (dO lt), ⟨vi (dO ct), vi (dO cf), vl (dO cv)⟩, vi (dO at'), vi (dO le), vb (dO se), vi (dO st), vi (dO mt), vi (dO ms), vi (dO pt), vi (dO ps)⟩
  | _ => noAs
def asC (tree : AsR → O) (n : Nat) (pre : List O → Prop) (f : List O → AsR) (res : List O → List O) : Ctr where
  own := true :: List.replicate n false
  pre := pre
  res := res
  upd := fun a => tree (f a) :: List.replicate n .any
  ro := true
  quiet := false
def aO (a : List O) : AsR := asOf (at_ a 0)
def nO (a : List O) (i : Nat) : Int := vi (dO (at_ a i))
def openA' (a : List O) : AsR × OutR × Int := openA (aO a) (nO a 1) (nO a 2) (nO a 3)
def openRC (tree : AsR → O) (out : OutR → O) : Ctr := asC tree 3 (fun a => ∃ s t n w, a = [tree s, iO .u32 t, iO .u32 n, iO .i64 w] ∧ okAs s ∧ okU t ∧ okU n ∧ okNow w) (fun a => (openA' a).1) fun a => [out (openA' a).2.1, iO .i64 (openA' a).2.2]
def tickA' (a : List O) : AsR × OutR := tickA (aO a) (nO a 1)
def tickRC (tree : AsR → O) (out : OutR → O) : Ctr := asC tree 1 (fun a => ∃ s w, a = [tree s, iO .i64 w] ∧ okAs s ∧ okNow w) (fun a => (tickA' a).1) fun a => [out (tickA' a).2]
def recvA' (a : List O) : AsR × OutR := recvA (aO a) (nO a 1) (chOf (at_ a 2)) (nO a 3) (nO a 4)
def recvRC (tree : AsR → O) (out : OutR → O) : Ctr := asC tree 4 (fun a => ∃ s t c w d, a = [tree s, iO .u32 t, chO c, iO .i64 w, iO .u32 d] ∧ okAs s ∧ okLt t c ∧ okNow w ∧ okU d) (fun a => (recvA' a).1) fun a => [out (recvA' a).2]
def closeA' (a : List O) : AsR × OutR × Int := closeA (aO a) (nO a 1) (vb (dO (at_ a 2)))
def closeRC (tree : AsR → O) (out : OutR → O) : Ctr := asC tree 2 (fun a => ∃ s w b, a = [tree s, iO .i64 w, bO b] ∧ okAs s ∧ okNow w) (fun a => (closeA' a).1) fun a => [out (closeA' a).2.1, iO .i64 (closeA' a).2.2]
def drainA' (a : List O) : AsR × OutR := drainA (aO a) (nO a 1)
def drainRC (tree : AsR → O) (out : OutR → O) : Ctr := asC tree 1 (fun a => ∃ s w, a = [tree s, iO .i64 w] ∧ okAs s ∧ okNow w) (fun a => (drainA' a).1) fun a => [out (drainA' a).2]
def abortRC (tree : AsR → O) (out : OutR → O) : Ctr := asC tree 0 (fun a => ∃ s, a = [tree s] ∧ okAs s) (fun a => (abortA (aO a)).1) fun a => [out (abortA (aO a)).2]
def l1 : List (Nat × Ctr) := [(155, fromHelC), (158, toHelC), (160, openC), (204, sealC), (209, freshC), (82, cloneC), (163, eqC)]
def l2 : List (Nat × Ctr) := [(116, fromHelC), (168, toHelC), (213, openC), (211, sealC), (214, freshC)]
end Go.ZR

set_option maxRecDepth 100000
namespace Go.ZM
open Go.Z Go.ZR
theorem toHel_okHel {c : ChR} (hv : okB c.v) (hs : sm c.v.length) : okHel (toHel c).1 := by
  unfold toHel
  split
  · refine ⟨?_, ?_, ?_, ?_, ?_, ?_, ?_⟩ <;> simp [noHel, okB, sm]
  · exact helOf_ok hv hs
theorem nAt_rng {v : List Int} (hv : okB v) (i : Int) : okU (nAt v i 4) := by
  have := num_rng hv i (k := 4)
  unfold okU
  show 0 ≤ numAt v i 4 ∧ numAt v i 4 ≤ _
  omega
theorem open_okCru {k : Int} {b : List Int} (hb : okB b) : okCru (openF k b).1 ∧ 0 ≤ (openF k b).1.time ∧ (openF k b).1.time ≤ 1099511627776 := by
  have h0 : okCru noCru ∧ 0 ≤ noCru.time ∧ noCru.time ≤ 1099511627776 := by simp [okCru, okU, noCru]
  unfold openF
  split
  · exact h0
  split
  · exact h0
  split
  · exact h0
  split
  · rename_i hs
    have ht : 0 ≤ (cruOf b).time ∧ (cruOf b).time ≤ 1099511627776 := by
      unfold soundF at hs
      simp only [Bool.and_eq_true, decide_eq_true_eq] at hs
      exact hs.1.1
    refine ⟨⟨⟨by show _ ≤ (cruOf b).time; omega, by show (cruOf b).time ≤ _; omega⟩, nAt_rng hb _, nAt_rng hb _, nAt_rng hb _, nAt_rng hb _, nAt_rng hb _, nAt_rng hb _, nAt_rng hb _⟩, ht⟩
  · exact h0
theorem seal_ok (k : Int) (c : CruR) : okB (sealF k c).1 ∧ (sealF k c).1.length ≤ 40 := by
  unfold sealF
  split
  · unfold sealB
    exact ⟨okB_append (cruB_okB c) (be_ok _ _), by simp [cruB_len, be_len]⟩
  · exact ⟨by simp [okB], by simp⟩
theorem cru_ok {w a b c d e f g : Int} (hw : okNow w) (ha : okU a) (hb : okU b) (hc : okU c) (hd : okU d) (he : okU e) (hf : okU f) (hg : okU g) : okCru ⟨w, a, b, c, d, e, f, g⟩ := by
  unfold okNow at hw
  exact ⟨⟨by simp only; omega, by simp only; omega⟩, ha, hb, hc, hd, he, hf, hg⟩
theorem okU0 : okU 0 := by unfold okU; omega
theorem okU1 : okU 1 := by unfold okU; omega
theorem okU_sub {d : Int} (h : okU d) : okU (4294967295 - d) := by unfold okU at *; omega
theorem hel_ok8 {t w n : Int} {b : List Int} (ht : okU t) (hw : okU w) (hn : okU n) (hb : okB b) (hl : b.length ≤ 40) : okHel ⟨t, w, 8, 8, n, b⟩ :=
  ⟨ht, hw, by simp, by simp, hn, hb, by unfold sm; simp only; omega⟩
theorem bstr_eq {l : List Int} (h : okB l) : (bstr l).data.toList = [0, 3, 0, 4] ↔ l = [0, 3, 0, 4] := by
  constructor
  · intro e
    refine bstr_inj h (by intro x hx; simp at hx; omega) ?_
    have e1 : (bstr l).data = (bstr [0, 3, 0, 4]).data := Array.toList_inj.1 (e.trans rfl)
    cases h1 : bstr l
    cases h2 : bstr [0, 3, 0, 4]
    rw [h1, h2] at e1
    exact congrArg ByteArray.mk e1
  · rintro rfl
    rfl
end Go.ZM

set_option maxRecDepth 100000
namespace Go.ZM
open Go.Z Go.ZR
def okOut (o : OutR) : Prop := ∀ x ∈ o.pk, okLt x.tag x.ch
def okR (r : AsR × OutR) : Prop := okAs r.1 ∧ okOut r.2
theorem okOut_nil {e : List Int} : okOut ⟨[], e⟩ := fun x hx => by cases hx
theorem okOut_one {t : Int} {c : ChR} {e : List Int} (h : okLt t c) : okOut ⟨[⟨t, c⟩], e⟩ := fun x hx => by
  rcases List.mem_singleton.1 hx with rfl
  exact h
theorem okB_nil : okB [] := fun x hx => by cases hx
theorem okLt_bare {t k f : Int} (ht : okU t) (hk : 0 ≤ k ∧ k ≤ 255) (hf : 0 ≤ f ∧ f ≤ 255) : okLt t ⟨k, f, []⟩ := ⟨ht, ⟨hk, hf, okB_nil⟩, by simp⟩
theorem okLt_no : okLt 0 noCh := okLt_bare okU0 ⟨by decide, by decide⟩ ⟨by decide, by decide⟩
theorem fromHel_tf (h : HelR) (ack : Bool) : (0 ≤ (fromHel h ack).1.t ∧ (fromHel h ack).1.t ≤ 255) ∧ (0 ≤ (fromHel h ack).1.f ∧ (fromHel h ack).1.f ≤ 255) := by
  unfold fromHel
  repeat' split
  all_goals (simp [noCh])
theorem okLt_hel {t : Int} {h : HelR} {ack : Bool} (ht : okU t) (hb : okB h.cookie) : okLt t (fromHel h ack).1 :=
  ⟨ht, ⟨(fromHel_tf h ack).1, (fromHel_tf h ack).2, fromHel_okB hb ack⟩, by have := fromHel_len h ack; omega⟩
theorem endA_ok {a : AsR} (h : okAs a) : okAs (endA a) := by
  refine ⟨⟨?_, ?_⟩, h.win, h.life, h.rto, h.tries, okLt_no, ⟨?_, ?_⟩, ⟨?_, ?_⟩, ⟨?_, ?_⟩, okU0, okU0, okU0, okU0, fun _ => ⟨rfl, rfl, rfl, rfl, rfl, rfl, rfl, rfl, rfl⟩⟩
  all_goals (show (_ : Int) ≤ _; simp only [endA]; omega)
theorem still_ok {a : AsR} (h : okAs a) {k m n p q : Int} (hk : 1 ≤ k ∧ k ≤ 7) (hm : okU m) (hn : okU n) (hp : okU p) (hq : okU q) :
    okAs { a with ltag := 0, lch := noCh, at_ := 0, left := 0, set := false, st := k, mt := m, ms := n, pt := p, ps := q } := by
  refine ⟨h.key, h.win, h.life, h.rto, h.tries, okLt_no, ⟨?_, ?_⟩, ⟨?_, ?_⟩, ⟨?_, ?_⟩, hm, hn, hp, hq, fun e => ?_⟩
  all_goals first
    | (exact absurd (show k = 0 from e) (by omega))
    | (simp only; omega)
theorem wait_ok {a : AsR} (h : okAs a) {k m n p q t now : Int} {c : ChR} (hk : 1 ≤ k ∧ k ≤ 7) (hm : okU m) (hn : okU n) (hp : okU p) (hq : okU q) (hl : okLt t c) (hw : okNow now) :
    okR (waitA { a with st := k, mt := m, ms := n, pt := p, ps := q } t c now) := by
  have h1 := h.rto
  have h2 := h.tries
  unfold okNow at hw
  refine ⟨⟨h.key, h.win, h.life, h.rto, h.tries, hl, ⟨?_, ?_⟩, ⟨?_, ?_⟩, ⟨?_, ?_⟩, hm, hn, hp, hq, fun e => ?_⟩, okOut_one hl⟩
  all_goals first
    | (exact absurd (show k = 0 from e) (by omega))
    | (simp only [waitA]; omega)
theorem greet_ok {a : AsR} (h : okAs a) {m n now : Int} (hm : okU m) (hn : okU n) (hw : okNow now) : okR (greetA { a with mt := m, ms := n } now) :=
  wait_ok (k := 1) h (by omega) hm hn okU0 okU0 (okLt_hel okU0 okB_nil) hw
theorem open_ok {a : AsR} (h : okAs a) {t n w : Int} (ht : okU t) (hn : okU n) (hw : okNow w) : okR ((openA a t n w).1, (openA a t n w).2.1) := by
  unfold openA
  split
  · exact ⟨h, okOut_nil⟩
  split
  · exact ⟨h, okOut_nil⟩
  · exact greet_ok h ht hn hw
theorem tick_ok {a : AsR} (h : okAs a) {w : Int} (hw : okNow w) : okR (tickA a w) := by
  unfold tickA
  split
  · exact ⟨h, okOut_nil⟩
  rename_i h0
  split
  · exact ⟨endA_ok h, okOut_nil⟩
  have h1 := h.rto
  have h2 := h.left
  unfold okNow at hw
  refine ⟨⟨h.key, h.win, h.life, h.rto, h.tries, h.ltr, ⟨?_, ?_⟩, ⟨?_, ?_⟩, h.st, h.mt, h.ms, h.pt, h.ps, fun e => ?_⟩, okOut_one h.ltr⟩
  all_goals first
    | (exact absurd (Or.inl (h.zero e).2.2.2.2.2.2.2.2) h0)
    | (simp only; omega)
theorem shut_ok {a : AsR} (h : okAs a) {w : Int} (hw : okNow w) : okR (shutA a w) := wait_ok (k := 5) h (by omega) h.mt h.ms h.pt h.ps (okLt_bare h.pt (by omega) (by omega)) hw
theorem shac_ok {a : AsR} (h : okAs a) {w : Int} (hw : okNow w) : okR (shacA a w) := wait_ok (k := 7) h (by omega) h.mt h.ms h.pt h.ps (okLt_bare h.pt (by omega) (by omega)) hw
theorem st_ok {a : AsR} (h : okAs a) {k : Int} (hk : 1 ≤ k ∧ k ≤ 7) : okAs { a with st := k } :=
  ⟨h.key, h.win, h.life, h.rto, h.tries, h.ltr, h.at_, h.left, by simp only; omega, h.mt, h.ms, h.pt, h.ps, fun e => absurd (show k = 0 from e) (by omega)⟩
theorem close_ok {a : AsR} (h : okAs a) {w : Int} {b : Bool} (hw : okNow w) : okR ((closeA a w b).1, (closeA a w b).2.1) := by
  unfold closeA
  split
  · exact ⟨h, okOut_nil⟩
  split
  · exact shut_ok h hw
  · exact ⟨st_ok h (by omega), okOut_nil⟩
theorem drain_ok {a : AsR} (h : okAs a) {w : Int} (hw : okNow w) : okR (drainA a w) := by
  unfold drainA
  split
  · exact shut_ok h hw
  split
  · exact shac_ok h hw
  · exact ⟨h, okOut_nil⟩
theorem abort_ok {a : AsR} (h : okAs a) : okR (abortA a) := by
  unfold abortA
  split
  · exact ⟨h, okOut_nil⟩
  refine ⟨endA_ok h, ?_⟩
  show okOut (if a.pt = 0 then noOut else _)
  split
  · exact okOut_nil
  · exact okOut_one (okLt_bare h.pt (by omega) (by omega))
theorem take_ok {a : AsR} (h : okAs a) {x : CruR} (hx : okCru x) (ev : Int) : okR (takeA a x ev) :=
  ⟨still_ok (k := 3) h (by omega) hx.2.1 hx.2.2.2.1 hx.2.2.1 hx.2.2.2.2.1, okOut_one (okLt_bare hx.2.2.1 (by omega) (by omega))⟩
theorem numT_ok {a : AsR} (h : okAs a) {d : Int} (hd : okU d) : okU (numT a d) := by
  unfold numT drawT
  repeat' split
  · exact h.mt
  · exact okU1
  · exact hd
theorem numS_ok {a : AsR} (h : okAs a) {d : Int} (hd : okU d) : okU (numS a d) := by
  unfold numS
  split
  · exact h.ms
  · exact okU_sub hd
theorem called_ok {a : AsR} (h : okAs a) {x : HelR} (hx : okHel x) {w d : Int} : okR (calledA a x w d) := by
  unfold calledA
  split
  · exact ⟨h, okOut_one h.ltr⟩
  split
  · exact ⟨h, okOut_one (okLt_hel hx.1 (seal_ok _ _).1)⟩
  · exact ⟨h, okOut_nil⟩
theorem echoed_ok {a : AsR} (h : okAs a) {x : CruR} (hx : okCru x) {w : Int} : okR (echoedA a x w) := by
  unfold echoedA
  repeat' split
  all_goals first
    | exact take_ok h hx _
    | exact ⟨h, okOut_one ⟨hx.2.2.1, ⟨by decide, by decide, by intro y hy; simp [staleC] at hy; omega⟩, by decide⟩⟩
    | exact ⟨h, okOut_one h.ltr⟩
    | exact ⟨h, okOut_nil⟩
    | exact ⟨h, okOut_one (okLt_bare h.pt (by omega) (by omega))⟩
theorem okR_ite {p : Prop} [Decidable p] {x y : AsR × OutR} (hx : p → okR x) (hy : ¬ p → okR y) : okR (if p then x else y) := by
  by_cases h : p
  · rw [if_pos h]; exact hx h
  · rw [if_neg h]; exact hy h
theorem toHel_cookie (c : ChR) : (toHel c).1.cookie.length ≤ 256 := by
  by_cases h4 : (fromHel (helOf c) (decide (c.t = 2))).2 ≠ 0 ∨ sameB (fromHel (helOf c) (decide (c.t = 2))).1 c = false
  · have e : toHel c = (noHel, 2) := if_pos h4
    rw [e]; exact Nat.zero_le _
  · have e : toHel c = (helOf c, 0) := if_neg h4
    rw [e]
    exact (fromHel_ok (h := helOf c) (ack := decide (c.t = 2)) (by simpa using (not_or.1 h4).1)).2.1
theorem recv_ok {a : AsR} (h : okAs a) {t : Int} {c : ChR} (hc : okLt t c) {w d : Int} (hw : okNow w) : okR (recvA a t c w d) := by
  have hcv : sm c.v.length := by have := hc.2.2; unfold sm; omega
  have hth := toHel_okHel hc.2.1.2.2 hcv
  have hop := open_okCru (k := a.key) hc.2.1.2.2
  have hno : okR (a, noOut) := ⟨h, okOut_nil⟩
  unfold recvA
  refine okR_ite (fun _ => okR_ite (fun _ => called_ok h hth) fun _ => hno) fun _ => ?_
  refine okR_ite (fun _ => okR_ite (fun _ => ?_) fun _ => hno) fun _ => ?_
  · refine wait_ok (k := 2) h (by omega) h.mt h.ms hth.1 hth.2.2.2.2.1 ⟨hth.1, ⟨⟨by simp only; omega, by simp only; omega⟩, ⟨by simp only; omega, by simp only; omega⟩, hth.2.2.2.2.2.1⟩, ?_⟩ hw
    have := toHel_cookie c
    simp only; omega
  refine okR_ite (fun _ => okR_ite (fun _ => echoed_ok h hop.1) fun _ => hno) fun _ => ?_
  refine okR_ite (fun _ => okR_ite (fun _ => ⟨still_ok (k := 3) h (by omega) h.mt h.ms h.pt h.ps, okOut_nil⟩) fun _ => hno) fun _ => ?_
  refine okR_ite (fun _ => okR_ite (fun _ => greet_ok h h.mt h.ms hw) fun _ => hno) fun _ => ?_
  refine okR_ite (fun _ => okR_ite (fun _ => ⟨endA_ok h, okOut_nil⟩) fun _ => hno) fun _ => ?_
  refine okR_ite (fun _ => okR_ite (fun _ => ⟨still_ok (k := 6) h (by omega) h.mt h.ms h.pt h.ps, okOut_nil⟩) fun _ => okR_ite (fun _ => shac_ok h hw) fun _ => hno) fun _ => ?_
  refine okR_ite (fun _ => okR_ite (fun _ => ⟨h, okOut_one (okLt_bare hc.1 (by omega) (by omega))⟩) fun _ => okR_ite (fun _ => ⟨endA_ok h, okOut_one (okLt_bare h.pt (by omega) (by omega))⟩) fun _ => hno) fun _ => ?_
  exact okR_ite (fun _ => okR_ite (fun _ => ⟨endA_ok h, okOut_nil⟩) fun _ => hno) fun _ => hno
end Go.ZM

set_option maxRecDepth 100000
namespace Go.ZM
open Go.Z Go.ZR
structure PrR where
  a : AsR
  b : AsR
  v : List LtrR
  w : List LtrR
  now : Int
  draw : Int
  u : Bool
  t : Bool
def drF (d : Int) : Int := (d * 2654435769) % 4294967296
def nxt (d : Int) : Int := (d + 1) % 4294967296
def newG (k l r t : Int) : AsR := ⟨k, 9000, l, r, t, 0, noCh, 0, 0, false, 0, 0, 0, 0, 0⟩
def newA (k : Int) : AsR := newG (k * 4294967296) 200 12 8
def sideF (p : PrR) (s : Int) : AsR := if s = 0 then p.a else p.b
def wayF (p : PrR) (s : Int) : List LtrR := if s = 0 then p.v else p.w
def upOf (p : PrR) (s : Int) : Bool := if s = 0 then p.u else p.t
def putS (p : PrR) (s : Int) (x : AsR) : PrR := if s = 0 then { p with a := x } else { p with b := x }
def putW (p : PrR) (s : Int) (x : List LtrR) : PrR := if s = 0 then { p with v := x } else { p with w := x }
def putU (p : PrR) (s : Int) (x : Bool) : PrR := if s = 0 then { p with u := x } else { p with t := x }
def drawn (p : PrR) : PrR := { p with draw := nxt p.draw }
def lot (p : PrR) : Int := drF (nxt p.draw)
def startF (p : PrR) (s : Int) : PrR := putS (drawn p) s (newA (lot p))
def upF (l : List Int) (u : Bool) : Bool := l.foldl (fun _ e => decide (e = 1) || decide (e = 2)) u
def saidF (p : PrR) (s : Int) (o : OutR) : PrR := putU (putW p (1 - s) (wayF p (1 - s) ++ o.pk)) s (upF o.ev (upOf p s))
def hear (p : PrR) (s : Int) (r : AsR × OutR) : PrR := saidF (putS p s r.1) s r.2
def without (l : List LtrR) (k : Nat) : List LtrR := l.take k ++ l.drop (k + 1)
def delF (p : PrR) (s : Int) (k : Nat) : PrR :=
  hear (putW (drawn p) s (without (wayF p s) k)) s (recvA (sideF p s) ((wayF p s).getD k noLtr).tag ((wayF p s).getD k noLtr).ch p.now (lot p))
structure MvR where
  kind : Int
  s : Int
  k : Int
def noMv : MvR := ⟨0, 0, 0⟩
def sdF (m : MvR) : Int := if Int.tmod m.s 2 ≠ 0 then 1 else 0
def kF (n : Nat) (k : Int) : Nat := if 0 < n ∧ 0 < k then (k.toNat % n) else 0
def two (r : AsR × OutR × Int) : AsR × OutR := (r.1, r.2.1)
def moveS (p : PrR) (s : Int) (k : Nat) (kind : Int) : PrR :=
  if kind = 1 then (if 0 < (wayF p s).length then delF p s k else p) else
  if kind = 2 then (if 0 < (wayF p s).length then putW p s (without (wayF p s) k) else p) else
  if kind = 3 then (if 0 < (wayF p s).length ∧ (wayF p s).length < 40 then putW p s (wayF p s ++ [(wayF p s).getD k noLtr]) else p) else
  if kind = 4 then hear (drawn p) s (two (openA (sideF p s) (lot p) (4294967295 - lot p) p.now)) else
  if kind = 5 then hear { p with now := p.now + 1 } s (tickA (sideF p s) (p.now + 1)) else
  if kind = 6 then hear p s (two (closeA (sideF p s) p.now true)) else
  if kind = 7 then hear p s (drainA (sideF p s) p.now) else
  if kind = 8 then hear p s (abortA (sideF p s)) else
  if kind = 9 then startF p s else p
def moveF (p : PrR) (m : MvR) : PrR := moveS p (sdF m) (kF (wayF p (sdF m)).length m.k) m.kind
def pr0 : PrR := ⟨noAs, noAs, [], [], 0, 0, false, false⟩
def pr1 : PrR := startF (startF pr0 0) 1
def grownF (l : List MvR) (i : Nat) : PrR := (l.take i).foldl moveF pr1
def lenP (p : PrR) : Nat := p.v.length + p.w.length
def popF (p : PrR) (s : Int) : PrR := if 0 < (wayF p s).length then delF p s 0 else p
def roundF (p : PrR) : PrR := popF (popF p 0) 1
def loopF : Nat → PrR → PrR
  | 0, p => p
  | n + 1, p => if 0 < lenP p then loopF n (roundF p) else p
def tickF (p : PrR) (s : Int) : PrR := hear p s (tickA (sideF p s) p.now)
def dawnF (p : PrR) : PrR := tickF (tickF { p with now := p.now + 1 } 0) 1
def dayF (p : PrR) : PrR := loopF 400 (dawnF p)
def calmF : Nat → PrR → PrR
  | 0, p => p
  | n + 1, p => dayF (calmF n p)
structure okPr (M N : Nat) (p : PrR) : Prop where
  a : okAs p.a
  b : okAs p.b
  v : ∀ x ∈ p.v, okLt x.tag x.ch
  w : ∀ x ∈ p.w, okLt x.tag x.ch
  now : 0 ≤ p.now ∧ p.now ≤ M
  draw : okU p.draw
  len : lenP p ≤ N
theorem okPr.mono {M N M' N' : Nat} {p : PrR} (h : okPr M N p) (k : M ≤ M') (k' : N ≤ N') : okPr M' N' p := ⟨h.a, h.b, h.v, h.w, ⟨h.now.1, by have := h.now.2; omega⟩, h.draw, Nat.le_trans h.len k'⟩
theorem drF_ok (d : Int) : okU (drF d) := by unfold okU drF; omega
theorem nxt_ok (d : Int) : okU (nxt d) := by unfold okU nxt; omega
theorem newA_ok {k : Int} (h : okU k) : okAs (newA k) := by
  unfold okU at h
  refine ⟨⟨?_, ?_⟩, ⟨?_, ?_⟩, ⟨?_, ?_⟩, ⟨?_, ?_⟩, ⟨?_, ?_⟩, okLt_no, ⟨?_, ?_⟩, ⟨?_, ?_⟩, ⟨?_, ?_⟩, okU0, okU0, okU0, okU0, fun _ => ⟨rfl, rfl, rfl, rfl, rfl, rfl, rfl, rfl, rfl⟩⟩
  all_goals (simp only [newA, newG]; omega)
theorem okPr.drawn {M N : Nat} {p : PrR} (h : okPr M N p) : okPr M N (drawn p) := ⟨h.a, h.b, h.v, h.w, h.now, nxt_ok _, h.len⟩
theorem okPr.tick {M N : Nat} {p : PrR} (h : okPr M N p) : okPr (M + 1) N { p with now := p.now + 1 } := ⟨h.a, h.b, h.v, h.w, ⟨by have := h.now; simp only; omega, by have := h.now; simp only; omega⟩, h.draw, h.len⟩
theorem okPr.side {M N : Nat} {p : PrR} (h : okPr M N p) (s : Int) : okAs (sideF p s) := by
  unfold sideF
  split
  · exact h.a
  · exact h.b
theorem okPr.way {M N : Nat} {p : PrR} (h : okPr M N p) (s : Int) : ∀ x ∈ wayF p s, okLt x.tag x.ch := by
  unfold wayF
  split
  · exact h.v
  · exact h.w
theorem okPr.wayLen {M N : Nat} {p : PrR} (h : okPr M N p) (s : Int) : (wayF p s).length ≤ N := by
  have := h.len
  unfold lenP at this
  unfold wayF
  split <;> omega
theorem okPr.putS {M N : Nat} {p : PrR} (h : okPr M N p) (s : Int) {x : AsR} (hx : okAs x) : okPr M N (putS p s x) := by
  unfold Go.ZM.putS
  split
  · exact ⟨hx, h.b, h.v, h.w, h.now, h.draw, h.len⟩
  · exact ⟨h.a, hx, h.v, h.w, h.now, h.draw, h.len⟩
theorem okPr.putU {M N : Nat} {p : PrR} (h : okPr M N p) (s : Int) (x : Bool) : okPr M N (putU p s x) := by
  unfold Go.ZM.putU
  split
  · exact ⟨h.a, h.b, h.v, h.w, h.now, h.draw, h.len⟩
  · exact ⟨h.a, h.b, h.v, h.w, h.now, h.draw, h.len⟩
theorem okPr.putW {M N N' : Nat} {p : PrR} (h : okPr M N p) (s : Int) {x : List LtrR} (hx : ∀ y ∈ x, okLt y.tag y.ch) (hl : x.length + N ≤ (wayF p s).length + N') : okPr M N' (putW p s x) := by
  have h1 := h.len
  unfold lenP at h1
  unfold wayF at hl
  unfold Go.ZM.putW
  split at hl
  · rename_i e
    rw [if_pos e]
    exact ⟨h.a, h.b, hx, h.w, h.now, h.draw, by unfold lenP; simp only; omega⟩
  · rename_i e
    rw [if_neg e]
    exact ⟨h.a, h.b, h.v, hx, h.now, h.draw, by unfold lenP; simp only; omega⟩
theorem okPr.said {M N : Nat} {p : PrR} (h : okPr M N p) (s : Int) {o : OutR} (ho : okOut o) (hl : o.pk.length ≤ 1) : okPr M (N + 1) (saidF p s o) := by
  refine okPr.putU (h.putW (N' := N + 1) (1 - s) ?_ (by rw [List.length_append]; omega)) s _
  intro y hy
  rcases List.mem_append.1 hy with hy | hy
  · exact h.way _ y hy
  · exact ho y hy
theorem okPr.hear {M N : Nat} {p : PrR} (h : okPr M N p) (s : Int) {r : AsR × OutR} (hr : okR r) (hl : r.2.pk.length ≤ 1) : okPr M (N + 1) (hear p s r) :=
  (h.putS s hr.1).said s hr.2 hl
theorem okPr.start {M N : Nat} {p : PrR} (h : okPr M N p) (s : Int) : okPr M N (startF p s) := h.drawn.putS s (newA_ok (drF_ok _))
theorem one_wait {a : AsR} {t : Int} {c : ChR} {n : Int} : (waitA a t c n).2.pk.length ≤ 1 := Nat.le_refl 1
theorem one_say {t : Int} {c : ChR} : (sayO t c).pk.length ≤ 1 := Nat.le_refl 1
theorem one_no : noOut.pk.length ≤ 1 := Nat.zero_le 1
theorem one_ite {p : Prop} [Decidable p] {x y : AsR × OutR} (hx : x.2.pk.length ≤ 1) (hy : y.2.pk.length ≤ 1) : (if p then x else y).2.pk.length ≤ 1 := by
  by_cases h : p
  · rw [if_pos h]; exact hx
  · rw [if_neg h]; exact hy
theorem one_recv (a : AsR) (t : Int) (c : ChR) (w d : Int) : (recvA a t c w d).2.pk.length ≤ 1 := by
  unfold recvA
  repeat' (first | exact one_no | exact one_wait | exact one_say | exact Nat.zero_le 1 | exact Nat.le_refl 1 | apply one_ite | unfold calledA | unfold echoedA)
theorem one_tick (a : AsR) (w : Int) : (tickA a w).2.pk.length ≤ 1 := by
  unfold tickA
  repeat' (first | exact one_no | exact one_wait | exact one_say | exact Nat.zero_le 1 | exact Nat.le_refl 1 | apply one_ite)
theorem one_open (a : AsR) (t n w : Int) : (two (openA a t n w)).2.pk.length ≤ 1 := by
  unfold openA two
  split
  · exact one_no
  split
  · exact one_no
  · exact one_wait
theorem one_close (a : AsR) (w : Int) (b : Bool) : (two (closeA a w b)).2.pk.length ≤ 1 := by
  unfold closeA two
  split
  · exact one_no
  split
  · exact one_wait
  · exact one_no
theorem one_drain (a : AsR) (w : Int) : (drainA a w).2.pk.length ≤ 1 := by
  unfold drainA
  repeat' (first | exact one_no | exact one_wait | apply one_ite)
theorem one_abort (a : AsR) : (abortA a).2.pk.length ≤ 1 := by
  unfold abortA
  refine one_ite one_no ?_
  show (if a.pt = 0 then noOut else _).pk.length ≤ 1
  split
  · exact one_no
  · exact one_say
theorem lt_getD {l : List LtrR} {k : Nat} (h : ∀ x ∈ l, okLt x.tag x.ch) : okLt (l.getD k noLtr).tag (l.getD k noLtr).ch := by
  by_cases hk : k < l.length
  · rw [show l.getD k noLtr = l[k] by simp [List.getD, List.getElem?_eq_getElem hk]]
    exact h _ (List.getElem_mem hk)
  · rw [show l.getD k noLtr = noLtr by simp [List.getD, List.getElem?_eq_none (Nat.le_of_not_lt hk)]]
    exact okLt_no
theorem without_mem {l : List LtrR} {k : Nat} {x : LtrR} (h : x ∈ without l k) : x ∈ l := by
  rcases List.mem_append.1 h with h | h
  · exact List.mem_of_mem_take h
  · exact List.mem_of_mem_drop h
theorem without_len {l : List LtrR} {k : Nat} (h : k < l.length) : (without l k).length + 1 = l.length := by
  unfold without
  rw [List.length_append, List.length_take, List.length_drop]
  omega
theorem okNow_of {N : Nat} {n : Int} (h : 0 ≤ n ∧ n ≤ N) (hN : N ≤ 1000001) : okNow n := by unfold okNow; omega
theorem okPr.del {M N : Nat} {p : PrR} (h : okPr M N p) (hM : M ≤ 1000000) (s : Int) {k : Nat} (hk : k < (wayF p s).length) : okPr M N (delF p s k) := by
  have h1 := without_len hk
  have h2 := h.wayLen s
  obtain ⟨N, rfl⟩ : ∃ n, N = n + 1 := ⟨N - 1, by omega⟩
  refine okPr.hear (N := N) ?_ s (recv_ok (h.side s) (lt_getD (h.way s)) (okNow_of h.now (by omega))) (one_recv _ _ _ _ _)
  refine h.drawn.putW s (fun y hy => h.way s y (without_mem hy)) ?_
  show (without (wayF p s) k).length + (N + 1) ≤ (wayF p s).length + N
  omega
theorem okPr.move {M N : Nat} {p : PrR} (h : okPr M N p) (hM : M ≤ 1000000) (s : Int) (k : Nat) (hk : 0 < (wayF p s).length → k < (wayF p s).length) (m : Int) : okPr (M + 1) (N + 1) (moveS p s k m) := by
  have h0 : okPr (M + 1) (N + 1) p := h.mono (by omega) (by omega)
  have hn : okNow p.now := okNow_of h.now (by omega)
  unfold moveS
  split
  · split
    · rename_i h1
      exact (h.del hM s (hk h1)).mono (by omega) (by omega)
    · exact h0
  split
  · split
    · rename_i h1
      have h2 := without_len (hk h1)
      exact h0.putW s (fun y hy => h.way s y (without_mem hy)) (by omega)
    · exact h0
  split
  · split
    · refine (h.putW (N' := N + 1) s (fun y hy => ?_) (by simp only [List.length_append, List.length_singleton]; omega)).mono (by omega) (by omega)
      rcases List.mem_append.1 hy with hy | hy
      · exact h.way s y hy
      · rw [List.mem_singleton.1 hy]
        exact lt_getD (h.way s)
    · exact h0
  split
  · exact (h.drawn.hear s (open_ok (h.side s) (drF_ok _) (okU_sub (drF_ok _)) hn) (one_open _ _ _ _)).mono (by omega) (by omega)
  split
  · exact h.tick.hear s (tick_ok (h.side s) (okNow_of h.tick.now (by omega))) (one_tick _ _)
  split
  · exact (h.hear s (close_ok (h.side s) hn) (one_close _ _ _)).mono (by omega) (by omega)
  split
  · exact (h.hear s (drain_ok (h.side s) hn) (one_drain _ _)).mono (by omega) (by omega)
  split
  · exact (h.hear s (abort_ok (h.side s)) (one_abort _)).mono (by omega) (by omega)
  split
  · exact h0.start s
  · exact h0
theorem kF_lt {n : Nat} (k : Int) (h : 0 < n) : kF n k < n := by
  unfold kF
  split
  · exact Nat.mod_lt _ h
  · exact h
theorem okPr.moveF {M N : Nat} {p : PrR} (h : okPr M N p) (hM : M ≤ 1000000) (m : MvR) : okPr (M + 1) (N + 1) (moveF p m) := h.move hM _ _ (fun k => kF_lt _ k) _
theorem ok_pr1 : okPr 0 0 pr1 := by
  refine ⟨newA_ok (drF_ok _), newA_ok (drF_ok _), ?_, ?_, ⟨Int.le_refl _, Int.le_refl _⟩, nxt_ok _, Nat.le_refl 0⟩
  · intro x hx; cases hx
  · intro x hx; cases hx
theorem grown_succ {l : List MvR} {i : Nat} (h : i < l.length) : grownF l (i + 1) = moveF (grownF l i) (l.getD i noMv) := by
  unfold grownF
  rw [List.take_succ_eq_append_getElem h, List.foldl_append]
  simp [h]
theorem grown_ok (l : List MvR) : ∀ i, i ≤ 1000 → okPr i i (grownF l i)
  | 0, _ => ok_pr1
  | i + 1, hi => by
    have h := grown_ok l i (by omega)
    by_cases h1 : i < l.length
    · rw [grown_succ h1]
      exact h.moveF (by omega) _
    · have e : grownF l (i + 1) = grownF l i := by
        unfold grownF
        rw [List.take_of_length_le (by omega), List.take_of_length_le (by omega)]
      rw [e]
      exact h.mono (by omega) (by omega)
theorem okPr.pop {M N : Nat} {p : PrR} (h : okPr M N p) (hM : M ≤ 1000000) (s : Int) : okPr M N (popF p s) := by
  unfold popF
  split
  · rename_i h1
    exact h.del hM s h1
  · exact h
theorem okPr.round {M N : Nat} {p : PrR} (h : okPr M N p) (hM : M ≤ 1000000) : okPr M N (roundF p) := (h.pop hM 0).pop hM 1
theorem okPr.loop {M N : Nat} (hM : M ≤ 1000000) : ∀ (n : Nat) {p : PrR}, okPr M N p → okPr M N (loopF n p)
  | 0, _, h => h
  | n + 1, p, h => by
    show okPr M N (if 0 < lenP p then loopF n (roundF p) else p)
    split
    · exact okPr.loop hM n (h.round hM)
    · exact h
theorem okPr.tickS {M N : Nat} {p : PrR} (h : okPr M N p) (hM : M ≤ 1000000) (s : Int) : okPr M (N + 1) (tickF p s) := h.hear s (tick_ok (h.side s) (okNow_of h.now (by omega))) (one_tick _ _)
theorem okPr.dawn {M N : Nat} {p : PrR} (h : okPr M N p) (hM : M < 1000000) : okPr (M + 1) (N + 2) (dawnF p) := (h.tick.tickS (by omega) 0).tickS (by omega) 1
theorem okPr.day {M N : Nat} {p : PrR} (h : okPr M N p) (hM : M < 1000000) : okPr (M + 1) (N + 2) (dayF p) := okPr.loop (by omega) _ (h.dawn hM)
theorem okPr.calm {M N : Nat} {p : PrR} (h : okPr M N p) : ∀ n, M + n ≤ 1000000 → okPr (M + n) (N + 2 * n) (calmF n p)
  | 0, _ => h
  | n + 1, hn => (okPr.calm h n (by omega)).day (by omega)
end Go.ZM

set_option maxRecDepth 100000
namespace Go.ZM
open Go.Z Go.ZR
def ltrsOf : D → List LtrR
  | .recs 4 n f => (List.range n).map fun i => ⟨vi (f i 0), ⟨vi (f i 1), vi (f i 2), vl (f i 3)⟩⟩
  | _ => []
theorem ltrsOf_ltrs (l : List LtrR) : ltrsOf (.recs 4 l.length (ltrCell l)) = l := range_getD l noLtr
def asLt (A : D) (l : List LtrR) : Prop := ltrsOf A = l ∧ ∃ f, A = .recs 4 l.length f ∧ ∀ i, i < l.length → ∀ j, j < 4 → f i j = ltrCell l i j
theorem asLt_self (l : List LtrR) : asLt (.recs 4 l.length (ltrCell l)) l := ⟨ltrsOf_ltrs l, _, rfl, fun _ _ _ _ => rfl⟩
theorem asLt_of {n : Nat} {f : Nat → Nat → D} {l : List LtrR} (hn : n = l.length) (h : ∀ i, i < l.length → ∀ j, j < 4 → f i j = ltrCell l i j) : asLt (.recs 4 n f) l := by
  subst hn
  refine ⟨Eq.trans ?_ (ltrsOf_ltrs l), f, rfl, h⟩
  show (List.range l.length).map _ = (List.range l.length).map _
  refine List.map_congr_left fun i hi => ?_
  have hi := List.mem_range.1 hi
  rw [h i hi 0 (by omega), h i hi 1 (by omega), h i hi 2 (by omega), h i hi 3 (by omega)]
end Go.ZM
namespace Go.ZR
open Go.Z Go.ZM Go.Proofs
def wyO (l : List LtrR) : O := .own 150 (ltrsD l)
def prL (p : PrR) (A B : O) : List O := [rfO p.a, rfO p.b, asO p.a, asO p.b, A, B, iO .i64 p.now, iO .u32 p.draw, bO false, bO p.u, bO p.t]
def prO (p : PrR) : O := .ptr 59 (prL p (wyO p.v) (wyO p.w))
def oD : O → D
  | .own _ d => d
  | .d d => d
  | _ => .v (.bool false)
def prOf : O → PrR
  | .ptr 59 [_, _, a, b, v, w, now, draw, _, u, t] => ⟨asOf a, asOf b, ltrsOf (oD v), ltrsOf (oD w), vi (dO now), vi (dO draw), vb (dO u), vb (dO t)⟩
  | _ => ⟨noAs, noAs, [], [], 0, 0, false, false⟩
def outOf : O → OutR
  | .agg [.d p, .d e] => ⟨ltrsOf p, vl e⟩
  | _ => noOut
end Go.ZR
namespace Go.ZM
open Go.Z Go.ZR
def evs (l : List Int) : Prop := l = [] ∨ l = [1] ∨ l = [2] ∨ l = [3] ∨ l = [4]
def okO (o : OutR) : Prop := okOut o ∧ o.pk.length ≤ 1 ∧ evs o.ev
theorem evs_len {l : List Int} (h : evs l) : l.length ≤ 1 := by
  rcases h with rfl | rfl | rfl | rfl | rfl <;> decide
def okP (n : Nat) (p : PrR) : Prop := okPr n n p
end Go.ZM
namespace Go.ZR
open Go.Z Go.ZM Go.Proofs
def sintsC : Ctr := nC 2 true (fun a => ∃ l, a = [.d (.ints .i64 l), .d (.ints .i64 l)] ∧ sm l.length) fun _ => [bO true]
def sameOC : Ctr := nC 2 true (fun a => ∃ o, a = [outW o, outW o] ∧ okO o) fun _ => [bO true]
def ownCC : Ctr := { nC 1 false (fun a => ∃ c, a = [chO c] ∧ sm c.v.length) (fun a => [chO (chOf (at_ a 0))]) with ro := true }
def freshPC : Ctr := { nC 4 false (fun a => ∃ k l r t, a = [iO .u64 k, iO .i64 l, iO .i64 r, iO .i64 t] ∧ (1 ≤ l ∧ l ≤ 1048576) ∧ (1 ≤ r ∧ r ≤ 1048576) ∧ (0 ≤ t ∧ t ≤ 100)) (fun a => [asO (newG (nO a 0) (nO a 1) (nO a 2) (nO a 3)), rfO (newG (nO a 0) (nO a 1) (nO a 2) (nO a 3))]) with ro := true }
def likeC : Ctr where
  own := [true, true]
  pre := fun a => ∃ s, a = [asO s, rfO s]
  res := fun _ => [bO true]
  upd := fun a => a
  ro := true
  quiet := false
def prC (n : Nat) (pre : List O → Prop) (f : List O → PrR) (res : List O → List O) : Ctr where
  own := true :: List.replicate n false
  pre := pre
  res := res
  upd := fun a => prO (f a) :: List.replicate n .any
  ro := true
  quiet := false
def pO (a : List O) : PrR := prOf (at_ a 0)
def isS (s : Int) : Prop := s = 0 ∨ s = 1
def saidG (pre : List O → Prop) : Ctr := prC 3 pre (fun a => saidF (pO a) (nO a 1) (outOf (at_ a 2))) fun _ => []
def saidC0 : Ctr := saidG fun a => ∃ p s o, a = [prO p, iO .i64 s, outW o, outW o] ∧ isS s ∧ okP 2000 p ∧ okO o
def saidC : Ctr := saidG fun a => ∃ p s o A B, a = [.ptr 59 (prL p (.own 150 A) (.own 150 B)), iO .i64 s, outW o, outW o] ∧ isS s ∧ asLt A p.v ∧ asLt B p.w ∧ okP 2000 p ∧ okO o
end Go.ZR
namespace Go.ZR
open Go.Z Go.ZM Go.Proofs
def cntA (s : Nat) (n : Nat) : LoopAnn where
  γ := Nat
  pre := fun i => i ≤ n
  μ := fun i => n - i
  items := fun i => [(s, .c (iO .i64 (i : Int)))]
def asDs (a : AsR) : List D := [.v (.int .u64 a.key), .v (.int .u32 a.win), .v (.int .i64 a.life), .v (.int .i64 a.rto), .v (.int .i64 a.tries), .v (.int .u32 a.ltag), .v (.int .u8 a.lch.t), .v (.int .u8 a.lch.f), .ints .u8 a.lch.v, .v (.int .i64 a.at_), .v (.int .i64 a.left), .v (.bool a.set),
  .v (.int .i64 a.st), .v (.int .u32 a.mt), .v (.int .u32 a.ms), .v (.int .u32 a.pt), .v (.int .u32 a.ps), ltrsD [], evD []]
def asD (a : AsR) : D := ptrD 148 (asDs a)
def cellP : O → Nat → D
  | .d (.ptr _ _ f), i => f i
  | _, _ => .v (.bool false)
def peekC (res : List O → List O) : Ctr := nC 1 true (fun a => ∃ s, a = [.d (asD s)]) res
def tagsC : Ctr := peekC fun a => [iO .u32 (vi (cellP (at_ a 0) 13)), iO .u32 (vi (cellP (at_ a 0) 15))]
def firstsC : Ctr := peekC fun a => [iO .u32 (vi (cellP (at_ a 0) 14)), iO .u32 (vi (cellP (at_ a 0) 16))]
def stateC : Ctr := peekC fun a => [iO .i64 (vi (cellP (at_ a 0) 12))]
def l5 : List (Nat × Ctr) := [(33, tagsC), (34, firstsC), (35, stateC)]
def l3 : List (Nat × Ctr) := [(117, sintsC), (118, sameC)]
def l4 : List (Nat × Ctr) := [(71, sameOC), (72, likeC)]
end Go.ZR
