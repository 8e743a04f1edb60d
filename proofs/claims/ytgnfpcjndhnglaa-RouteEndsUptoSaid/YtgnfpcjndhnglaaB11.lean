/- Where a request goes, for lists that were laid in whichever way. -/
import Derived.Test.YtgnfpcjndhnglaaB10
import Derived.Test.YtgnfpcjndhnglaaY30
namespace Go.YM
open Go.Y
/-- A list of texts, of ways, of parts, however it was laid. -/
def asStrs (N : D) (l : List ByteArray) : Prop := strsOf N = l ∧ readsTo N (.recs 1 l.length (strCell l))
def asRts (R : D) (l : List RtR) : Prop := rtsOf R = l ∧ readsTo R (.recs 2 l.length (rtCell l))
def asAvps (A : D) (l : List AvpR) : Prop := avpsOf A = l ∧ readsTo A (.recs 5 l.length (avpCell l))
end Go.YM
namespace Go.YR
open Go.Proofs
open Go.Y Go.YM Go.RowKit

theorem asAvps_self (l : List AvpR) : asAvps (.recs 5 l.length (avpCell l)) l := ⟨avpsOf_avps l, readsTo_refl _⟩
theorem asStrs_self (l : List ByteArray) : asStrs (.recs 1 l.length (strCell l)) l := ⟨strsOf_strs l, readsTo_refl _⟩
theorem asRts_self (l : List RtR) : asRts (.recs 2 l.length (rtCell l)) l := ⟨rtsOf_rts l, readsTo_refl _⟩
def pickWC : Ctr where
  own := []
  pre := fun a => ∃ n names up m fr R N A, a = [.agg [sO n.host, sO n.realm, bO n.serves, isO n.peers, .d R], .d N, isO up,
      .agg [bO m.b0, bO m.b1, bO m.b2, bO m.b3, iO .u32 m.n0, iO .u32 m.n1, iO .u32 m.n2, iO .u32 m.n3, .d A], iO .i64 fr] ∧ okMay n names up m ∧ okNd n ∧ asRts R n.routes ∧ asStrs N names ∧ asAvps A m.avps
  res := fun a => [iO .i64 (pickA a).1, iO .i64 (pickA a).2]
  upd := fun _ => [.any, .any, .any, .any, .any]
  ro := false
  quiet := false
theorem ok13w : FnIs Try.prog 13 pickWC := by
  refine ok13.weak fun a hp => ?_
  obtain ⟨n, names, up, m, fr, R, N, A, rfl, h1, h2, ⟨r1, r2⟩, ⟨s1, s2⟩, ⟨t1, t2⟩⟩ := hp
  refine ⟨[ndO n, .d (strsD names), isO up, msgO m, iO .i64 fr], ⟨n, names, up, m, fr, rfl, h1, h2⟩, ?_, ?_, rfl⟩
  · refine toL_cons (toO_agg ?_) (toL_cons (toO_d s2) (toL_cons (toO_refl _) (toL_cons (toO_agg ?_) (toL_refl _))))
    · exact toL_cons (toO_refl _) (toL_cons (toO_refl _) (toL_cons (toO_refl _) (toL_cons (toO_refl _) (toL_cons (toO_d r2) (toL_refl _)))))
    · exact toL_cons (toO_refl _) (toL_cons (toO_refl _) (toL_cons (toO_refl _) (toL_cons (toO_refl _) (toL_cons (toO_refl _) (toL_cons (toO_refl _) (toL_cons (toO_refl _) (toL_cons (toO_refl _) (toL_cons (toO_d t2) (toL_refl _)))))))))
  · have e : pickA [.agg [sO n.host, sO n.realm, bO n.serves, isO n.peers, .d R], .d N, isO up,
      .agg [bO m.b0, bO m.b1, bO m.b2, bO m.b3, iO .u32 m.n0, iO .u32 m.n1, iO .u32 m.n2, iO .u32 m.n3, .d A], iO .i64 fr] = pickA [ndO n, .d (strsD names), isO up, msgO m, iO .i64 fr] := by
      have a1 := rtsOf_rts n.routes
      have a2 := strsOf_strs names
      have a3 := avpsOf_avps m.avps
      show pickF ⟨n.host, n.realm, n.serves, n.peers, rtsOf R⟩ (strsOf N) up (avpsOf A) fr = pickF ⟨n.host, n.realm, n.serves, n.peers, rtsOf (.recs 2 n.routes.length (rtCell n.routes))⟩ (strsOf (.recs 1 names.length (strCell names))) up (avpsOf (.recs 5 m.avps.length (avpCell m.avps))) fr
      rw [r1, s1, t1, a1, a2, a3]
    show [iO .i64 _, iO .i64 _] = [iO .i64 _, iO .i64 _]
    rw [e]
theorem reads_empty {es es' : Nat} {f g : Nat → Nat → D} : readsTo (.recs es 0 f) (.recs es' 0 g) := fun X w c hc => by
  obtain ⟨L, h1, h2, h3, h4, h5, _⟩ := hc
  exact ⟨L, h1, h2, h3, h4, h5, fun i hi => absurd hi (Nat.not_lt_zero _)⟩
theorem asStrs_nil {es : Nat} {f : Nat → Nat → D} : asStrs (.recs es 0 f) [] := ⟨rfl, reads_empty⟩
theorem asRts_nil {es : Nat} {f : Nat → Nat → D} : asRts (.recs es 0 f) [] := ⟨rfl, reads_empty⟩
def requestWC : Ctr where
  own := []
  pre := fun a => ∃ r h B b, a = [sO r, sO h, .d B] ∧ small b.length ∧ asStrs B b
  res := fun a => [reqMsg (reqF (vs (dO (at_ a 0))) (vs (dO (at_ a 1))) (strsOf (dO (at_ a 2))))]
  upd := fun _ => [.any, .any, .any]
  ro := true
  quiet := false
theorem ok18w : FnIs Try.prog 18 requestWC := by
  refine ok18.weak fun a hp => ?_
  obtain ⟨r, h, B, b, rfl, h1, s1, s2⟩ := hp
  refine ⟨[sO r, sO h, .d (strsD b)], ⟨r, h, b, rfl, h1⟩, ?_, ?_, rfl⟩
  · exact toL_cons (toO_refl _) (toL_cons (toO_refl _) (toL_cons (toO_d s2) (toL_refl _)))
  · show [reqMsg (reqF r h (strsOf (.recs 1 b.length (strCell b))))] = [reqMsg (reqF r h (strsOf B))]
    rw [s1, strsOf_strs]
def answersC : Ctr where
  own := []
  pre := fun a => a = []
  res := fun _ => [bO true]
  upd := fun _ => []
  ro := false
  quiet := true
def trueC (n : Nat) (pre : List O → Prop) : Ctr where
  own := []
  pre := pre
  res := fun _ => [bO true]
  upd := fun _ => List.replicate n .any
  ro := false
  quiet := false
/-- The statements' arguments. -/
def routeC : Ctr := trueC 5 fun a => ∃ n names up m fr, a = [ndO n, .d (strsD names), isO up, msgO m, iO .i64 fr] ∧ okMay n names up m ∧ okNd n
def b11 : List (Nat × Ctr) := [(18, requestWC), (13, pickWC)]
def b12 : List (Nat × Ctr) := [(11, answersC), (12, lightC), (13, pickC), (14, pickC), (15, findC), (16, inC)]
theorem b11_ok : COk Try.prog (ctrs b11) := cok_cons ok18w (cok_cons ok13w cok_nil)
end Go.YR
