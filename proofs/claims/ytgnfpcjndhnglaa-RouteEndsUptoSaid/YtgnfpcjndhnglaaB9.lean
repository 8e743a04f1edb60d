/- What else the ways' statements use: light inputs, requests, names. -/
import Derived.Test.YtgnfpcjndhnglaaB8
namespace Go.YM
open Go.Y

def lightF (n : NdR) (names : List ByteArray) (up : List Int) (l : List AvpR) : Bool :=
  !(decide (50 < n.peers.length) || decide (50 < n.routes.length) || decide (50 < names.length) || decide (50 < up.length) || decide (100 < l.length)) && n.routes.all fun r => !decide (50 < r.via.length)
def lightA : List O → Bool
  | [.agg [.d h, .d r, .d s, .d p, .d t], .d ns, .d up, .agg [_, _, _, _, _, _, _, _, .d l]] => lightF ⟨vs h, vs r, vb s, vl p, rtsOf t⟩ (strsOf ns) (vl up) (avpsOf l)
  | _ => false
theorem lightA_eq (n : NdR) (names : List ByteArray) (up : List Int) (m : MsgR) :
    lightA [.agg [.d (.v (.string n.host)), .d (.v (.string n.realm)), .d (.v (.bool n.serves)), .d (.ints .i64 n.peers), .d (.recs 2 n.routes.length (rtCell n.routes))], .d (.recs 1 names.length (strCell names)), .d (.ints .i64 up),
      .agg [.d (.v (.bool m.b0)), .d (.v (.bool m.b1)), .d (.v (.bool m.b2)), .d (.v (.bool m.b3)), .d (.v (.int .u32 m.n0)), .d (.v (.int .u32 m.n1)), .d (.v (.int .u32 m.n2)), .d (.v (.int .u32 m.n3)), .d (.recs 5 m.avps.length (avpCell m.avps))]] = lightF n names up m.avps := by
  simp only [lightA, vs, vb, vl, rtsOf_rts, strsOf_strs, avpsOf_avps]
def bytesOf (s : ByteArray) : List Int := s.data.toList.map fun b => (b.toNat : Int)
def reqAvp (c : Int) (s : ByteArray) : AvpR := ⟨c, 0, false, false, bytesOf s⟩
def reqF (realm host : ByteArray) (by_ : List ByteArray) : List AvpR :=
  [reqAvp 283 realm] ++ ((if host = noStr then [] else [reqAvp 293 host]) ++ by_.map (reqAvp 282))
def okC (c : Int) : Bool := decide (97 ≤ c) && decide (c ≤ 122) || decide (48 ≤ c) && decide (c ≤ 57) || decide (c = 46) || decide (c = 45)
def okName (l : List Int) : Bool := l.all okC && (decide (1 ≤ l.length) && decide (l.length ≤ 32))
end Go.YM
namespace Go.YR
open Go.Y Go.YM

def lightC : Ctr where
  own := []
  pre := fun a => ∃ n names up m, a = [ndO n, .d (strsD names), isO up, msgO m]
  res := fun a => [bO (lightA a)]
  upd := fun _ => [.any, .any, .any, .any]
  ro := false
  quiet := false
def reqMsg (l : List AvpR) : O := .agg [bO true, bO false, bO false, bO false, iO .u32 9300, iO .u32 0, iO .u32 0, iO .u32 0, .own 41 (avpsD l)]
def requestC : Ctr where
  own := []
  pre := fun a => ∃ r h b, a = [sO r, sO h, .d (strsD b)] ∧ small b.length
  res := fun a => [reqMsg (reqF (vs (dO (at_ a 0))) (vs (dO (at_ a 1))) (strsOf (dO (at_ a 2))))]
  upd := fun _ => [.any, .any, .any]
  ro := true
  quiet := false
def nameOkC : Ctr := qC 1 (fun a => ∃ l, a = [.d (.ints .u8 l)] ∧ small l.length) fun a => [bO (okName (vl (dO (at_ a 0))))]
def reqAnn (r h : ByteArray) (b : List ByteArray) : LoopAnn where
  γ := Nat
  pre := fun i => i ≤ b.length
  μ := fun i => b.length - i
  items := fun i => [(8, .c (iO .i64 (i : Int))), (7, .blk [.same, .same, .same, .same, .same, .same, .same, .same, .o (.own 41 (avpsD (reqF r h (b.take i))))])]
end Go.YR
