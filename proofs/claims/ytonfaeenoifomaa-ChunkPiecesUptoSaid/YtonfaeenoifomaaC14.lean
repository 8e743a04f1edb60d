/- A list of chunks, however it was laid, copied; the statement of hellos. -/
import Derived.Test.YtonfaeenoifomaaC13
set_option maxRecDepth 100000
namespace Go.ZR
open Go.Z Go.ZM Go.Proofs
def ownWC : Ctr := rC 1 (fun a => ∃ l A, a = [.d A] ∧ asCh A l ∧ okChs l) fun a => [.own 45 (chsD (chsOf (dO (at_ a 0))))]
theorem ok15w : FnIs Try.prog 15 ownWC := by
  refine ok15.weak fun a hp => ?_
  obtain ⟨l, A, rfl, ⟨r1, r2⟩, h⟩ := hp
  refine ⟨[.d (chsD l)], ⟨l, rfl, h⟩, toL_cons (toO_d r2) (toL_refl _), ?_, rfl⟩
  show [O.own 45 (chsD (chsOf (chsD l)))] = [O.own 45 (chsD (chsOf A))]
  rw [r1, show chsOf (chsD l) = l from chsOf_chs l]
theorem chsOf_one (c : ChR) : chsOf (.recs 3 1 fun i j => [D.v (.int .u8 c.t), D.v (.int .u8 c.f), D.ints .u8 c.v].getD (i * 3 + j) (.v undef)) = [c] := rfl
theorem asCh_one (c : ChR) : asCh (.recs 3 1 fun i j => [D.v (.int .u8 c.t), D.v (.int .u8 c.f), D.ints .u8 c.v].getD (i * 3 + j) (.v undef)) [c] :=
  ⟨rfl, reads_recs fun i hi j hj => by
    obtain rfl : i = 0 := by omega
    rw [Nat.zero_mul, Nat.zero_add]
    exact ch_cell (c := c) (l := [c]) (i := 0) rfl hj⟩
def chOk (c : ChR) : Prop := ((0 ≤ c.t ∧ c.t ≤ 255) ∧ (0 ≤ c.f ∧ c.f ≤ 255) ∧ okB c.v) ∧ sm c.v.length
def helLawC : Ctr := trueC 3 fun a => ∃ h b c, a = [helO h, bO b, chO c] ∧ okHel h ∧ chOk c
def c17 : List (Nat × Ctr) := [(17, ansC), (29, fromHelC), (30, fromHelC), (25, sameC), (31, toHelC), (33, toHelC), (32, sameHelC), (15, ownWC)]
theorem c17_ok : COk Try.prog (ctrs c17) := cok_cons ok17 (cok_cons ok29 (cok_cons ok30 (cok_cons ok25 (cok_cons ok31 (cok_cons ok33 (cok_cons ok32 (cok_cons ok15w cok_nil)))))))
end Go.ZR
