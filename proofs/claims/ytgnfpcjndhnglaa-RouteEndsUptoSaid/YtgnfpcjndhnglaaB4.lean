/- The ways of requests: B4 -/
import Derived.Test.YtgnfpcjndhnglaaRows
import Derived.Test.YtgnfpcjndhnglaaB3
import Derived.Test.YtgnfpcjndhnglaaB2
import Derived.Test.YtgnfpcjndhnglaaB1
import Derived.Test.YtgnfpcjndhnglaaB0
namespace Go.YR
open Go.Proofs
open Go.Y Go.YM Go.RowKit
theorem b3_ok : COk Try.prog (ctrs b3) := cok_cons ok26 (cok_cons ok27 cok_nil)
noncomputable def code25 : Code := match Try.f25.body with | some c => c | none => .skip
theorem vc25 : ∀ (p : Int) (s : ScR), let y := scOf (D.ptr (64 : Nat) (9 : Nat) fun (i : Nat) => [D.v (Value.string s.n.host), D.v (Value.string s.n.realm), D.v (Value.bool s.n.serves), D.ints IntKind.i64 s.n.peers, D.recs (2 : Nat) s.n.routes.length (rtCell s.n.routes), D.recs (1 : Nat) s.names.length (strCell s.names), D.ints IntKind.i64 s.up, D.v (Value.int IntKind.i64 s.fr), D.map (Col.strs s.ks) (Col.bools s.vs)].getD i (D.v undef));
  ∀ (h : List Int), okScr s → (∃ (s_1 : ScR), ∃ (n : Int), [O.d (D.ptr (64 : Nat) (9 : Nat) fun (i : Nat) => [D.v (Value.string s.n.host), D.v (Value.string s.n.realm), D.v (Value.bool s.n.serves), D.ints IntKind.i64 s.n.peers, D.recs (2 : Nat) s.n.routes.length (rtCell s.n.routes), D.recs (1 : Nat) s.names.length (strCell s.names), D.ints IntKind.i64 s.up, D.v (Value.int IntKind.i64 s.fr), D.map (Col.strs s.ks) (Col.bools s.vs)].getD i (D.v undef)), O.d (D.v (Value.int IntKind.i64 p))] = [O.d (D.ptr (64 : Nat) (9 : Nat) fun (i : Nat) => [D.v (Value.string s_1.n.host), D.v (Value.string s_1.n.realm), D.v (Value.bool s_1.n.serves), D.ints IntKind.i64 s_1.n.peers, D.recs (2 : Nat) s_1.n.routes.length (rtCell s_1.n.routes), D.recs (1 : Nat) s_1.names.length (strCell s_1.names), D.ints IntKind.i64 s_1.up, D.v (Value.int IntKind.i64 s_1.fr), D.map (Col.strs s_1.ks) (Col.bools s_1.vs)].getD i (D.v undef)), O.d (D.v (Value.int IntKind.i64 n))] ∧
  okScr s_1) ∧ (allT [openF y (vi (D.v (Value.int IntKind.i64 p)))] → SV.p (5 : Nat) (0 : Nat) = SV.p (5 : Nat) (0 : Nat)) ∧ (allT [openF y (vi (D.v (Value.int IntKind.i64 p)))] →
  SV.c (Value.int IntKind.i64 p) = SV.c (Value.int IntKind.i64 p)) ∧ (allT [openF y (vi (D.v (Value.int IntKind.i64 p)))] → [openF y (vi (D.v (Value.int IntKind.i64 p)))] = [openF y (vi (D.v (Value.int IntKind.i64 p)))] ∧
  [openF y (vi (D.v (Value.int IntKind.i64 p)))] = [openF y (vi (D.v (Value.int IntKind.i64 p)))] ∧ (∃ (s_1 : ScR), ∃ (n : Int), [O.d (D.ptr (64 : Nat) (9 : Nat) fun (i : Nat) => [D.v (Value.string s.n.host), D.v (Value.string s.n.realm), D.v (Value.bool s.n.serves), D.ints IntKind.i64 s.n.peers, D.recs (2 : Nat) s.n.routes.length (rtCell s.n.routes), D.recs (1 : Nat) s.names.length (strCell s.names), D.ints IntKind.i64 s.up, D.v (Value.int IntKind.i64 s.fr), D.map (Col.strs s.ks) (Col.bools s.vs)].getD i (D.v undef)), O.d (D.v (Value.int IntKind.i64 p))] = [O.d (D.ptr (64 : Nat) (9 : Nat) fun (i : Nat) => [D.v (Value.string s_1.n.host), D.v (Value.string s_1.n.realm), D.v (Value.bool s_1.n.serves), D.ints IntKind.i64 s_1.n.peers, D.recs (2 : Nat) s_1.n.routes.length (rtCell s_1.n.routes), D.recs (1 : Nat) s_1.names.length (strCell s_1.names), D.ints IntKind.i64 s_1.up, D.v (Value.int IntKind.i64 s_1.fr), D.map (Col.strs s_1.ks) (Col.bools s_1.vs)].getD i (D.v undef)), O.d (D.v (Value.int IntKind.i64 n))] ∧
  small s_1.names.length) ∧ SV.c (Value.string (nameF y.names (vi (D.v (Value.int IntKind.i64 p))))) = SV.c (Value.string (nameF y.names (vi (D.v (Value.int IntKind.i64 p)))))) ∧
  (allT [openF y (vi (D.v (Value.int IntKind.i64 p)))] → SV.a (7 : Nat) = SV.a (7 : Nat)) ∧ (allT [openF y (vi (D.v (Value.int IntKind.i64 p)))] → [openF y (vi (D.v (Value.int IntKind.i64 p)))] = [openF y (vi (D.v (Value.int IntKind.i64 p)))] ∧
  SV.c (Value.string (bstr h)) = SV.c (Value.string (bstr h))) ∧ (allT [openF y (vi (D.v (Value.int IntKind.i64 p)))] → [openF y (vi (D.v (Value.int IntKind.i64 p)))] = [openF y (vi (D.v (Value.int IntKind.i64 p)))] ∧
  [openF y (vi (D.v (Value.int IntKind.i64 p)))] = [openF y (vi (D.v (Value.int IntKind.i64 p)))] ∧ True ∧ SV.c (Value.bool (decide ((nameF y.names (vi (D.v (Value.int IntKind.i64 p)))).data.toList = (bstr h).data.toList))) = SV.c (Value.bool (decide ((nameF y.names (vi (D.v (Value.int IntKind.i64 p)))).data.toList = (bstr h).data.toList)))) ∧
  [openF y (vi (D.v (Value.int IntKind.i64 p)))] = [openF y (vi (D.v (Value.int IntKind.i64 p)))] ∧ (openF y (vi (D.v (Value.int IntKind.i64 p))) && decide ((nameF y.names (vi (D.v (Value.int IntKind.i64 p)))).data.toList = (bstr h).data.toList)) = pickP (scIn (D.ptr (61 : Nat) (1 : Nat) fun (i : Nat) => [D.ptr (64 : Nat) (9 : Nat) fun (i : Nat) => [D.v (Value.string s.n.host), D.v (Value.string s.n.realm), D.v (Value.bool s.n.serves), D.ints IntKind.i64 s.n.peers, D.recs (2 : Nat) s.n.routes.length (rtCell s.n.routes), D.recs (1 : Nat) s.names.length (strCell s.names), D.ints IntKind.i64 s.up, D.v (Value.int IntKind.i64 s.fr), D.map (Col.strs s.ks) (Col.bools s.vs)].getD i (D.v undef)].getD i (D.v undef))) (vlIn (D.ptr (36 : Nat) (1 : Nat) fun (i : Nat) => [D.ints IntKind.u8 h].getD i (D.v undef))) (vi (D.v (Value.int IntKind.i64 p))) ∧
  (true && true) = true := by
  simp only [scOf_sc, scIn_sc, vlIn_l, fnP_pick, fnP_open, true_and, and_true, implies_true, allT, Bool.and_self, Bool.not_false, List.mem_singleton, List.mem_cons, List.not_mem_nil, or_false, forall_eq, Int.toNat_natCast, vi, vb, vl, vs, List.getD_cons_succ, List.getD_cons_zero, strsOf_strs, rtsOf_rts, avpsOf_avps, bytes_dec]
  intro p s h hs
  exact ⟨⟨s, p, rfl, hs⟩, fun _ => ⟨s, p, rfl, hs.2.1⟩, rfl⟩
theorem ok25 : FnIs Try.prog 25 pick1C := by
  refine fnIs (C := ctrs b3) (by kernel_rfl) b3_ok Try.func25 (code := code25) (by kernel_rfl) (by kernel_rfl) ?_
  rintro a ⟨p, s, h, rfl, hs⟩
  exact ⟨anns [], kcast (vc25 p s h hs) (by kernel_rfl)⟩

end Go.YR
