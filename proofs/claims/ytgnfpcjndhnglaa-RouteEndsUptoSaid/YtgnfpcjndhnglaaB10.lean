/- The ways of requests: B10 -/
import Derived.Test.YtgnfpcjndhnglaaRows
import Derived.Test.YtgnfpcjndhnglaaB9
namespace Go.YR
open Go.Proofs
open Go.Y Go.YM Go.RowKit
theorem c50 (a : Nat) : decide ((50 : Int) < (a : Int)) = decide (50 < a) := by congr 1; apply propext; omega
theorem c100 (a : Nat) : decide ((100 : Int) < (a : Int)) = decide (100 < a) := by congr 1; apply propext; omega
theorem size41 : Try.prog.types[(41 : Nat)].size = 5 := by kernel_rfl
theorem bytes41 : Try.prog.types[(41 : Nat)].bytes = 40 := by kernel_rfl
theorem cell_of {l : List AvpR} {i : Nat} {a : AvpR} (h : l.getD i noAvp = a) {j : Nat} (hj : j < 5) :
    [D.v (.int .u32 a.code), D.v (.int .u32 a.vendor), D.v (.bool a.must), D.v (.bool a.prot), D.ints .u8 a.data].getD j (D.v undef) = avpCell l i j := by
  subst h
  match j, hj with
  | 0, _ => rfl
  | 1, _ => rfl
  | 2, _ => rfl
  | 3, _ => rfl
  | 4, _ => rfl
theorem app_cell (l : List AvpR) (a : AvpR) {i j : Nat} (hi : i < l.length + 1) (hj : j < 5) :
    (bif i.blt l.length then avpCell l i j else [D.v (.int .u32 a.code), D.v (.int .u32 a.vendor), D.v (.bool a.must), D.v (.bool a.prot), D.ints .u8 a.data].getD ((i - l.length) * 5 + j) (D.v undef)) = avpCell (l ++ [a]) i j := by
  by_cases h : i < l.length
  · have hb : i.blt l.length = true := by simpa [Nat.blt_eq] using h
    have e : (l ++ [a]).getD i noAvp = l.getD i noAvp := by simp [List.getD, List.getElem?_append_left h]
    rw [hb, _root_.cond_true]
    unfold avpCell
    rw [e]
  · have hb : i.blt l.length = false := by
      cases e : i.blt l.length with
      | false => rfl
      | true => exact absurd (by simpa [Nat.blt_eq] using e) h
    have hi' : i = l.length := by omega
    have e : (l ++ [a]).getD i noAvp = a := by subst hi'; simp [List.getD]
    rw [hb, _root_.cond_false, show (i - l.length) * 5 + j = j by omega]
    exact cell_of e hj
theorem reqF_succ (r h : ByteArray) (b : List ByteArray) {g : Nat} (hg : g < b.length) : reqF r h (b.take (g + 1)) = reqF r h (b.take g) ++ [reqAvp 282 (b.getD g noStr)] := by
  have e : b.getD g noStr = b[g] := by simp [List.getD, List.getElem?_eq_getElem hg]
  rw [e]
  unfold reqF
  rw [List.take_add_one, List.getElem?_eq_getElem hg]
  simp only [Option.toList, List.map_append, List.map_cons, List.map_nil, List.append_assoc]
theorem reqF_len (r h : ByteArray) (b : List ByteArray) : (reqF r h b).length ≤ b.length + 2 := by
  unfold reqF
  split <;> simp
theorem noStr_iff (h : ByteArray) : h.data.toList = [] ↔ h = noStr := by
  constructor
  · intro e
    have := bytes_dec h noStr
    rw [decide_eq_decide] at this
    exact this.1 (by rw [e]; rfl)
  · rintro rfl; rfl
noncomputable def code12 : Code := match Try.f12.body with | some c => c | none => .skip
theorem vc12 : ∀ (n : NdR) (names : List ByteArray) (up : List Int) (m : MsgR), True ∧ (allT [!decide ((50 : Int) < (↑n.peers.length : Int))] → SV.p (5 : Nat) (4 : Nat) = SV.p (5 : Nat) (4 : Nat)) ∧
  (allT [!decide ((50 : Int) < (↑n.peers.length : Int))] → [!decide ((50 : Int) < (↑n.peers.length : Int))] = [!decide ((50 : Int) < (↑n.peers.length : Int))] ∧
  SV.a (1 : Nat) = SV.a (1 : Nat)) ∧ (allT [!decide ((50 : Int) < (↑n.peers.length : Int))] → [!decide ((50 : Int) < (↑n.peers.length : Int))] = [!decide ((50 : Int) < (↑n.peers.length : Int))] ∧
  SV.c (Value.int IntKind.i64 (↑n.routes.length : Int)) = SV.c (Value.int IntKind.i64 (↑n.routes.length : Int))) ∧ (allT [!decide ((50 : Int) < (↑n.peers.length : Int))] →
  [!decide ((50 : Int) < (↑n.peers.length : Int))] = [!decide ((50 : Int) < (↑n.peers.length : Int))] ∧ True ∧ SV.c (Value.bool (decide ((50 : Int) < (↑n.routes.length : Int)))) = SV.c (Value.bool (decide ((50 : Int) < (↑n.routes.length : Int))))) ∧
  [!decide ((50 : Int) < (↑n.peers.length : Int))] = [!decide ((50 : Int) < (↑n.peers.length : Int))] ∧ (allT [!(decide ((50 : Int) < (↑n.peers.length : Int)) || decide ((50 : Int) < (↑n.routes.length : Int)))] →
  SV.a (2 : Nat) = SV.a (2 : Nat)) ∧ (allT [!(decide ((50 : Int) < (↑n.peers.length : Int)) || decide ((50 : Int) < (↑n.routes.length : Int)))] → [!(decide ((50 : Int) < (↑n.peers.length : Int)) || decide ((50 : Int) < (↑n.routes.length : Int)))] = [!(decide ((50 : Int) < (↑n.peers.length : Int)) || decide ((50 : Int) < (↑n.routes.length : Int)))] ∧
  SV.c (Value.int IntKind.i64 (↑names.length : Int)) = SV.c (Value.int IntKind.i64 (↑names.length : Int))) ∧ (allT [!(decide ((50 : Int) < (↑n.peers.length : Int)) || decide ((50 : Int) < (↑n.routes.length : Int)))] →
  [!(decide ((50 : Int) < (↑n.peers.length : Int)) || decide ((50 : Int) < (↑n.routes.length : Int)))] = [!(decide ((50 : Int) < (↑n.peers.length : Int)) || decide ((50 : Int) < (↑n.routes.length : Int)))] ∧
  True ∧ SV.c (Value.bool (decide ((50 : Int) < (↑names.length : Int)))) = SV.c (Value.bool (decide ((50 : Int) < (↑names.length : Int))))) ∧ [!(decide ((50 : Int) < (↑n.peers.length : Int)) || decide ((50 : Int) < (↑n.routes.length : Int)))] = [!(decide ((50 : Int) < (↑n.peers.length : Int)) || decide ((50 : Int) < (↑n.routes.length : Int)))] ∧
  (allT [!(decide ((50 : Int) < (↑n.peers.length : Int)) || decide ((50 : Int) < (↑n.routes.length : Int)) || decide ((50 : Int) < (↑names.length : Int)))] →
  SV.a (3 : Nat) = SV.a (3 : Nat)) ∧ (allT [!(decide ((50 : Int) < (↑n.peers.length : Int)) || decide ((50 : Int) < (↑n.routes.length : Int)) || decide ((50 : Int) < (↑names.length : Int)))] →
  [!(decide ((50 : Int) < (↑n.peers.length : Int)) || decide ((50 : Int) < (↑n.routes.length : Int)) || decide ((50 : Int) < (↑names.length : Int)))] = [!(decide ((50 : Int) < (↑n.peers.length : Int)) || decide ((50 : Int) < (↑n.routes.length : Int)) || decide ((50 : Int) < (↑names.length : Int)))] ∧
  SV.c (Value.int IntKind.i64 (↑up.length : Int)) = SV.c (Value.int IntKind.i64 (↑up.length : Int))) ∧ (allT [!(decide ((50 : Int) < (↑n.peers.length : Int)) || decide ((50 : Int) < (↑n.routes.length : Int)) || decide ((50 : Int) < (↑names.length : Int)))] →
  [!(decide ((50 : Int) < (↑n.peers.length : Int)) || decide ((50 : Int) < (↑n.routes.length : Int)) || decide ((50 : Int) < (↑names.length : Int)))] = [!(decide ((50 : Int) < (↑n.peers.length : Int)) || decide ((50 : Int) < (↑n.routes.length : Int)) || decide ((50 : Int) < (↑names.length : Int)))] ∧
  True ∧ SV.c (Value.bool (decide ((50 : Int) < (↑up.length : Int)))) = SV.c (Value.bool (decide ((50 : Int) < (↑up.length : Int))))) ∧ [!(decide ((50 : Int) < (↑n.peers.length : Int)) || decide ((50 : Int) < (↑n.routes.length : Int)) || decide ((50 : Int) < (↑names.length : Int)))] = [!(decide ((50 : Int) < (↑n.peers.length : Int)) || decide ((50 : Int) < (↑n.routes.length : Int)) || decide ((50 : Int) < (↑names.length : Int)))] ∧
  (allT [!(decide ((50 : Int) < (↑n.peers.length : Int)) || decide ((50 : Int) < (↑n.routes.length : Int)) || decide ((50 : Int) < (↑names.length : Int)) || decide ((50 : Int) < (↑up.length : Int)))] →
  SV.p (6 : Nat) (8 : Nat) = SV.p (6 : Nat) (8 : Nat)) ∧ (allT [!(decide ((50 : Int) < (↑n.peers.length : Int)) || decide ((50 : Int) < (↑n.routes.length : Int)) || decide ((50 : Int) < (↑names.length : Int)) || decide ((50 : Int) < (↑up.length : Int)))] →
  [!(decide ((50 : Int) < (↑n.peers.length : Int)) || decide ((50 : Int) < (↑n.routes.length : Int)) || decide ((50 : Int) < (↑names.length : Int)) || decide ((50 : Int) < (↑up.length : Int)))] = [!(decide ((50 : Int) < (↑n.peers.length : Int)) || decide ((50 : Int) < (↑n.routes.length : Int)) || decide ((50 : Int) < (↑names.length : Int)) || decide ((50 : Int) < (↑up.length : Int)))] ∧
  SV.a (4 : Nat) = SV.a (4 : Nat)) ∧ (allT [!(decide ((50 : Int) < (↑n.peers.length : Int)) || decide ((50 : Int) < (↑n.routes.length : Int)) || decide ((50 : Int) < (↑names.length : Int)) || decide ((50 : Int) < (↑up.length : Int)))] →
  [!(decide ((50 : Int) < (↑n.peers.length : Int)) || decide ((50 : Int) < (↑n.routes.length : Int)) || decide ((50 : Int) < (↑names.length : Int)) || decide ((50 : Int) < (↑up.length : Int)))] = [!(decide ((50 : Int) < (↑n.peers.length : Int)) || decide ((50 : Int) < (↑n.routes.length : Int)) || decide ((50 : Int) < (↑names.length : Int)) || decide ((50 : Int) < (↑up.length : Int)))] ∧
  SV.c (Value.int IntKind.i64 (↑m.avps.length : Int)) = SV.c (Value.int IntKind.i64 (↑m.avps.length : Int))) ∧ (allT [!(decide ((50 : Int) < (↑n.peers.length : Int)) || decide ((50 : Int) < (↑n.routes.length : Int)) || decide ((50 : Int) < (↑names.length : Int)) || decide ((50 : Int) < (↑up.length : Int)))] →
  [!(decide ((50 : Int) < (↑n.peers.length : Int)) || decide ((50 : Int) < (↑n.routes.length : Int)) || decide ((50 : Int) < (↑names.length : Int)) || decide ((50 : Int) < (↑up.length : Int)))] = [!(decide ((50 : Int) < (↑n.peers.length : Int)) || decide ((50 : Int) < (↑n.routes.length : Int)) || decide ((50 : Int) < (↑names.length : Int)) || decide ((50 : Int) < (↑up.length : Int)))] ∧
  True ∧ SV.c (Value.bool (decide ((100 : Int) < (↑m.avps.length : Int)))) = SV.c (Value.bool (decide ((100 : Int) < (↑m.avps.length : Int))))) ∧ [!(decide ((50 : Int) < (↑n.peers.length : Int)) || decide ((50 : Int) < (↑n.routes.length : Int)) || decide ((50 : Int) < (↑names.length : Int)) || decide ((50 : Int) < (↑up.length : Int)))] = [!(decide ((50 : Int) < (↑n.peers.length : Int)) || decide ((50 : Int) < (↑n.routes.length : Int)) || decide ((50 : Int) < (↑names.length : Int)) || decide ((50 : Int) < (↑up.length : Int)))] ∧
  ((decide ((50 : Int) < (↑n.peers.length : Int)) || decide ((50 : Int) < (↑n.routes.length : Int)) || decide ((50 : Int) < (↑names.length : Int)) || decide ((50 : Int) < (↑up.length : Int)) || decide ((100 : Int) < (↑m.avps.length : Int))) = true →
  false = lightA [O.agg [O.d (D.v (Value.string n.host)), O.d (D.v (Value.string n.realm)), O.d (D.v (Value.bool n.serves)), O.d (D.ints IntKind.i64 n.peers), O.d (D.recs (2 : Nat) n.routes.length (rtCell n.routes))], O.d (D.recs (1 : Nat) names.length (strCell names)), O.d (D.ints IntKind.i64 up), O.agg [O.d (D.v (Value.bool m.b0)), O.d (D.v (Value.bool m.b1)), O.d (D.v (Value.bool m.b2)), O.d (D.v (Value.bool m.b3)), O.d (D.v (Value.int IntKind.u32 m.n0)), O.d (D.v (Value.int IntKind.u32 m.n1)), O.d (D.v (Value.int IntKind.u32 m.n2)), O.d (D.v (Value.int IntKind.u32 m.n3)), O.d (D.recs (5 : Nat) m.avps.length (avpCell m.avps))]] ∧
  (true && true) = true) ∧ ((decide ((50 : Int) < (↑n.peers.length : Int)) || decide ((50 : Int) < (↑n.routes.length : Int)) || decide ((50 : Int) < (↑names.length : Int)) || decide ((50 : Int) < (↑up.length : Int)) || decide ((100 : Int) < (↑m.avps.length : Int))) = false →
  ∃ (g0 : Nat), (g0 ≤ n.routes.length ∧ ∀ (j : Nat), j < g0 → decide ((50 : Nat) < (n.routes.getD j noRt).via.length) = false) ∧ (0 : Int) = (↑g0 : Int) ∧
  (true && true) = true ∧ ∀ (g : Nat), (g ≤ n.routes.length ∧ ∀ (j : Nat), j < g → decide ((50 : Nat) < (n.routes.getD j noRt).via.length) = false) → True ∧
  (decide ((↑g : Int) < (↑n.routes.length : Int)) = true → ((0 : Int) ≤ (↑g : Int) ∧ (↑g : Int) < (↑n.routes.length : Int)) ∧ True ∧ (decide ((50 : Int) < (↑(n.routes.getD (↑g : Int).toNat noRt).via.length : Int)) = true →
  false = lightA [O.agg [O.d (D.v (Value.string n.host)), O.d (D.v (Value.string n.realm)), O.d (D.v (Value.bool n.serves)), O.d (D.ints IntKind.i64 n.peers), O.d (D.recs (2 : Nat) n.routes.length (rtCell n.routes))], O.d (D.recs (1 : Nat) names.length (strCell names)), O.d (D.ints IntKind.i64 up), O.agg [O.d (D.v (Value.bool m.b0)), O.d (D.v (Value.bool m.b1)), O.d (D.v (Value.bool m.b2)), O.d (D.v (Value.bool m.b3)), O.d (D.v (Value.int IntKind.u32 m.n0)), O.d (D.v (Value.int IntKind.u32 m.n1)), O.d (D.v (Value.int IntKind.u32 m.n2)), O.d (D.v (Value.int IntKind.u32 m.n3)), O.d (D.recs (5 : Nat) m.avps.length (avpCell m.avps))]] ∧
  (true && true) = true) ∧ (decide ((50 : Int) < (↑(n.routes.getD (↑g : Int).toNat noRt).via.length : Int)) = false → True ∧ ∃ (g' : Nat), (g' ≤ n.routes.length ∧
  ∀ (j : Nat), j < g' → decide ((50 : Nat) < (n.routes.getD j noRt).via.length) = false) ∧ n.routes.length - g' < n.routes.length - g ∧ (IntKind.i64.wrap ((↑g : Int) + (1 : Int)) = (↑g' : Int) ∧
  (true && true && true) = true) ∧ (some (SV.c (Value.bool (decide ((50 : Int) < (↑n.peers.length : Int)) || decide ((50 : Int) < (↑n.routes.length : Int)) || decide ((50 : Int) < (↑names.length : Int)) || decide ((50 : Int) < (↑up.length : Int)) || decide ((100 : Int) < (↑m.avps.length : Int))))) = some (SV.c (Value.bool (decide ((50 : Int) < (↑n.peers.length : Int)) || decide ((50 : Int) < (↑n.routes.length : Int)) || decide ((50 : Int) < (↑names.length : Int)) || decide ((50 : Int) < (↑up.length : Int)) || decide ((100 : Int) < (↑m.avps.length : Int))))) ∧
  some (SV.w [!(decide ((50 : Int) < (↑n.peers.length : Int)) || decide ((50 : Int) < (↑n.routes.length : Int)) || decide ((50 : Int) < (↑names.length : Int)) || decide ((50 : Int) < (↑up.length : Int)))] (SV.c (Value.bool (decide ((100 : Int) < (↑m.avps.length : Int)))))) = some (SV.w [!(decide ((50 : Int) < (↑n.peers.length : Int)) || decide ((50 : Int) < (↑n.routes.length : Int)) || decide ((50 : Int) < (↑names.length : Int)) || decide ((50 : Int) < (↑up.length : Int)))] (SV.c (Value.bool (decide ((100 : Int) < (↑m.avps.length : Int)))))) ∧
  some (SV.w [!(decide ((50 : Int) < (↑n.peers.length : Int)) || decide ((50 : Int) < (↑n.routes.length : Int)) || decide ((50 : Int) < (↑names.length : Int)) || decide ((50 : Int) < (↑up.length : Int)))] (SV.c (Value.int IntKind.i64 (↑m.avps.length : Int)))) = some (SV.w [!(decide ((50 : Int) < (↑n.peers.length : Int)) || decide ((50 : Int) < (↑n.routes.length : Int)) || decide ((50 : Int) < (↑names.length : Int)) || decide ((50 : Int) < (↑up.length : Int)))] (SV.c (Value.int IntKind.i64 (↑m.avps.length : Int)))) ∧
  some (SV.w [!(decide ((50 : Int) < (↑n.peers.length : Int)) || decide ((50 : Int) < (↑n.routes.length : Int)) || decide ((50 : Int) < (↑names.length : Int)) || decide ((50 : Int) < (↑up.length : Int)))] (SV.a (4 : Nat))) = some (SV.w [!(decide ((50 : Int) < (↑n.peers.length : Int)) || decide ((50 : Int) < (↑n.routes.length : Int)) || decide ((50 : Int) < (↑names.length : Int)) || decide ((50 : Int) < (↑up.length : Int)))] (SV.a (4 : Nat))) ∧
  some (SV.w [!(decide ((50 : Int) < (↑n.peers.length : Int)) || decide ((50 : Int) < (↑n.routes.length : Int)) || decide ((50 : Int) < (↑names.length : Int)) || decide ((50 : Int) < (↑up.length : Int)))] (SV.p (6 : Nat) (8 : Nat))) = some (SV.w [!(decide ((50 : Int) < (↑n.peers.length : Int)) || decide ((50 : Int) < (↑n.routes.length : Int)) || decide ((50 : Int) < (↑names.length : Int)) || decide ((50 : Int) < (↑up.length : Int)))] (SV.p (6 : Nat) (8 : Nat))) ∧
  some (SV.c (Value.bool (decide ((50 : Int) < (↑n.peers.length : Int)) || decide ((50 : Int) < (↑n.routes.length : Int)) || decide ((50 : Int) < (↑names.length : Int)) || decide ((50 : Int) < (↑up.length : Int))))) = some (SV.c (Value.bool (decide ((50 : Int) < (↑n.peers.length : Int)) || decide ((50 : Int) < (↑n.routes.length : Int)) || decide ((50 : Int) < (↑names.length : Int)) || decide ((50 : Int) < (↑up.length : Int))))) ∧
  some (SV.c (Value.bool (decide ((50 : Int) < (↑n.peers.length : Int)) || decide ((50 : Int) < (↑n.routes.length : Int)) || decide ((50 : Int) < (↑names.length : Int)) || decide ((50 : Int) < (↑up.length : Int))))) = some (SV.c (Value.bool (decide ((50 : Int) < (↑n.peers.length : Int)) || decide ((50 : Int) < (↑n.routes.length : Int)) || decide ((50 : Int) < (↑names.length : Int)) || decide ((50 : Int) < (↑up.length : Int))))) ∧
  some (SV.w [!(decide ((50 : Int) < (↑n.peers.length : Int)) || decide ((50 : Int) < (↑n.routes.length : Int)) || decide ((50 : Int) < (↑names.length : Int)))] (SV.c (Value.bool (decide ((50 : Int) < (↑up.length : Int)))))) = some (SV.w [!(decide ((50 : Int) < (↑n.peers.length : Int)) || decide ((50 : Int) < (↑n.routes.length : Int)) || decide ((50 : Int) < (↑names.length : Int)))] (SV.c (Value.bool (decide ((50 : Int) < (↑up.length : Int)))))) ∧
  some (SV.w [!(decide ((50 : Int) < (↑n.peers.length : Int)) || decide ((50 : Int) < (↑n.routes.length : Int)) || decide ((50 : Int) < (↑names.length : Int)))] (SV.c (Value.int IntKind.i64 (↑up.length : Int)))) = some (SV.w [!(decide ((50 : Int) < (↑n.peers.length : Int)) || decide ((50 : Int) < (↑n.routes.length : Int)) || decide ((50 : Int) < (↑names.length : Int)))] (SV.c (Value.int IntKind.i64 (↑up.length : Int)))) ∧
  some (SV.w [!(decide ((50 : Int) < (↑n.peers.length : Int)) || decide ((50 : Int) < (↑n.routes.length : Int)) || decide ((50 : Int) < (↑names.length : Int)))] (SV.a (3 : Nat))) = some (SV.w [!(decide ((50 : Int) < (↑n.peers.length : Int)) || decide ((50 : Int) < (↑n.routes.length : Int)) || decide ((50 : Int) < (↑names.length : Int)))] (SV.a (3 : Nat))) ∧
  some (SV.c (Value.bool (decide ((50 : Int) < (↑n.peers.length : Int)) || decide ((50 : Int) < (↑n.routes.length : Int)) || decide ((50 : Int) < (↑names.length : Int))))) = some (SV.c (Value.bool (decide ((50 : Int) < (↑n.peers.length : Int)) || decide ((50 : Int) < (↑n.routes.length : Int)) || decide ((50 : Int) < (↑names.length : Int))))) ∧
  some (SV.c (Value.bool (decide ((50 : Int) < (↑n.peers.length : Int)) || decide ((50 : Int) < (↑n.routes.length : Int)) || decide ((50 : Int) < (↑names.length : Int))))) = some (SV.c (Value.bool (decide ((50 : Int) < (↑n.peers.length : Int)) || decide ((50 : Int) < (↑n.routes.length : Int)) || decide ((50 : Int) < (↑names.length : Int))))) ∧
  some (SV.w [!(decide ((50 : Int) < (↑n.peers.length : Int)) || decide ((50 : Int) < (↑n.routes.length : Int)))] (SV.c (Value.bool (decide ((50 : Int) < (↑names.length : Int)))))) = some (SV.w [!(decide ((50 : Int) < (↑n.peers.length : Int)) || decide ((50 : Int) < (↑n.routes.length : Int)))] (SV.c (Value.bool (decide ((50 : Int) < (↑names.length : Int)))))) ∧
  some (SV.w [!(decide ((50 : Int) < (↑n.peers.length : Int)) || decide ((50 : Int) < (↑n.routes.length : Int)))] (SV.c (Value.int IntKind.i64 (↑names.length : Int)))) = some (SV.w [!(decide ((50 : Int) < (↑n.peers.length : Int)) || decide ((50 : Int) < (↑n.routes.length : Int)))] (SV.c (Value.int IntKind.i64 (↑names.length : Int)))) ∧
  some (SV.w [!(decide ((50 : Int) < (↑n.peers.length : Int)) || decide ((50 : Int) < (↑n.routes.length : Int)))] (SV.a (2 : Nat))) = some (SV.w [!(decide ((50 : Int) < (↑n.peers.length : Int)) || decide ((50 : Int) < (↑n.routes.length : Int)))] (SV.a (2 : Nat))) ∧
  some (SV.c (Value.bool (decide ((50 : Int) < (↑n.peers.length : Int)) || decide ((50 : Int) < (↑n.routes.length : Int))))) = some (SV.c (Value.bool (decide ((50 : Int) < (↑n.peers.length : Int)) || decide ((50 : Int) < (↑n.routes.length : Int))))) ∧
  some (SV.c (Value.bool (decide ((50 : Int) < (↑n.peers.length : Int)) || decide ((50 : Int) < (↑n.routes.length : Int))))) = some (SV.c (Value.bool (decide ((50 : Int) < (↑n.peers.length : Int)) || decide ((50 : Int) < (↑n.routes.length : Int))))) ∧
  some (SV.w [!decide ((50 : Int) < (↑n.peers.length : Int))] (SV.c (Value.bool (decide ((50 : Int) < (↑n.routes.length : Int)))))) = some (SV.w [!decide ((50 : Int) < (↑n.peers.length : Int))] (SV.c (Value.bool (decide ((50 : Int) < (↑n.routes.length : Int)))))) ∧
  some (SV.w [!decide ((50 : Int) < (↑n.peers.length : Int))] (SV.c (Value.int IntKind.i64 (↑n.routes.length : Int)))) = some (SV.w [!decide ((50 : Int) < (↑n.peers.length : Int))] (SV.c (Value.int IntKind.i64 (↑n.routes.length : Int)))) ∧
  some (SV.w [!decide ((50 : Int) < (↑n.peers.length : Int))] (SV.a (1 : Nat))) = some (SV.w [!decide ((50 : Int) < (↑n.peers.length : Int))] (SV.a (1 : Nat))) ∧
  some (SV.w [!decide ((50 : Int) < (↑n.peers.length : Int))] (SV.p (5 : Nat) (4 : Nat))) = some (SV.w [!decide ((50 : Int) < (↑n.peers.length : Int))] (SV.p (5 : Nat) (4 : Nat))) ∧
  some (SV.c (Value.bool (decide ((50 : Int) < (↑n.peers.length : Int))))) = some (SV.c (Value.bool (decide ((50 : Int) < (↑n.peers.length : Int))))) ∧ some (SV.c (Value.bool (decide ((50 : Int) < (↑n.peers.length : Int))))) = some (SV.c (Value.bool (decide ((50 : Int) < (↑n.peers.length : Int))))) ∧
  some (SV.c (Value.int IntKind.i64 (↑n.peers.length : Int))) = some (SV.c (Value.int IntKind.i64 (↑n.peers.length : Int))) ∧ some (SV.a (0 : Nat)) = some (SV.a (0 : Nat)) ∧
  some (SV.p (5 : Nat) (3 : Nat)) = some (SV.p (5 : Nat) (3 : Nat)) ∧ some (SV.p (6 : Nat) (0 : Nat)) = some (SV.p (6 : Nat) (0 : Nat)) ∧ some (SV.p (5 : Nat) (0 : Nat)) = some (SV.p (5 : Nat) (0 : Nat)) ∧
  some (SV.agg [SV.c (Value.string n.host), SV.c (Value.string n.realm), SV.c (Value.bool n.serves), SV.a (0 : Nat), SV.a (1 : Nat)]) = some (SV.agg [SV.c (Value.string n.host), SV.c (Value.string n.realm), SV.c (Value.bool n.serves), SV.a (0 : Nat), SV.a (1 : Nat)]) ∧
  some (SV.a (2 : Nat)) = some (SV.a (2 : Nat)) ∧ some (SV.a (3 : Nat)) = some (SV.a (3 : Nat)) ∧ some (SV.agg [SV.c (Value.bool m.b0), SV.c (Value.bool m.b1), SV.c (Value.bool m.b2), SV.c (Value.bool m.b3), SV.c (Value.int IntKind.u32 m.n0), SV.c (Value.int IntKind.u32 m.n1), SV.c (Value.int IntKind.u32 m.n2), SV.c (Value.int IntKind.u32 m.n3), SV.a (4 : Nat)]) = some (SV.agg [SV.c (Value.bool m.b0), SV.c (Value.bool m.b1), SV.c (Value.bool m.b2), SV.c (Value.bool m.b3), SV.c (Value.int IntKind.u32 m.n0), SV.c (Value.int IntKind.u32 m.n1), SV.c (Value.int IntKind.u32 m.n2), SV.c (Value.int IntKind.u32 m.n3), SV.a (4 : Nat)]) ∧
  True) ∧ some (R.blk (30 : Nat) [SV.c (Value.bool m.b0), SV.c (Value.bool m.b1), SV.c (Value.bool m.b2), SV.c (Value.bool m.b3), SV.c (Value.int IntKind.u32 m.n0), SV.c (Value.int IntKind.u32 m.n1), SV.c (Value.int IntKind.u32 m.n2), SV.c (Value.int IntKind.u32 m.n3), SV.a (4 : Nat)]) = some (R.blk (30 : Nat) [SV.c (Value.bool m.b0), SV.c (Value.bool m.b1), SV.c (Value.bool m.b2), SV.c (Value.bool m.b3), SV.c (Value.int IntKind.u32 m.n0), SV.c (Value.int IntKind.u32 m.n1), SV.c (Value.int IntKind.u32 m.n2), SV.c (Value.int IntKind.u32 m.n3), SV.a (4 : Nat)]) ∧
  some (R.blk (25 : Nat) [SV.c (Value.string n.host), SV.c (Value.string n.realm), SV.c (Value.bool n.serves), SV.a (0 : Nat), SV.a (1 : Nat)]) = some (R.blk (25 : Nat) [SV.c (Value.string n.host), SV.c (Value.string n.realm), SV.c (Value.bool n.serves), SV.a (0 : Nat), SV.a (1 : Nat)]) ∧
  some (R.ro (D.recs (5 : Nat) m.avps.length (avpCell m.avps))) = some (R.ro (D.recs (5 : Nat) m.avps.length (avpCell m.avps))) ∧ some (R.ro (D.ints IntKind.i64 up)) = some (R.ro (D.ints IntKind.i64 up)) ∧
  some (R.ro (D.recs (1 : Nat) names.length (strCell names))) = some (R.ro (D.recs (1 : Nat) names.length (strCell names))) ∧ some (R.ro (D.recs (2 : Nat) n.routes.length (rtCell n.routes))) = some (R.ro (D.recs (2 : Nat) n.routes.length (rtCell n.routes))) ∧
  some (R.ro (D.ints IntKind.i64 n.peers)) = some (R.ro (D.ints IntKind.i64 n.peers)) ∧ True)) ∧ (decide ((↑g : Int) < (↑n.routes.length : Int)) = false →
  true = lightA [O.agg [O.d (D.v (Value.string n.host)), O.d (D.v (Value.string n.realm)), O.d (D.v (Value.bool n.serves)), O.d (D.ints IntKind.i64 n.peers), O.d (D.recs (2 : Nat) n.routes.length (rtCell n.routes))], O.d (D.recs (1 : Nat) names.length (strCell names)), O.d (D.ints IntKind.i64 up), O.agg [O.d (D.v (Value.bool m.b0)), O.d (D.v (Value.bool m.b1)), O.d (D.v (Value.bool m.b2)), O.d (D.v (Value.bool m.b3)), O.d (D.v (Value.int IntKind.u32 m.n0)), O.d (D.v (Value.int IntKind.u32 m.n1)), O.d (D.v (Value.int IntKind.u32 m.n2)), O.d (D.v (Value.int IntKind.u32 m.n3)), O.d (D.recs (5 : Nat) m.avps.length (avpCell m.avps))]] ∧
  (true && true) = true)) := by
  simp only [scOf_sc, scIn_sc, vlIn_l, pickA_eq, lightA_eq, true_and, and_true, implies_true, allT, Bool.and_self, Bool.not_false, List.mem_singleton, List.mem_cons, List.not_mem_nil, or_false, forall_eq, Int.toNat_natCast, vi, vb, vl, vs, List.getD_cons_succ, List.getD_cons_zero, strsOf_strs, rtsOf_rts, avpsOf_avps, mAvps, at_, dO, List.map_cons, List.map_nil, bytes_dec, c50, c100]
  intro n names up m
  refine ⟨fun e => by rw [lightF, e]; rfl, fun e => ⟨0, ⟨Nat.zero_le _, fun j hj => absurd hj (Nat.not_lt_zero _)⟩, rfl, ?_⟩⟩
  have hr : n.routes.length ≤ 50 := by simp only [Bool.or_eq_false_iff, decide_eq_false_iff_not] at e; omega
  rintro g ⟨h1, h2⟩
  refine ⟨fun hc => ?_, fun hc => ?_⟩
  · have hlt : g < n.routes.length := by have := of_decide_eq_true hc; omega
    refine ⟨by omega, fun f => ?_, fun f => ⟨g + 1, ⟨hlt, next h2 f⟩, by omega, wrap_nat (by omega)⟩⟩
    rw [lightF, e, Bool.not_false, Bool.true_and]
    symm
    rw [List.all_eq_false]
    exact ⟨_, getD_mem (d := noRt) hlt, by rw [f]; decide⟩
  · have hge := of_decide_eq_false hc
    rw [lightF, e, Bool.not_false, Bool.true_and]
    symm
    rw [List.all_eq_true]
    intro x hx
    obtain ⟨j, hj, rfl⟩ := List.mem_iff_getElem.1 hx
    have := h2 j (by omega)
    rw [show n.routes.getD j noRt = n.routes[j] by simp [List.getD, List.getElem?_eq_getElem hj]] at this
    rw [this]; rfl
set_option maxRecDepth 100000 in
theorem ok12 : FnIs Try.prog 12 lightC := by
  refine fnIs (C := ctrs b0) (by kernel_rfl) b0_ok Try.func12 (code := code12) (by kernel_rfl) (by kernel_rfl) ?_
  rintro a ⟨n, names, up, m, rfl⟩
  exact ⟨anns [(4, idxAnn 9 (fun r => decide (50 < r.via.length)) n.routes noRt)], kcast (vc12 n names up m) (by kernel_rfl)⟩

noncomputable def code17 : Code := match Try.f17.body with | some c => c | none => .skip
theorem vc17 : ∀ (l : List Int), small l.length → ∃ (g0 : Nat), (g0 ≤ l.length ∧ ∀ (j : Nat), j < g0 → (!okC (l.getD j (0 : Int))) = false) ∧ (0 : Int) = (↑g0 : Int) ∧
  (true && true) = true ∧ ∀ (g : Nat), (g ≤ l.length ∧ ∀ (j : Nat), j < g → (!okC (l.getD j (0 : Int))) = false) → True ∧ (decide ((↑g : Int) < (↑l.length : Int)) = true →
  ((0 : Int) ≤ (↑g : Int) ∧ (↑g : Int) < (↑l.length : Int)) ∧ True ∧ (allT [decide ((97 : Int) ≤ l.getD (↑g : Int).toNat (0 : Int))] → SV.c (Value.int IntKind.u8 (l.getD (↑g : Int).toNat (0 : Int))) = SV.c (Value.int IntKind.u8 (l.getD (↑g : Int).toNat (0 : Int)))) ∧
  (allT [decide ((97 : Int) ≤ l.getD (↑g : Int).toNat (0 : Int))] → [decide ((97 : Int) ≤ l.getD (↑g : Int).toNat (0 : Int))] = [decide ((97 : Int) ≤ l.getD (↑g : Int).toNat (0 : Int))] ∧
  True ∧ SV.c (Value.bool (decide (l.getD (↑g : Int).toNat (0 : Int) ≤ (122 : Int)))) = SV.c (Value.bool (decide (l.getD (↑g : Int).toNat (0 : Int) ≤ (122 : Int))))) ∧
  [decide ((97 : Int) ≤ l.getD (↑g : Int).toNat (0 : Int))] = [decide ((97 : Int) ≤ l.getD (↑g : Int).toNat (0 : Int))] ∧ (allT [!(decide ((97 : Int) ≤ l.getD (↑g : Int).toNat (0 : Int)) && decide (l.getD (↑g : Int).toNat (0 : Int) ≤ (122 : Int)))] →
  SV.c (Value.int IntKind.u8 (l.getD (↑g : Int).toNat (0 : Int))) = SV.c (Value.int IntKind.u8 (l.getD (↑g : Int).toNat (0 : Int)))) ∧ (allT [!(decide ((97 : Int) ≤ l.getD (↑g : Int).toNat (0 : Int)) && decide (l.getD (↑g : Int).toNat (0 : Int) ≤ (122 : Int)))] →
  [!(decide ((97 : Int) ≤ l.getD (↑g : Int).toNat (0 : Int)) && decide (l.getD (↑g : Int).toNat (0 : Int) ≤ (122 : Int)))] = [!(decide ((97 : Int) ≤ l.getD (↑g : Int).toNat (0 : Int)) && decide (l.getD (↑g : Int).toNat (0 : Int) ≤ (122 : Int)))] ∧
  True ∧ SV.c (Value.bool (decide ((48 : Int) ≤ l.getD (↑g : Int).toNat (0 : Int)))) = SV.c (Value.bool (decide ((48 : Int) ≤ l.getD (↑g : Int).toNat (0 : Int))))) ∧
  (allT [!(decide ((97 : Int) ≤ l.getD (↑g : Int).toNat (0 : Int)) && decide (l.getD (↑g : Int).toNat (0 : Int) ≤ (122 : Int)))] → [!(decide ((97 : Int) ≤ l.getD (↑g : Int).toNat (0 : Int)) && decide (l.getD (↑g : Int).toNat (0 : Int) ≤ (122 : Int)))] = [!(decide ((97 : Int) ≤ l.getD (↑g : Int).toNat (0 : Int)) && decide (l.getD (↑g : Int).toNat (0 : Int) ≤ (122 : Int)))] ∧
  SV.c (Value.bool (decide ((48 : Int) ≤ l.getD (↑g : Int).toNat (0 : Int)))) = SV.c (Value.bool (decide ((48 : Int) ≤ l.getD (↑g : Int).toNat (0 : Int))))) ∧
  (allT [decide ((48 : Int) ≤ l.getD (↑g : Int).toNat (0 : Int)), !(decide ((97 : Int) ≤ l.getD (↑g : Int).toNat (0 : Int)) && decide (l.getD (↑g : Int).toNat (0 : Int) ≤ (122 : Int)))] →
  SV.c (Value.int IntKind.u8 (l.getD (↑g : Int).toNat (0 : Int))) = SV.c (Value.int IntKind.u8 (l.getD (↑g : Int).toNat (0 : Int)))) ∧ (allT [decide ((48 : Int) ≤ l.getD (↑g : Int).toNat (0 : Int)), !(decide ((97 : Int) ≤ l.getD (↑g : Int).toNat (0 : Int)) && decide (l.getD (↑g : Int).toNat (0 : Int) ≤ (122 : Int)))] →
  [decide ((48 : Int) ≤ l.getD (↑g : Int).toNat (0 : Int)), !(decide ((97 : Int) ≤ l.getD (↑g : Int).toNat (0 : Int)) && decide (l.getD (↑g : Int).toNat (0 : Int) ≤ (122 : Int)))] = [decide ((48 : Int) ≤ l.getD (↑g : Int).toNat (0 : Int)), !(decide ((97 : Int) ≤ l.getD (↑g : Int).toNat (0 : Int)) && decide (l.getD (↑g : Int).toNat (0 : Int) ≤ (122 : Int)))] ∧
  True ∧ SV.c (Value.bool (decide (l.getD (↑g : Int).toNat (0 : Int) ≤ (57 : Int)))) = SV.c (Value.bool (decide (l.getD (↑g : Int).toNat (0 : Int) ≤ (57 : Int))))) ∧
  (allT [!(decide ((97 : Int) ≤ l.getD (↑g : Int).toNat (0 : Int)) && decide (l.getD (↑g : Int).toNat (0 : Int) ≤ (122 : Int)))] → [!(decide ((97 : Int) ≤ l.getD (↑g : Int).toNat (0 : Int)) && decide (l.getD (↑g : Int).toNat (0 : Int) ≤ (122 : Int)))] = [!(decide ((97 : Int) ≤ l.getD (↑g : Int).toNat (0 : Int)) && decide (l.getD (↑g : Int).toNat (0 : Int) ≤ (122 : Int)))] ∧
  [decide ((48 : Int) ≤ l.getD (↑g : Int).toNat (0 : Int)), !(decide ((97 : Int) ≤ l.getD (↑g : Int).toNat (0 : Int)) && decide (l.getD (↑g : Int).toNat (0 : Int) ≤ (122 : Int)))] = [decide ((48 : Int) ≤ l.getD (↑g : Int).toNat (0 : Int)), !(decide ((97 : Int) ≤ l.getD (↑g : Int).toNat (0 : Int)) && decide (l.getD (↑g : Int).toNat (0 : Int) ≤ (122 : Int)))] ∧
  SV.c (Value.bool (decide ((48 : Int) ≤ l.getD (↑g : Int).toNat (0 : Int)) && decide (l.getD (↑g : Int).toNat (0 : Int) ≤ (57 : Int)))) = SV.c (Value.bool (decide ((48 : Int) ≤ l.getD (↑g : Int).toNat (0 : Int)) && decide (l.getD (↑g : Int).toNat (0 : Int) ≤ (57 : Int))))) ∧
  [!(decide ((97 : Int) ≤ l.getD (↑g : Int).toNat (0 : Int)) && decide (l.getD (↑g : Int).toNat (0 : Int) ≤ (122 : Int)))] = [!(decide ((97 : Int) ≤ l.getD (↑g : Int).toNat (0 : Int)) && decide (l.getD (↑g : Int).toNat (0 : Int) ≤ (122 : Int)))] ∧
  (allT [!(decide ((97 : Int) ≤ l.getD (↑g : Int).toNat (0 : Int)) && decide (l.getD (↑g : Int).toNat (0 : Int) ≤ (122 : Int)) || decide ((48 : Int) ≤ l.getD (↑g : Int).toNat (0 : Int)) && decide (l.getD (↑g : Int).toNat (0 : Int) ≤ (57 : Int)))] →
  SV.c (Value.int IntKind.u8 (l.getD (↑g : Int).toNat (0 : Int))) = SV.c (Value.int IntKind.u8 (l.getD (↑g : Int).toNat (0 : Int)))) ∧ (allT [!(decide ((97 : Int) ≤ l.getD (↑g : Int).toNat (0 : Int)) && decide (l.getD (↑g : Int).toNat (0 : Int) ≤ (122 : Int)) || decide ((48 : Int) ≤ l.getD (↑g : Int).toNat (0 : Int)) && decide (l.getD (↑g : Int).toNat (0 : Int) ≤ (57 : Int)))] →
  [!(decide ((97 : Int) ≤ l.getD (↑g : Int).toNat (0 : Int)) && decide (l.getD (↑g : Int).toNat (0 : Int) ≤ (122 : Int)) || decide ((48 : Int) ≤ l.getD (↑g : Int).toNat (0 : Int)) && decide (l.getD (↑g : Int).toNat (0 : Int) ≤ (57 : Int)))] = [!(decide ((97 : Int) ≤ l.getD (↑g : Int).toNat (0 : Int)) && decide (l.getD (↑g : Int).toNat (0 : Int) ≤ (122 : Int)) || decide ((48 : Int) ≤ l.getD (↑g : Int).toNat (0 : Int)) && decide (l.getD (↑g : Int).toNat (0 : Int) ≤ (57 : Int)))] ∧
  True ∧ SV.c (Value.bool (decide (l.getD (↑g : Int).toNat (0 : Int) = (46 : Int)))) = SV.c (Value.bool (decide (l.getD (↑g : Int).toNat (0 : Int) = (46 : Int))))) ∧
  [!(decide ((97 : Int) ≤ l.getD (↑g : Int).toNat (0 : Int)) && decide (l.getD (↑g : Int).toNat (0 : Int) ≤ (122 : Int)) || decide ((48 : Int) ≤ l.getD (↑g : Int).toNat (0 : Int)) && decide (l.getD (↑g : Int).toNat (0 : Int) ≤ (57 : Int)))] = [!(decide ((97 : Int) ≤ l.getD (↑g : Int).toNat (0 : Int)) && decide (l.getD (↑g : Int).toNat (0 : Int) ≤ (122 : Int)) || decide ((48 : Int) ≤ l.getD (↑g : Int).toNat (0 : Int)) && decide (l.getD (↑g : Int).toNat (0 : Int) ≤ (57 : Int)))] ∧
  (allT [!(decide ((97 : Int) ≤ l.getD (↑g : Int).toNat (0 : Int)) && decide (l.getD (↑g : Int).toNat (0 : Int) ≤ (122 : Int)) || decide ((48 : Int) ≤ l.getD (↑g : Int).toNat (0 : Int)) && decide (l.getD (↑g : Int).toNat (0 : Int) ≤ (57 : Int)) || decide (l.getD (↑g : Int).toNat (0 : Int) = (46 : Int)))] →
  SV.c (Value.int IntKind.u8 (l.getD (↑g : Int).toNat (0 : Int))) = SV.c (Value.int IntKind.u8 (l.getD (↑g : Int).toNat (0 : Int)))) ∧ (allT [!(decide ((97 : Int) ≤ l.getD (↑g : Int).toNat (0 : Int)) && decide (l.getD (↑g : Int).toNat (0 : Int) ≤ (122 : Int)) || decide ((48 : Int) ≤ l.getD (↑g : Int).toNat (0 : Int)) && decide (l.getD (↑g : Int).toNat (0 : Int) ≤ (57 : Int)) || decide (l.getD (↑g : Int).toNat (0 : Int) = (46 : Int)))] →
  [!(decide ((97 : Int) ≤ l.getD (↑g : Int).toNat (0 : Int)) && decide (l.getD (↑g : Int).toNat (0 : Int) ≤ (122 : Int)) || decide ((48 : Int) ≤ l.getD (↑g : Int).toNat (0 : Int)) && decide (l.getD (↑g : Int).toNat (0 : Int) ≤ (57 : Int)) || decide (l.getD (↑g : Int).toNat (0 : Int) = (46 : Int)))] = [!(decide ((97 : Int) ≤ l.getD (↑g : Int).toNat (0 : Int)) && decide (l.getD (↑g : Int).toNat (0 : Int) ≤ (122 : Int)) || decide ((48 : Int) ≤ l.getD (↑g : Int).toNat (0 : Int)) && decide (l.getD (↑g : Int).toNat (0 : Int) ≤ (57 : Int)) || decide (l.getD (↑g : Int).toNat (0 : Int) = (46 : Int)))] ∧
  True ∧ SV.c (Value.bool (decide (l.getD (↑g : Int).toNat (0 : Int) = (45 : Int)))) = SV.c (Value.bool (decide (l.getD (↑g : Int).toNat (0 : Int) = (45 : Int))))) ∧
  [!(decide ((97 : Int) ≤ l.getD (↑g : Int).toNat (0 : Int)) && decide (l.getD (↑g : Int).toNat (0 : Int) ≤ (122 : Int)) || decide ((48 : Int) ≤ l.getD (↑g : Int).toNat (0 : Int)) && decide (l.getD (↑g : Int).toNat (0 : Int) ≤ (57 : Int)) || decide (l.getD (↑g : Int).toNat (0 : Int) = (46 : Int)))] = [!(decide ((97 : Int) ≤ l.getD (↑g : Int).toNat (0 : Int)) && decide (l.getD (↑g : Int).toNat (0 : Int) ≤ (122 : Int)) || decide ((48 : Int) ≤ l.getD (↑g : Int).toNat (0 : Int)) && decide (l.getD (↑g : Int).toNat (0 : Int) ≤ (57 : Int)) || decide (l.getD (↑g : Int).toNat (0 : Int) = (46 : Int)))] ∧
  ((!(decide ((97 : Int) ≤ l.getD (↑g : Int).toNat (0 : Int)) && decide (l.getD (↑g : Int).toNat (0 : Int) ≤ (122 : Int)) || decide ((48 : Int) ≤ l.getD (↑g : Int).toNat (0 : Int)) && decide (l.getD (↑g : Int).toNat (0 : Int) ≤ (57 : Int)) || decide (l.getD (↑g : Int).toNat (0 : Int) = (46 : Int)) || decide (l.getD (↑g : Int).toNat (0 : Int) = (45 : Int)))) = true →
  false = okName (vl (D.ints IntKind.u8 l)) ∧ (true && true) = true) ∧ ((!(decide ((97 : Int) ≤ l.getD (↑g : Int).toNat (0 : Int)) && decide (l.getD (↑g : Int).toNat (0 : Int) ≤ (122 : Int)) || decide ((48 : Int) ≤ l.getD (↑g : Int).toNat (0 : Int)) && decide (l.getD (↑g : Int).toNat (0 : Int) ≤ (57 : Int)) || decide (l.getD (↑g : Int).toNat (0 : Int) = (46 : Int)) || decide (l.getD (↑g : Int).toNat (0 : Int) = (45 : Int)))) = false →
  True ∧ ∃ (g' : Nat), (g' ≤ l.length ∧ ∀ (j : Nat), j < g' → (!okC (l.getD j (0 : Int))) = false) ∧ l.length - g' < l.length - g ∧ (IntKind.i64.wrap ((↑g : Int) + (1 : Int)) = (↑g' : Int) ∧
  (true && true && true) = true) ∧ (some (SV.a (0 : Nat)) = some (SV.a (0 : Nat)) ∧ True) ∧ some (R.ro (D.ints IntKind.u8 l)) = some (R.ro (D.ints IntKind.u8 l)) ∧
  True)) ∧ (decide ((↑g : Int) < (↑l.length : Int)) = false → True ∧ (allT [decide ((1 : Int) ≤ (↑l.length : Int))] → SV.a (0 : Nat) = SV.a (0 : Nat)) ∧ (allT [decide ((1 : Int) ≤ (↑l.length : Int))] →
  [decide ((1 : Int) ≤ (↑l.length : Int))] = [decide ((1 : Int) ≤ (↑l.length : Int))] ∧ SV.c (Value.int IntKind.i64 (↑l.length : Int)) = SV.c (Value.int IntKind.i64 (↑l.length : Int))) ∧
  (allT [decide ((1 : Int) ≤ (↑l.length : Int))] → [decide ((1 : Int) ≤ (↑l.length : Int))] = [decide ((1 : Int) ≤ (↑l.length : Int))] ∧ True ∧ SV.c (Value.bool (decide ((↑l.length : Int) ≤ (32 : Int)))) = SV.c (Value.bool (decide ((↑l.length : Int) ≤ (32 : Int))))) ∧
  [decide ((1 : Int) ≤ (↑l.length : Int))] = [decide ((1 : Int) ≤ (↑l.length : Int))] ∧ (decide ((1 : Int) ≤ (↑l.length : Int)) && decide ((↑l.length : Int) ≤ (32 : Int))) = okName (vl (D.ints IntKind.u8 l)) ∧
  (true && true) = true) := by
  simp only [scOf_sc, scIn_sc, vlIn_l, pickA_eq, lightA_eq, true_and, and_true, implies_true, allT, Bool.and_self, Bool.not_false, List.mem_singleton, List.mem_cons, List.not_mem_nil, or_false, forall_eq, Int.toNat_natCast, vi, vb, vl, vs, List.getD_cons_succ, List.getD_cons_zero, strsOf_strs, rtsOf_rts, avpsOf_avps, mAvps, at_, dO, List.map_cons, List.map_nil, bytes_dec]
  intro l h
  unfold small at h
  refine ⟨0, ⟨Nat.zero_le _, fun j hj => absurd hj (Nat.not_lt_zero _)⟩, rfl, ?_⟩
  rintro g ⟨h1, h2⟩
  refine ⟨fun hc => ?_, fun hc => ?_⟩
  · have hlt : g < l.length := by have := of_decide_eq_true hc; omega
    refine ⟨by omega, fun f => ?_, fun f => ⟨g + 1, ⟨hlt, next (P := fun j => !okC (l.getD j 0)) h2 f⟩, by omega, wrap_nat (by omega)⟩⟩
    have f' : (!okC (l.getD g 0)) = true := f
    have : l.all okC = false := by
      rw [List.all_eq_false]
      exact ⟨_, getD_mem (d := 0) hlt, by simpa using f'⟩
    rw [okName, this, Bool.false_and]
  · have hge := of_decide_eq_false hc
    have : l.all okC = true := by
      rw [List.all_eq_true]
      intro x hx
      obtain ⟨j, hj, rfl⟩ := List.mem_iff_getElem.1 hx
      have := h2 j (by omega)
      rw [show l.getD j 0 = l[j] by simp [List.getD, List.getElem?_eq_getElem hj]] at this
      simpa using this
    rw [okName, this, Bool.true_and]
    congr 1
    · congr 1; apply propext; omega
    · congr 1; apply propext; omega
set_option maxRecDepth 100000 in
theorem ok17 : FnIs Try.prog 17 nameOkC := by
  refine fnIs (C := ctrs b0) (by kernel_rfl) b0_ok Try.func17 (code := code17) (by kernel_rfl) (by kernel_rfl) ?_
  rintro a ⟨l, rfl, h⟩
  exact ⟨anns [(2, idxAnn 3 (fun c => !okC c) l 0)], kcast (vc17 l h) (by kernel_rfl)⟩

noncomputable def code18 : Code := match Try.f18.body with | some c => c | none => .skip
theorem vc18 : ∀ (r h : ByteArray) (b : List ByteArray), small b.length → True ∧ ((!decide (h.data.toList = (ByteArray.mk #[]).data.toList)) = true → True ∧ (80 : Nat) ≤ (140737488355328 : Nat) ∧
  ∃ (g0 : Nat), g0 ≤ b.length ∧ (0 : Int) = (↑g0 : Int) ∧ SV.b true = SV.b true ∧ SV.b false = SV.b false ∧ SV.b false = SV.b false ∧ SV.b false = SV.b false ∧
  SV.c (Value.int IntKind.u32 (9300 : Int)) = SV.c (Value.int IntKind.u32 (9300 : Int)) ∧ SV.c (Value.int IntKind.u32 (0 : Int)) = SV.c (Value.int IntKind.u32 (0 : Int)) ∧
  SV.c (Value.int IntKind.u32 (0 : Int)) = SV.c (Value.int IntKind.u32 (0 : Int)) ∧ SV.c (Value.int IntKind.u32 (0 : Int)) = SV.c (Value.int IntKind.u32 (0 : Int)) ∧
  ((2 : Nat) = (reqF r h (List.take g0 b)).length ∧ ∀ (i : Nat), i < (2 : Nat) → ∀ (j : Nat), j < Try.prog.types[(41 : Nat)].size → (bif i.blt (1 : Nat) then [D.v (Value.int IntKind.u32 (283 : Int)), D.v (Value.int IntKind.u32 (0 : Int)), D.v (Value.bool false), D.v (Value.bool false), D.ints IntKind.u8 (List.map (fun (b : UInt8) => (↑b.toNat : Int)) r.data.toList)].getD (i * Try.prog.types[(41 : Nat)].size + j) (D.v undef) else [D.v (Value.int IntKind.u32 (293 : Int)), D.v (Value.int IntKind.u32 (0 : Int)), D.v (Value.bool false), D.v (Value.bool false), D.ints IntKind.u8 (List.map (fun (b : UInt8) => (↑b.toNat : Int)) h.data.toList)].getD ((i - (1 : Nat)) * Try.prog.types[(41 : Nat)].size + j) (D.v undef)) = avpCell (reqF r h (List.take g0 b)) i j) ∧
  (!(Nat.beq (7 : Nat) (4 : Nat) || false) && (!false && true) && true) = true ∧ ∀ (g : Nat), g ≤ b.length → True ∧ (decide ((↑g : Int) < (↑b.length : Int)) = true →
  ((0 : Int) ≤ (↑g : Int) ∧ (↑g : Int) < (↑b.length : Int)) ∧ (((True ∧ ((reqF r h (List.take g b)).length + (1 : Nat)) * Try.prog.types[(41 : Nat)].bytes ≤ (140737488355328 : Nat) ∧
  (True ∧ ∃ (g' : Nat), g' ≤ b.length ∧ b.length - g' < b.length - g ∧ (IntKind.i64.wrap ((↑g : Int) + (1 : Int)) = (↑g' : Int) ∧ SV.b true = SV.b true ∧
  SV.b false = SV.b false ∧ SV.b false = SV.b false ∧ SV.b false = SV.b false ∧ SV.c (Value.int IntKind.u32 (9300 : Int)) = SV.c (Value.int IntKind.u32 (9300 : Int)) ∧
  SV.c (Value.int IntKind.u32 (0 : Int)) = SV.c (Value.int IntKind.u32 (0 : Int)) ∧ SV.c (Value.int IntKind.u32 (0 : Int)) = SV.c (Value.int IntKind.u32 (0 : Int)) ∧
  SV.c (Value.int IntKind.u32 (0 : Int)) = SV.c (Value.int IntKind.u32 (0 : Int)) ∧ ((reqF r h (List.take g b)).length + (1 : Nat) = (reqF r h (List.take g' b)).length ∧
  ∀ (i : Nat), i < (reqF r h (List.take g b)).length + (1 : Nat) → ∀ (j : Nat), j < (5 : Nat) → (bif i.blt (reqF r h (List.take g b)).length then avpCell (reqF r h (List.take g b)) i j else [D.v (Value.int IntKind.u32 (282 : Int)), D.v (Value.int IntKind.u32 (0 : Int)), D.v (Value.bool false), D.v (Value.bool false), D.ints IntKind.u8 (List.map (fun (b : UInt8) => (↑b.toNat : Int)) (b.getD (↑g : Int).toNat noStr).data.toList)].getD ((i - (reqF r h (List.take g b)).length) * Try.prog.types[(41 : Nat)].size + j) (D.v undef)) = avpCell (reqF r h (List.take g' b)) i j) ∧
  (!(Nat.beq (11 : Nat) (4 : Nat) || false) && (!false && true) && true && ((Nat.ble (8 : Nat) (4 : Nat) || (Nat.beq (4 : Nat) (4 : Nat) || (Nat.beq (7 : Nat) (4 : Nat) || false))) && ((Nat.ble (8 : Nat) (11 : Nat) || (Nat.beq (4 : Nat) (11 : Nat) || (Nat.beq (7 : Nat) (11 : Nat) || false))) && true))) = true) ∧
  (some (SV.p (4 : Nat) (8 : Nat)) = some (SV.p (4 : Nat) (8 : Nat)) ∧ some (SV.a (7 : Nat)) = some (SV.a (7 : Nat)) ∧ some (SV.a (6 : Nat)) = some (SV.a (6 : Nat)) ∧
  some (SV.agg [SV.c (Value.int IntKind.u32 (293 : Int)), SV.c (Value.int IntKind.u32 (0 : Int)), SV.b false, SV.b false, SV.a (5 : Nat)]) = some (SV.agg [SV.c (Value.int IntKind.u32 (293 : Int)), SV.c (Value.int IntKind.u32 (0 : Int)), SV.b false, SV.b false, SV.a (5 : Nat)]) ∧
  some (SV.a (5 : Nat)) = some (SV.a (5 : Nat)) ∧ some (SV.c (Value.string h)) = some (SV.c (Value.string h)) ∧ some (SV.a (3 : Nat)) = some (SV.a (3 : Nat)) ∧
  some (SV.p (4 : Nat) (8 : Nat)) = some (SV.p (4 : Nat) (8 : Nat)) ∧ some (SV.c (Value.bool !decide (h.data.toList = (ByteArray.mk #[]).data.toList))) = some (SV.c (Value.bool !decide (h.data.toList = (ByteArray.mk #[]).data.toList))) ∧
  some (SV.c (Value.string h)) = some (SV.c (Value.string h)) ∧ some (SV.p (4 : Nat) (0 : Nat)) = some (SV.p (4 : Nat) (0 : Nat)) ∧ some (SV.agg [SV.b true, SV.b false, SV.b false, SV.b false, SV.c (Value.int IntKind.u32 (9300 : Int)), SV.c (Value.int IntKind.u32 (0 : Int)), SV.c (Value.int IntKind.u32 (0 : Int)), SV.c (Value.int IntKind.u32 (0 : Int)), SV.a (3 : Nat)]) = some (SV.agg [SV.b true, SV.b false, SV.b false, SV.b false, SV.c (Value.int IntKind.u32 (9300 : Int)), SV.c (Value.int IntKind.u32 (0 : Int)), SV.c (Value.int IntKind.u32 (0 : Int)), SV.c (Value.int IntKind.u32 (0 : Int)), SV.a (3 : Nat)]) ∧
  some (SV.a (3 : Nat)) = some (SV.a (3 : Nat)) ∧ some (SV.agg [SV.c (Value.int IntKind.u32 (283 : Int)), SV.c (Value.int IntKind.u32 (0 : Int)), SV.b false, SV.b false, SV.a (2 : Nat)]) = some (SV.agg [SV.c (Value.int IntKind.u32 (283 : Int)), SV.c (Value.int IntKind.u32 (0 : Int)), SV.b false, SV.b false, SV.a (2 : Nat)]) ∧
  some (SV.a (2 : Nat)) = some (SV.a (2 : Nat)) ∧ some (SV.c (Value.string r)) = some (SV.c (Value.string r)) ∧ some (SV.p (1 : Nat) (0 : Nat)) = some (SV.p (1 : Nat) (0 : Nat)) ∧
  some (SV.c (Value.string r)) = some (SV.c (Value.string r)) ∧ some (SV.c (Value.string h)) = some (SV.c (Value.string h)) ∧ some (SV.a (0 : Nat)) = some (SV.a (0 : Nat)) ∧
  True) ∧ some R.dead = some R.dead ∧ some (R.own (41 : Nat) (D.recs Try.prog.types[(41 : Nat)].size (1 : Nat) fun (i j : Nat) => [D.v (Value.int IntKind.u32 (293 : Int)), D.v (Value.int IntKind.u32 (0 : Int)), D.v (Value.bool false), D.v (Value.bool false), D.ints IntKind.u8 (List.map (fun (b : UInt8) => (↑b.toNat : Int)) h.data.toList)].getD (i * Try.prog.types[(41 : Nat)].size + j) (D.v undef))) = some (R.own (41 : Nat) (D.recs Try.prog.types[(41 : Nat)].size (1 : Nat) fun (i j : Nat) => [D.v (Value.int IntKind.u32 (293 : Int)), D.v (Value.int IntKind.u32 (0 : Int)), D.v (Value.bool false), D.v (Value.bool false), D.ints IntKind.u8 (List.map (fun (b : UInt8) => (↑b.toNat : Int)) h.data.toList)].getD (i * Try.prog.types[(41 : Nat)].size + j) (D.v undef))) ∧
  some (R.ro (D.ints IntKind.u8 (List.map (fun (b : UInt8) => (↑b.toNat : Int)) h.data.toList))) = some (R.ro (D.ints IntKind.u8 (List.map (fun (b : UInt8) => (↑b.toNat : Int)) h.data.toList))) ∧
  some (R.ro (D.ints IntKind.u8 (List.map (fun (b : UInt8) => (↑b.toNat : Int)) r.data.toList))) = some (R.ro (D.ints IntKind.u8 (List.map (fun (b : UInt8) => (↑b.toNat : Int)) r.data.toList))) ∧
  some (R.blk (30 : Nat) [SV.b false, SV.b false, SV.b false, SV.b false, SV.c (Value.int IntKind.u32 (0 : Int)), SV.c (Value.int IntKind.u32 (0 : Int)), SV.c (Value.int IntKind.u32 (0 : Int)), SV.c (Value.int IntKind.u32 (0 : Int)), SV.nil]) = some (R.blk (30 : Nat) [SV.b false, SV.b false, SV.b false, SV.b false, SV.c (Value.int IntKind.u32 (0 : Int)), SV.c (Value.int IntKind.u32 (0 : Int)), SV.c (Value.int IntKind.u32 (0 : Int)), SV.c (Value.int IntKind.u32 (0 : Int)), SV.nil]) ∧
  some (R.ro (D.recs (1 : Nat) b.length (strCell b))) = some (R.ro (D.recs (1 : Nat) b.length (strCell b))) ∧ True) ∧ True) ∧ True) ∧ True) ∧ True) ∧ (decide ((↑g : Int) < (↑b.length : Int)) = false →
  true = true ∧ false = false ∧ false = false ∧ false = false ∧ (9300 : Int) = (9300 : Int) ∧ (0 : Int) = (0 : Int) ∧ (0 : Int) = (0 : Int) ∧ (0 : Int) = (0 : Int) ∧
  ((reqF r h (List.take g b)).length = (reqF (vs (D.v (Value.string r))) (vs (D.v (Value.string h))) (strsOf (D.recs (1 : Nat) b.length (strCell b)))).length ∧
  ∀ (i : Nat), i < (reqF r h (List.take g b)).length → ∀ (j : Nat), j < (5 : Nat) → avpCell (reqF r h (List.take g b)) i j = avpCell (reqF (vs (D.v (Value.string r))) (vs (D.v (Value.string h))) (strsOf (D.recs (1 : Nat) b.length (strCell b)))) i j) ∧
  (!false && true && true) = true)) ∧ ((!decide (h.data.toList = (ByteArray.mk #[]).data.toList)) = false → ∃ (g0 : Nat), g0 ≤ b.length ∧ (0 : Int) = (↑g0 : Int) ∧
  SV.b true = SV.b true ∧ SV.b false = SV.b false ∧ SV.b false = SV.b false ∧ SV.b false = SV.b false ∧ SV.c (Value.int IntKind.u32 (9300 : Int)) = SV.c (Value.int IntKind.u32 (9300 : Int)) ∧
  SV.c (Value.int IntKind.u32 (0 : Int)) = SV.c (Value.int IntKind.u32 (0 : Int)) ∧ SV.c (Value.int IntKind.u32 (0 : Int)) = SV.c (Value.int IntKind.u32 (0 : Int)) ∧
  SV.c (Value.int IntKind.u32 (0 : Int)) = SV.c (Value.int IntKind.u32 (0 : Int)) ∧ ((1 : Nat) = (reqF r h (List.take g0 b)).length ∧ ∀ (i : Nat), i < (1 : Nat) →
  ∀ (j : Nat), j < Try.prog.types[(41 : Nat)].size → [D.v (Value.int IntKind.u32 (283 : Int)), D.v (Value.int IntKind.u32 (0 : Int)), D.v (Value.bool false), D.v (Value.bool false), D.ints IntKind.u8 (List.map (fun (b : UInt8) => (↑b.toNat : Int)) r.data.toList)].getD (i * Try.prog.types[(41 : Nat)].size + j) (D.v undef) = avpCell (reqF r h (List.take g0 b)) i j) ∧
  (!(Nat.beq (3 : Nat) (4 : Nat) || false) && (!false && true) && true) = true ∧ ∀ (g : Nat), g ≤ b.length → True ∧ (decide ((↑g : Int) < (↑b.length : Int)) = true →
  ((0 : Int) ≤ (↑g : Int) ∧ (↑g : Int) < (↑b.length : Int)) ∧ (((True ∧ ((reqF r h (List.take g b)).length + (1 : Nat)) * Try.prog.types[(41 : Nat)].bytes ≤ (140737488355328 : Nat) ∧
  (True ∧ ∃ (g' : Nat), g' ≤ b.length ∧ b.length - g' < b.length - g ∧ (IntKind.i64.wrap ((↑g : Int) + (1 : Int)) = (↑g' : Int) ∧ SV.b true = SV.b true ∧
  SV.b false = SV.b false ∧ SV.b false = SV.b false ∧ SV.b false = SV.b false ∧ SV.c (Value.int IntKind.u32 (9300 : Int)) = SV.c (Value.int IntKind.u32 (9300 : Int)) ∧
  SV.c (Value.int IntKind.u32 (0 : Int)) = SV.c (Value.int IntKind.u32 (0 : Int)) ∧ SV.c (Value.int IntKind.u32 (0 : Int)) = SV.c (Value.int IntKind.u32 (0 : Int)) ∧
  SV.c (Value.int IntKind.u32 (0 : Int)) = SV.c (Value.int IntKind.u32 (0 : Int)) ∧ ((reqF r h (List.take g b)).length + (1 : Nat) = (reqF r h (List.take g' b)).length ∧
  ∀ (i : Nat), i < (reqF r h (List.take g b)).length + (1 : Nat) → ∀ (j : Nat), j < (5 : Nat) → (bif i.blt (reqF r h (List.take g b)).length then avpCell (reqF r h (List.take g b)) i j else [D.v (Value.int IntKind.u32 (282 : Int)), D.v (Value.int IntKind.u32 (0 : Int)), D.v (Value.bool false), D.v (Value.bool false), D.ints IntKind.u8 (List.map (fun (b : UInt8) => (↑b.toNat : Int)) (b.getD (↑g : Int).toNat noStr).data.toList)].getD ((i - (reqF r h (List.take g b)).length) * Try.prog.types[(41 : Nat)].size + j) (D.v undef)) = avpCell (reqF r h (List.take g' b)) i j) ∧
  (!(Nat.beq (8 : Nat) (4 : Nat) || false) && (!false && true) && true && ((Nat.ble (5 : Nat) (4 : Nat) || (Nat.beq (4 : Nat) (4 : Nat) || (Nat.beq (3 : Nat) (4 : Nat) || false))) && ((Nat.ble (5 : Nat) (8 : Nat) || (Nat.beq (4 : Nat) (8 : Nat) || (Nat.beq (3 : Nat) (8 : Nat) || false))) && true))) = true) ∧
  (some (SV.c (Value.bool !decide (h.data.toList = (ByteArray.mk #[]).data.toList))) = some (SV.c (Value.bool !decide (h.data.toList = (ByteArray.mk #[]).data.toList))) ∧
  some (SV.c (Value.string h)) = some (SV.c (Value.string h)) ∧ some (SV.p (4 : Nat) (0 : Nat)) = some (SV.p (4 : Nat) (0 : Nat)) ∧ some (SV.agg [SV.b true, SV.b false, SV.b false, SV.b false, SV.c (Value.int IntKind.u32 (9300 : Int)), SV.c (Value.int IntKind.u32 (0 : Int)), SV.c (Value.int IntKind.u32 (0 : Int)), SV.c (Value.int IntKind.u32 (0 : Int)), SV.a (3 : Nat)]) = some (SV.agg [SV.b true, SV.b false, SV.b false, SV.b false, SV.c (Value.int IntKind.u32 (9300 : Int)), SV.c (Value.int IntKind.u32 (0 : Int)), SV.c (Value.int IntKind.u32 (0 : Int)), SV.c (Value.int IntKind.u32 (0 : Int)), SV.a (3 : Nat)]) ∧
  some (SV.a (3 : Nat)) = some (SV.a (3 : Nat)) ∧ some (SV.agg [SV.c (Value.int IntKind.u32 (283 : Int)), SV.c (Value.int IntKind.u32 (0 : Int)), SV.b false, SV.b false, SV.a (2 : Nat)]) = some (SV.agg [SV.c (Value.int IntKind.u32 (283 : Int)), SV.c (Value.int IntKind.u32 (0 : Int)), SV.b false, SV.b false, SV.a (2 : Nat)]) ∧
  some (SV.a (2 : Nat)) = some (SV.a (2 : Nat)) ∧ some (SV.c (Value.string r)) = some (SV.c (Value.string r)) ∧ some (SV.p (1 : Nat) (0 : Nat)) = some (SV.p (1 : Nat) (0 : Nat)) ∧
  some (SV.c (Value.string r)) = some (SV.c (Value.string r)) ∧ some (SV.c (Value.string h)) = some (SV.c (Value.string h)) ∧ some (SV.a (0 : Nat)) = some (SV.a (0 : Nat)) ∧
  True) ∧ some (R.ro (D.ints IntKind.u8 (List.map (fun (b : UInt8) => (↑b.toNat : Int)) r.data.toList))) = some (R.ro (D.ints IntKind.u8 (List.map (fun (b : UInt8) => (↑b.toNat : Int)) r.data.toList))) ∧
  some (R.blk (30 : Nat) [SV.b false, SV.b false, SV.b false, SV.b false, SV.c (Value.int IntKind.u32 (0 : Int)), SV.c (Value.int IntKind.u32 (0 : Int)), SV.c (Value.int IntKind.u32 (0 : Int)), SV.c (Value.int IntKind.u32 (0 : Int)), SV.nil]) = some (R.blk (30 : Nat) [SV.b false, SV.b false, SV.b false, SV.b false, SV.c (Value.int IntKind.u32 (0 : Int)), SV.c (Value.int IntKind.u32 (0 : Int)), SV.c (Value.int IntKind.u32 (0 : Int)), SV.c (Value.int IntKind.u32 (0 : Int)), SV.nil]) ∧
  some (R.ro (D.recs (1 : Nat) b.length (strCell b))) = some (R.ro (D.recs (1 : Nat) b.length (strCell b))) ∧ True) ∧ True) ∧ True) ∧ True) ∧ True) ∧ (decide ((↑g : Int) < (↑b.length : Int)) = false →
  true = true ∧ false = false ∧ false = false ∧ false = false ∧ (9300 : Int) = (9300 : Int) ∧ (0 : Int) = (0 : Int) ∧ (0 : Int) = (0 : Int) ∧ (0 : Int) = (0 : Int) ∧
  ((reqF r h (List.take g b)).length = (reqF (vs (D.v (Value.string r))) (vs (D.v (Value.string h))) (strsOf (D.recs (1 : Nat) b.length (strCell b)))).length ∧
  ∀ (i : Nat), i < (reqF r h (List.take g b)).length → ∀ (j : Nat), j < (5 : Nat) → avpCell (reqF r h (List.take g b)) i j = avpCell (reqF (vs (D.v (Value.string r))) (vs (D.v (Value.string h))) (strsOf (D.recs (1 : Nat) b.length (strCell b)))) i j) ∧
  (!false && true && true) = true)) := by
  simp only [true_and, and_true, implies_true, Bool.and_self, Bool.not_false, Int.toNat_natCast, vs, List.getD_cons_succ, List.getD_cons_zero, strsOf_strs, at_, dO, size41, bytes41]
  intro r h b hb
  unfold small at hb
  refine ⟨fun e => ⟨by omega, 0, Nat.zero_le _, rfl, ⟨?_, fun i hi j hj => ?_⟩, rfl, ?_⟩, fun e => ⟨0, Nat.zero_le _, rfl, ⟨?_, fun i hi j hj => ?_⟩, rfl, ?_⟩⟩
  · have hne : ¬ h = noStr := by rw [← noStr_iff]; simpa using e
    rw [reqF, if_neg hne]; rfl
  · have hne : ¬ h = noStr := by rw [← noStr_iff]; simpa using e
    have he : reqF r h (b.take 0) = [reqAvp 283 r] ++ [reqAvp 293 h] := by rw [reqF, if_neg hne]; rfl
    rw [he, ← app_cell [reqAvp 283 r] (reqAvp 293 h) hi hj]
    by_cases h0 : i = 0
    · subst h0
      simp only [Nat.zero_mul, Nat.zero_add]
      exact cell_of (a := reqAvp 283 r) (l := [reqAvp 283 r]) (i := 0) rfl hj
    · have h1 : i = 1 := by omega
      subst h1; rfl
  · rintro g hg
    refine ⟨fun hc => ?_, fun hc => ?_⟩
    · have hlt : g < b.length := by have := of_decide_eq_true hc; omega
      have hl := reqF_len r h (b.take g)
      have hl2 : (b.take g).length ≤ b.length := by rw [List.length_take]; omega
      refine ⟨by omega, by omega, g + 1, hlt, by omega, wrap_nat (by omega), ⟨?_, fun i hi j hj => ?_⟩, rfl⟩
      · rw [reqF_succ r h b hlt, List.length_append]; rfl
      · rw [reqF_succ r h b hlt]
        exact app_cell _ (reqAvp 282 (b.getD g noStr)) hi hj
    · have e : b.take g = b := List.take_of_length_le (by have := of_decide_eq_false hc; omega)
      rw [e]
      exact ⟨rfl, fun _ _ _ _ => rfl⟩
  · have hne : h = noStr := by rw [← noStr_iff]; simpa using e
    rw [reqF, if_pos hne]; rfl
  · have hne : h = noStr := by rw [← noStr_iff]; simpa using e
    have he : reqF r h (b.take 0) = [reqAvp 283 r] := by rw [reqF, if_pos hne]; rfl
    rw [he]
    have h0 : i = 0 := by omega
    subst h0
    rw [Nat.zero_mul, Nat.zero_add]
    exact cell_of (a := reqAvp 283 r) (l := [reqAvp 283 r]) (i := 0) rfl hj
  · rintro g hg
    refine ⟨fun hc => ?_, fun hc => ?_⟩
    · have hlt : g < b.length := by have := of_decide_eq_true hc; omega
      have hl := reqF_len r h (b.take g)
      have hl2 : (b.take g).length ≤ b.length := by rw [List.length_take]; omega
      refine ⟨by omega, by omega, g + 1, hlt, by omega, wrap_nat (by omega), ⟨?_, fun i hi j hj => ?_⟩, rfl⟩
      · rw [reqF_succ r h b hlt, List.length_append]; rfl
      · rw [reqF_succ r h b hlt]
        exact app_cell _ (reqAvp 282 (b.getD g noStr)) hi hj
    · have e : b.take g = b := List.take_of_length_le (by have := of_decide_eq_false hc; omega)
      rw [e]
      exact ⟨rfl, fun _ _ _ _ => rfl⟩
set_option maxRecDepth 100000 in
theorem ok18 : FnIs Try.prog 18 requestC := by
  refine fnIs (C := ctrs b0) (by kernel_rfl) b0_ok Try.func18 (code := code18) (by kernel_rfl) (by kernel_rfl) ?_
  rintro a ⟨r, h, b, rfl, hb⟩
  exact ⟨anns [(5, reqAnn r h b)], kcast (vc18 r h b hb) (by kernel_rfl)⟩

end Go.YR
