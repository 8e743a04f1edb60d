/- Part 5 of what the closing text rests on. -/
import Derived.Test.YtdamnoleoakehaaGreatDoorKX4
namespace Go.Z
open Go.RowKit

section
variable {P : Program} {K : Ctx} {θ : Th} {h : List (Nat × R)} {nx : Nat} {w : World}

def nilLoc : Loc := ⟨none, 0, 0⟩
def Takes (K : Ctx) (θ : Th) (h : List (Nat × R)) (ns : List Nat) (X : Nat → Prop) : Prop := (∀ b, Free K θ h b → X b) ∧ ∀ n ∈ ns, ∀ b, OwnsAt θ h n b → X b

theorem Takes.left {ns ms : List Nat} {X : Nat → Prop} (t : Takes K θ h (ns ++ ms) X) : Takes K θ h ns X := ⟨t.1, fun n hn => t.2 n (by simp [hn])⟩
theorem Takes.right {ns ms : List Nat} {X : Nat → Prop} (t : Takes K θ h (ns ++ ms) X) : Takes K θ h ms X := ⟨t.1, fun n hn => t.2 n (by simp [hn])⟩

theorem DL.length {X : Nat → Prop} : ∀ {l : List D} {us : List Value}, DL.holds X w l us → l.length = us.length
  | [], [], _ => rfl
  | [], _ :: _, h => h.elim
  | _ :: _, [], h => h.elim
  | _ :: _, _ :: _, h => by simp [DL.length h.2]
theorem DL.getD {X : Nat → Prop} : ∀ {l : List D} {us : List Value}, DL.holds X w l us → ∀ i, i < l.length → ∃ c, us[i]? = some c ∧ (l.getD i (.v undef)).holds X w c
  | [], _, _, i, hi => by simp at hi
  | _ :: _, [], h, _, _ => h.elim
  | d :: l, u :: us, h, 0, _ => ⟨u, rfl, by simpa using h.1⟩
  | d :: l, u :: us, h, i + 1, hi => by
    obtain ⟨c, h1, h2⟩ := DL.getD h.2 i (by simpa using hi)
    exact ⟨c, by simpa using h1, by simpa using h2⟩

def NamesFp (θ : Th) (h : List (Nat × R)) (ns fp : List Nat) : Prop := (∀ b ∈ fp, ∃ n ∈ ns, OwnsAt θ h n b) ∧ (ns.Nodup → fp.Nodup) ∧ ∀ n ∈ ns, ∃ L, θ n = some L

theorem NamesFp.nil : NamesFp θ h [] [] := ⟨fun b hb => (by cases hb), fun _ => List.nodup_nil, fun b hb => (by cases hb)⟩
theorem NamesFp.append (hs : SatH K θ h nx w) {ns ms f g : List Nat} (a : NamesFp θ h ns f) (b : NamesFp θ h ms g) : NamesFp θ h (ns ++ ms) (f ++ g) := by
  refine ⟨fun c hc => ?_, fun hn => ?_, fun n hn => (List.mem_append.1 hn).elim (a.2.2 n) (b.2.2 n)⟩
  · rcases List.mem_append.1 hc with hc | hc
    · obtain ⟨n, h1, h2⟩ := a.1 c hc; exact ⟨n, by simp [h1], h2⟩
    · obtain ⟨n, h1, h2⟩ := b.1 c hc; exact ⟨n, by simp [h1], h2⟩
  · obtain ⟨n1, n2, n3⟩ := List.nodup_append.1 hn
    rw [List.nodup_append]
    refine ⟨a.2.1 n1, b.2.1 n2, fun x hx y hy e => ?_⟩
    subst e
    obtain ⟨n, h1, h2⟩ := a.1 x hx
    obtain ⟨m, h3, h4⟩ := b.1 x hy
    exact n3 n h1 m h3 (hs.dis n m x h2 h4)
theorem NamesFp.one {n b : Nat} (ho : OwnsAt θ h n b) : NamesFp θ h [n] [b] :=
  ⟨fun c hc => by simp at hc; subst hc; exact ⟨n, by simp, ho⟩, fun _ => by simp, fun m hm => by simp at hm; subst hm; obtain ⟨_, L, _, hL, _⟩ := ho; exact ⟨L, hL⟩⟩
theorem NamesFp.none {n : Nat} {L : Loc} (hL : θ n = some L) : NamesFp θ h [n] [] := ⟨fun b hb => (by cases hb), fun _ => List.nodup_nil, fun m hm => by simp at hm; subst hm; exact ⟨L, hL⟩⟩

end
end Go.Z

namespace Go.Z
open Go.RowKit


def memB (n : Nat) : List Nat → Bool
  | [] => false
  | m :: l => Nat.beq m n || memB n l
section
variable {K : Ctx} {θ : Th} {h : List (Nat × R)} {nx : Nat} {w : World}

def Named (θ : Th) (ns : List Nat) : Prop := ∀ n ∈ ns, ∃ L, θ n = some L
theorem Named.nil : Named θ [] := fun n hn => by cases hn
theorem Named.one {n : Nat} {L : Loc} (h : θ n = some L) : Named θ [n] := fun m hm => by simp at hm; subst hm; exact ⟨L, h⟩
theorem Named.append {ns ms : List Nat} (a : Named θ ns) (b : Named θ ms) : Named θ (ns ++ ms) := fun n hn => (List.mem_append.1 hn).elim (a n) (b n)

end
end Go.Z

namespace Go.Z
open Go.RowKit

def retVal : List Value → Value
  | [v] => v
  | vs => .tuple vs.toArray
def After (w : World) (A : Nat → Prop) (fp fo : List Nat) (b : Nat) : Prop := (w.heap.size ≤ b ∨ A b ∨ b ∈ fp) ∧ b ∉ fo

structure Ctr where
  own : List Bool
  pre : List O → Prop
  res : List O → List O
  upd : List O → List O
  ro : Bool
  quiet : Bool
  gl : List (Nat × Nat × IntKind × List Int) := []

def GOK (gl : List (Nat × Nat × IntKind × List Int)) (A : Nat → Prop) (w : World) (fp : List Nat) : Prop :=
  ∀ x ∈ gl, A x.1 ∧ x.1 ∉ fp ∧ GCell w x.1 x.2.2.1 x.2.2.2
def FnOk (P : Program) (f : Nat) (c : Ctr) : Prop :=
  ∀ (w : World) (A : Nat → Prop) (as : List O) (vs : List Value) (fp : List Nat), OL.holds (fun b => A b ∧ b ∉ fp) w as vs fp → fp.Nodup → (∀ b ∈ fp, b < w.heap.size) → c.pre as → GOK c.gl A w fp →
    Calls P f vs.toArray w fun e w' => ∃ (rs : List Value) (fu fr : List Nat), e = .returned (retVal rs) ∧ Fr (· ∈ fp) w w' ∧ (fu ++ fr).Nodup ∧ (∀ b ∈ fu ++ fr, b ∈ fp ∨ w.heap.size ≤ b) ∧
      OL.holds (After w A fp (fu ++ fr)) w' (c.upd as) vs fu ∧ OL.holds (After w A fp (fu ++ fr)) w' (c.res as) rs fr

def D.plain : D → Bool
  | .v _ => true
  | _ => false
mutual
def O.plain : O → Bool
  | .d x => x.plain
  | .own _ (.ints _ _) => true
  | .own _ _ => false
  | .ptr _ l => OL.plain l
  | .agg l => OL.plain l
  | .pown .. => false
  | .ex .. => false
  | .mapR .. => false
  | .rsl .. => false
  | .ifc _ o => o.plain
  | _ => true
def OL.plain : List O → Bool
  | [] => true
  | o :: l => o.plain && OL.plain l
end


section
variable {P : Program} {K : Ctx} {θ : Th} {h : List (Nat × R)} {nx : Nat} {w : World}

structure BacksX (K : Ctx) (X : Nat → Prop) (fp : List Nat) (θ θ' : Th) (h h' : List (Nat × R)) (nx nx' : Nat) (w : World) : Prop where
  sat : SatX K X θ' h' nx' w
  ext : θ.ext θ'
  le : nx ≤ nx'
  agree : ∀ n, n < nx → θ' n = θ n
  own : ∀ n b, OwnsAt θ' h' n b → OwnsAt θ h n b ∨ b ∈ fp

theorem BacksX.trans {X : Nat → Prop} {f g : List Nat} {θ θ' θ'' : Th} {h h' h'' : List (Nat × R)} {nx nx' nx'' : Nat} (a : BacksX K X f θ θ' h h' nx nx' w) (b : BacksX K X g θ' θ'' h' h'' nx' nx'' w) : BacksX K X (f ++ g) θ θ'' h h'' nx nx'' w :=
  ⟨b.sat, Th.ext_trans a.ext b.ext, Nat.le_trans a.le b.le, fun n hn => (b.agree n (Nat.lt_of_lt_of_le hn a.le)).trans (a.agree n hn), fun n b' ho => by
      rcases b.own n b' ho with h1 | h1
      · rcases a.own n b' h1 with h2 | h2
        · exact .inl h2
        · exact .inr (by simp [h2])
      · exact .inr (by simp [h1])⟩
end
end Go.Z

