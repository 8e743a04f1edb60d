/- Part 10 of what the closing text rests on. -/
import Derived.Test.YtdamnoleoakehaaGreatDoorKX9
namespace Go.Z
open Go.RowKit

section
variable {K : Ctx} {θ : Th} {h : List (Nat × R)} {nx : Nat} {w : World}

def Ctx.sub (K : Ctx) (θ : Th) (h hj : List (Nat × R)) (w : World) : Ctx where
  w0 := w
  M b := ∃ n, OwnsAt θ hj n b
  A b := Free K θ h b ∨ ∃ n, OwnsAt θ hj n b
  N := K.N
  ma _ hb := .inr hb

end
end Go.Z

namespace Go.Z
open Go.RowKit

section
variable {P : Program} {C : CE} {K : Ctx} {θ0 : Th} {ops : Array Oper}

def ProtOk (θ : Th) (pr : List (Nat × List SV)) (prB : Prot) : Prop := ∀ x ∈ prB, ∃ rds, (x.1, rds) ∈ pr ∧ ∀ b, x.2 b → ∃ s, s ∈ rds ∧ rdB θ s b

theorem rdB_mono {θ θ' : Th} (hx : θ.ext θ') {s : SV} {b : Nat} (h : rdB θ s b) : rdB θ' s b := by
  cases s <;> simp only [rdB] at h ⊢ <;> first | exact h | (obtain ⟨L, h1, h2⟩ := h; exact ⟨L, hx _ _ h1, h2⟩)

theorem ProtOk.mono {θ θ' : Th} (hx : θ.ext θ') {pr : List (Nat × List SV)} {prB : Prot} (h : ProtOk θ pr prB) : ProtOk θ' pr prB := fun x hm => by
  obtain ⟨rds, h1, h2⟩ := h x hm
  refine ⟨rds, h1, fun b hb => ?_⟩
  obtain ⟨s, h3, h4⟩ := h2 b hb
  exact ⟨s, h3, rdB_mono hx h4⟩

end
end Go.Z

namespace Go.Z
open Go.RowKit

inductive OI where
  | o (x : O)
  | same
inductive G where
  | c (x : O)
  | blk (l : List OI)
  | pw (f : Nat → Nat → D)
  | it (seen : List Nat)
  | ow (x : D)
  | mu (j : Nat)
abbrev Item := Nat × G

structure LoopAnn where
  γ : Type
  pre : γ → Prop
  μ : γ → Nat
  items : γ → List Item

inductive LoopF where
  | one (A : LoopAnn)
  | fam (π : Type) (A : π → LoopAnn)
instance : Coe LoopAnn LoopF := ⟨.one⟩

structure Ann where
  loop : Nat → Option LoopF
  split : Nat → Bool
  unroll : Nat → Nat
  drop : Nat → List Nat
  cut : Nat → Option (List Nat × LoopF)

inductive Ex where
  | normal
  | exit (id : Nat)
  | ret

def firstRegion : Code → Option Nat
  | .region id _ _ => some id
  | .seq a b => match firstRegion a with
    | some i => some i
    | none => firstRegion b
  | .cond _ a b => match firstRegion a with
    | some i => some i
    | none => firstRegion b
  | .block _ c => firstRegion c
  | .loop c => firstRegion c
  | .scope c => firstRegion c
  | _ => none

def itAt (env : List (Nat × SV)) (t : Nat) : Option Nat :=
  match efind env t with
  | some (.p m 0) => some m
  | _ => none

abbrev EK := Ex → List (Nat × SV) → List (Nat × R) → Nat → Prop

def rounds (body : List (Nat × SV) → List (Nat × R) → Nat → EK → Prop) : Nat → List (Nat × SV) → List (Nat × R) → Nat → EK → Prop
  | 0, _, _, _, _ => False
  | n + 1, env, h, nx, k => body env h nx fun e env' h' nx' => match e with
    | .normal => rounds body n env' h' nx' k
    | e => k e env' h' nx'

end Go.Z

namespace Go.Z
open Go.RowKit


section
variable {K : Ctx} {X : Nat → Prop} {w : World} {θ1 : Th} {env1 : List (Nat × SV)} {h1 : List (Nat × R)}

end

section
variable {K : Ctx} {θ1 θ : Th} {env1 env : List (Nat × SV)} {h1 h : List (Nat × R)} {nx1 nx : Nat} {a1 a : Act} {w1 w : World}

end
end Go.Z

