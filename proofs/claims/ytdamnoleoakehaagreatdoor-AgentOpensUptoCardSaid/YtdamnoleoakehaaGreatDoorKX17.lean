/- Part 17 of what the closing text rests on. -/
import Derived.Test.YtdamnoleoakehaaGreatDoorKX16
namespace Go.Q
noncomputable section
open Go.RowKit
open Go.Z hiding cond_false get resF

inductive KV where
  | bad
  | i (k : IntKind) (n : Nat)
  | b (t : Bool)
  | d (x : DV)
  deriving Inhabited
def KV.dv : KV → Option DV
  | .bad => none
  | .i k n => some (.n k (lit (Int.ofNat n)))
  | .b t => some (.c (.bool t))
  | .d x => some x
structure EK where
  a0 : KV
  a1 : KV
  a2 : KV
  a3 : KV
  a4 : KV
  a5 : KV
  a6 : KV
  a7 : KV
  a8 : KV
  a9 : KV
  a10 : KV
  a11 : KV
  a12 : KV
  a13 : KV
  a14 : KV
  a15 : KV
  a16 : KV
  a17 : KV
  a18 : KV
  a19 : KV
  a20 : KV
  a21 : KV
  a22 : KV
  a23 : KV
  a24 : KV
  a25 : KV
  a26 : KV
  a27 : KV
  a28 : KV
  a29 : KV
  a30 : KV
  a31 : KV
  a32 : KV
  a33 : KV
  a34 : KV
  a35 : KV
  a36 : KV
  a37 : KV
  a38 : KV
  a39 : KV
def EK.toL (e : EK) : List KV := [e.a0, e.a1, e.a2, e.a3, e.a4, e.a5, e.a6, e.a7, e.a8, e.a9, e.a10, e.a11, e.a12, e.a13, e.a14, e.a15, e.a16, e.a17, e.a18, e.a19, e.a20, e.a21, e.a22, e.a23, e.a24, e.a25, e.a26, e.a27, e.a28, e.a29, e.a30, e.a31, e.a32, e.a33, e.a34, e.a35, e.a36, e.a37, e.a38, e.a39]
def EK.get (e : EK) (p : Nat) : KV := e.toL.getD p .bad
def EK.ofL (l : List KV) : EK := ⟨l.getD 0 .bad, l.getD 1 .bad, l.getD 2 .bad, l.getD 3 .bad, l.getD 4 .bad, l.getD 5 .bad, l.getD 6 .bad, l.getD 7 .bad, l.getD 8 .bad, l.getD 9 .bad, l.getD 10 .bad, l.getD 11 .bad, l.getD 12 .bad, l.getD 13 .bad, l.getD 14 .bad, l.getD 15 .bad, l.getD 16 .bad, l.getD 17 .bad, l.getD 18 .bad, l.getD 19 .bad, l.getD 20 .bad, l.getD 21 .bad, l.getD 22 .bad, l.getD 23 .bad, l.getD 24 .bad, l.getD 25 .bad, l.getD 26 .bad, l.getD 27 .bad, l.getD 28 .bad, l.getD 29 .bad, l.getD 30 .bad, l.getD 31 .bad, l.getD 32 .bad, l.getD 33 .bad, l.getD 34 .bad, l.getD 35 .bad, l.getD 36 .bad, l.getD 37 .bad, l.getD 38 .bad, l.getD 39 .bad⟩
def EK.set (e : EK) (p : Nat) (v : KV) : EK := EK.ofL (e.toL.set p v)
theorem EK.toL_ofL (l : List KV) : (EK.ofL l).toL = (List.range 40).map (fun i => l.getD i .bad) := rfl
theorem EK.get_ofL (l : List KV) (h : l.length = 40) (p : Nat) : (EK.ofL l).get p = l.getD p .bad := by
  unfold EK.get
  rw [EK.toL_ofL, List.getD_eq_getElem?_getD, List.getElem?_map]
  by_cases hp : p < 40
  · rw [List.getElem?_range hp]; rfl
  · rw [List.getElem?_eq_none (by simp; omega), List.getD_eq_getElem?_getD, List.getElem?_eq_none (by omega)]; rfl
theorem EK.get_set (e : EK) (p q : Nat) (v : KV) (hp : p < 40) : (e.set p v).get q = if p = q then v else e.get q := by
  unfold EK.set
  rw [EK.get_ofL _ (by rw [List.length_set]; rfl)]
  unfold EK.get
  rw [List.getD_eq_getElem?_getD, List.getD_eq_getElem?_getD, List.getElem?_set]
  by_cases h : p = q
  · subst h
    have : p < e.toL.length := hp
    simp [this]
  · simp [h]
inductive XK where
  | n (e : EK) (s : St)
  | x (i : Nat) (e : EK) (s : St)
  | r (d : DV) (s : St)
inductive O3 where
  | no
  | n (e : EK) (s : St)
  | x (i : Nat) (e : EK) (s : St)
  | r (d : DV) (s : St)
  | many (l : List XK)
def O3.L : O3 → Option (List XK)
  | .no => none
  | .n e s => some [.n e s]
  | .x i e s => some [.x i e s]
  | .r d s => some [.r d s]
  | .many l => some l
structure GP where
  g : EK → (KV → O3) → O3
structure SP where
  s : EK → KV → (EK → O3) → O3
noncomputable section
def g0 : GP := ⟨fun e k => @EK.rec (fun _ => (KV → O3) → O3) (fun x0 _ _ _ _ _ _ _ _ _ _ _ _ _ _ _ _ _ _ _ _ _ _ _ _ _ _ _ _ _ _ _ _ _ _ _ _ _ _ _ k => k x0) e k⟩
def g1 : GP := ⟨fun e k => @EK.rec (fun _ => (KV → O3) → O3) (fun _ x1 _ _ _ _ _ _ _ _ _ _ _ _ _ _ _ _ _ _ _ _ _ _ _ _ _ _ _ _ _ _ _ _ _ _ _ _ _ _ k => k x1) e k⟩
def g2 : GP := ⟨fun e k => @EK.rec (fun _ => (KV → O3) → O3) (fun _ _ x2 _ _ _ _ _ _ _ _ _ _ _ _ _ _ _ _ _ _ _ _ _ _ _ _ _ _ _ _ _ _ _ _ _ _ _ _ _ k => k x2) e k⟩
def g3 : GP := ⟨fun e k => @EK.rec (fun _ => (KV → O3) → O3) (fun _ _ _ x3 _ _ _ _ _ _ _ _ _ _ _ _ _ _ _ _ _ _ _ _ _ _ _ _ _ _ _ _ _ _ _ _ _ _ _ _ k => k x3) e k⟩
def g4 : GP := ⟨fun e k => @EK.rec (fun _ => (KV → O3) → O3) (fun _ _ _ _ x4 _ _ _ _ _ _ _ _ _ _ _ _ _ _ _ _ _ _ _ _ _ _ _ _ _ _ _ _ _ _ _ _ _ _ _ k => k x4) e k⟩
def g5 : GP := ⟨fun e k => @EK.rec (fun _ => (KV → O3) → O3) (fun _ _ _ _ _ x5 _ _ _ _ _ _ _ _ _ _ _ _ _ _ _ _ _ _ _ _ _ _ _ _ _ _ _ _ _ _ _ _ _ _ k => k x5) e k⟩
def g6 : GP := ⟨fun e k => @EK.rec (fun _ => (KV → O3) → O3) (fun _ _ _ _ _ _ x6 _ _ _ _ _ _ _ _ _ _ _ _ _ _ _ _ _ _ _ _ _ _ _ _ _ _ _ _ _ _ _ _ _ k => k x6) e k⟩
def g7 : GP := ⟨fun e k => @EK.rec (fun _ => (KV → O3) → O3) (fun _ _ _ _ _ _ _ x7 _ _ _ _ _ _ _ _ _ _ _ _ _ _ _ _ _ _ _ _ _ _ _ _ _ _ _ _ _ _ _ _ k => k x7) e k⟩
def g8 : GP := ⟨fun e k => @EK.rec (fun _ => (KV → O3) → O3) (fun _ _ _ _ _ _ _ _ x8 _ _ _ _ _ _ _ _ _ _ _ _ _ _ _ _ _ _ _ _ _ _ _ _ _ _ _ _ _ _ _ k => k x8) e k⟩
def g9 : GP := ⟨fun e k => @EK.rec (fun _ => (KV → O3) → O3) (fun _ _ _ _ _ _ _ _ _ x9 _ _ _ _ _ _ _ _ _ _ _ _ _ _ _ _ _ _ _ _ _ _ _ _ _ _ _ _ _ _ k => k x9) e k⟩
def g10 : GP := ⟨fun e k => @EK.rec (fun _ => (KV → O3) → O3) (fun _ _ _ _ _ _ _ _ _ _ x10 _ _ _ _ _ _ _ _ _ _ _ _ _ _ _ _ _ _ _ _ _ _ _ _ _ _ _ _ _ k => k x10) e k⟩
def g11 : GP := ⟨fun e k => @EK.rec (fun _ => (KV → O3) → O3) (fun _ _ _ _ _ _ _ _ _ _ _ x11 _ _ _ _ _ _ _ _ _ _ _ _ _ _ _ _ _ _ _ _ _ _ _ _ _ _ _ _ k => k x11) e k⟩
def g12 : GP := ⟨fun e k => @EK.rec (fun _ => (KV → O3) → O3) (fun _ _ _ _ _ _ _ _ _ _ _ _ x12 _ _ _ _ _ _ _ _ _ _ _ _ _ _ _ _ _ _ _ _ _ _ _ _ _ _ _ k => k x12) e k⟩
def g13 : GP := ⟨fun e k => @EK.rec (fun _ => (KV → O3) → O3) (fun _ _ _ _ _ _ _ _ _ _ _ _ _ x13 _ _ _ _ _ _ _ _ _ _ _ _ _ _ _ _ _ _ _ _ _ _ _ _ _ _ k => k x13) e k⟩
def g14 : GP := ⟨fun e k => @EK.rec (fun _ => (KV → O3) → O3) (fun _ _ _ _ _ _ _ _ _ _ _ _ _ _ x14 _ _ _ _ _ _ _ _ _ _ _ _ _ _ _ _ _ _ _ _ _ _ _ _ _ k => k x14) e k⟩
def g15 : GP := ⟨fun e k => @EK.rec (fun _ => (KV → O3) → O3) (fun _ _ _ _ _ _ _ _ _ _ _ _ _ _ _ x15 _ _ _ _ _ _ _ _ _ _ _ _ _ _ _ _ _ _ _ _ _ _ _ _ k => k x15) e k⟩
def g16 : GP := ⟨fun e k => @EK.rec (fun _ => (KV → O3) → O3) (fun _ _ _ _ _ _ _ _ _ _ _ _ _ _ _ _ x16 _ _ _ _ _ _ _ _ _ _ _ _ _ _ _ _ _ _ _ _ _ _ _ k => k x16) e k⟩
def g17 : GP := ⟨fun e k => @EK.rec (fun _ => (KV → O3) → O3) (fun _ _ _ _ _ _ _ _ _ _ _ _ _ _ _ _ _ x17 _ _ _ _ _ _ _ _ _ _ _ _ _ _ _ _ _ _ _ _ _ _ k => k x17) e k⟩
def g18 : GP := ⟨fun e k => @EK.rec (fun _ => (KV → O3) → O3) (fun _ _ _ _ _ _ _ _ _ _ _ _ _ _ _ _ _ _ x18 _ _ _ _ _ _ _ _ _ _ _ _ _ _ _ _ _ _ _ _ _ k => k x18) e k⟩
def g19 : GP := ⟨fun e k => @EK.rec (fun _ => (KV → O3) → O3) (fun _ _ _ _ _ _ _ _ _ _ _ _ _ _ _ _ _ _ _ x19 _ _ _ _ _ _ _ _ _ _ _ _ _ _ _ _ _ _ _ _ k => k x19) e k⟩
def g20 : GP := ⟨fun e k => @EK.rec (fun _ => (KV → O3) → O3) (fun _ _ _ _ _ _ _ _ _ _ _ _ _ _ _ _ _ _ _ _ x20 _ _ _ _ _ _ _ _ _ _ _ _ _ _ _ _ _ _ _ k => k x20) e k⟩
def g21 : GP := ⟨fun e k => @EK.rec (fun _ => (KV → O3) → O3) (fun _ _ _ _ _ _ _ _ _ _ _ _ _ _ _ _ _ _ _ _ _ x21 _ _ _ _ _ _ _ _ _ _ _ _ _ _ _ _ _ _ k => k x21) e k⟩
def g22 : GP := ⟨fun e k => @EK.rec (fun _ => (KV → O3) → O3) (fun _ _ _ _ _ _ _ _ _ _ _ _ _ _ _ _ _ _ _ _ _ _ x22 _ _ _ _ _ _ _ _ _ _ _ _ _ _ _ _ _ k => k x22) e k⟩
def g23 : GP := ⟨fun e k => @EK.rec (fun _ => (KV → O3) → O3) (fun _ _ _ _ _ _ _ _ _ _ _ _ _ _ _ _ _ _ _ _ _ _ _ x23 _ _ _ _ _ _ _ _ _ _ _ _ _ _ _ _ k => k x23) e k⟩
def g24 : GP := ⟨fun e k => @EK.rec (fun _ => (KV → O3) → O3) (fun _ _ _ _ _ _ _ _ _ _ _ _ _ _ _ _ _ _ _ _ _ _ _ _ x24 _ _ _ _ _ _ _ _ _ _ _ _ _ _ _ k => k x24) e k⟩
def g25 : GP := ⟨fun e k => @EK.rec (fun _ => (KV → O3) → O3) (fun _ _ _ _ _ _ _ _ _ _ _ _ _ _ _ _ _ _ _ _ _ _ _ _ _ x25 _ _ _ _ _ _ _ _ _ _ _ _ _ _ k => k x25) e k⟩
def g26 : GP := ⟨fun e k => @EK.rec (fun _ => (KV → O3) → O3) (fun _ _ _ _ _ _ _ _ _ _ _ _ _ _ _ _ _ _ _ _ _ _ _ _ _ _ x26 _ _ _ _ _ _ _ _ _ _ _ _ _ k => k x26) e k⟩
def g27 : GP := ⟨fun e k => @EK.rec (fun _ => (KV → O3) → O3) (fun _ _ _ _ _ _ _ _ _ _ _ _ _ _ _ _ _ _ _ _ _ _ _ _ _ _ _ x27 _ _ _ _ _ _ _ _ _ _ _ _ k => k x27) e k⟩
def g28 : GP := ⟨fun e k => @EK.rec (fun _ => (KV → O3) → O3) (fun _ _ _ _ _ _ _ _ _ _ _ _ _ _ _ _ _ _ _ _ _ _ _ _ _ _ _ _ x28 _ _ _ _ _ _ _ _ _ _ _ k => k x28) e k⟩
def g29 : GP := ⟨fun e k => @EK.rec (fun _ => (KV → O3) → O3) (fun _ _ _ _ _ _ _ _ _ _ _ _ _ _ _ _ _ _ _ _ _ _ _ _ _ _ _ _ _ x29 _ _ _ _ _ _ _ _ _ _ k => k x29) e k⟩
def g30 : GP := ⟨fun e k => @EK.rec (fun _ => (KV → O3) → O3) (fun _ _ _ _ _ _ _ _ _ _ _ _ _ _ _ _ _ _ _ _ _ _ _ _ _ _ _ _ _ _ x30 _ _ _ _ _ _ _ _ _ k => k x30) e k⟩
def g31 : GP := ⟨fun e k => @EK.rec (fun _ => (KV → O3) → O3) (fun _ _ _ _ _ _ _ _ _ _ _ _ _ _ _ _ _ _ _ _ _ _ _ _ _ _ _ _ _ _ _ x31 _ _ _ _ _ _ _ _ k => k x31) e k⟩
def g32 : GP := ⟨fun e k => @EK.rec (fun _ => (KV → O3) → O3) (fun _ _ _ _ _ _ _ _ _ _ _ _ _ _ _ _ _ _ _ _ _ _ _ _ _ _ _ _ _ _ _ _ x32 _ _ _ _ _ _ _ k => k x32) e k⟩
def g33 : GP := ⟨fun e k => @EK.rec (fun _ => (KV → O3) → O3) (fun _ _ _ _ _ _ _ _ _ _ _ _ _ _ _ _ _ _ _ _ _ _ _ _ _ _ _ _ _ _ _ _ _ x33 _ _ _ _ _ _ k => k x33) e k⟩
def g34 : GP := ⟨fun e k => @EK.rec (fun _ => (KV → O3) → O3) (fun _ _ _ _ _ _ _ _ _ _ _ _ _ _ _ _ _ _ _ _ _ _ _ _ _ _ _ _ _ _ _ _ _ _ x34 _ _ _ _ _ k => k x34) e k⟩
def g35 : GP := ⟨fun e k => @EK.rec (fun _ => (KV → O3) → O3) (fun _ _ _ _ _ _ _ _ _ _ _ _ _ _ _ _ _ _ _ _ _ _ _ _ _ _ _ _ _ _ _ _ _ _ _ x35 _ _ _ _ k => k x35) e k⟩
def g36 : GP := ⟨fun e k => @EK.rec (fun _ => (KV → O3) → O3) (fun _ _ _ _ _ _ _ _ _ _ _ _ _ _ _ _ _ _ _ _ _ _ _ _ _ _ _ _ _ _ _ _ _ _ _ _ x36 _ _ _ k => k x36) e k⟩
def g37 : GP := ⟨fun e k => @EK.rec (fun _ => (KV → O3) → O3) (fun _ _ _ _ _ _ _ _ _ _ _ _ _ _ _ _ _ _ _ _ _ _ _ _ _ _ _ _ _ _ _ _ _ _ _ _ _ x37 _ _ k => k x37) e k⟩
def g38 : GP := ⟨fun e k => @EK.rec (fun _ => (KV → O3) → O3) (fun _ _ _ _ _ _ _ _ _ _ _ _ _ _ _ _ _ _ _ _ _ _ _ _ _ _ _ _ _ _ _ _ _ _ _ _ _ _ x38 _ k => k x38) e k⟩
def g39 : GP := ⟨fun e k => @EK.rec (fun _ => (KV → O3) → O3) (fun _ _ _ _ _ _ _ _ _ _ _ _ _ _ _ _ _ _ _ _ _ _ _ _ _ _ _ _ _ _ _ _ _ _ _ _ _ _ _ x39 k => k x39) e k⟩
def s0 : SP := ⟨fun e v k => @EK.rec (fun _ => KV → (EK → O3) → O3) (fun _ x1 x2 x3 x4 x5 x6 x7 x8 x9 x10 x11 x12 x13 x14 x15 x16 x17 x18 x19 x20 x21 x22 x23 x24 x25 x26 x27 x28 x29 x30 x31 x32 x33 x34 x35 x36 x37 x38 x39 v k => k (EK.mk v x1 x2 x3 x4 x5 x6 x7 x8 x9 x10 x11 x12 x13 x14 x15 x16 x17 x18 x19 x20 x21 x22 x23 x24 x25 x26 x27 x28 x29 x30 x31 x32 x33 x34 x35 x36 x37 x38 x39)) e v k⟩
def s1 : SP := ⟨fun e v k => @EK.rec (fun _ => KV → (EK → O3) → O3) (fun x0 _ x2 x3 x4 x5 x6 x7 x8 x9 x10 x11 x12 x13 x14 x15 x16 x17 x18 x19 x20 x21 x22 x23 x24 x25 x26 x27 x28 x29 x30 x31 x32 x33 x34 x35 x36 x37 x38 x39 v k => k (EK.mk x0 v x2 x3 x4 x5 x6 x7 x8 x9 x10 x11 x12 x13 x14 x15 x16 x17 x18 x19 x20 x21 x22 x23 x24 x25 x26 x27 x28 x29 x30 x31 x32 x33 x34 x35 x36 x37 x38 x39)) e v k⟩
def s2 : SP := ⟨fun e v k => @EK.rec (fun _ => KV → (EK → O3) → O3) (fun x0 x1 _ x3 x4 x5 x6 x7 x8 x9 x10 x11 x12 x13 x14 x15 x16 x17 x18 x19 x20 x21 x22 x23 x24 x25 x26 x27 x28 x29 x30 x31 x32 x33 x34 x35 x36 x37 x38 x39 v k => k (EK.mk x0 x1 v x3 x4 x5 x6 x7 x8 x9 x10 x11 x12 x13 x14 x15 x16 x17 x18 x19 x20 x21 x22 x23 x24 x25 x26 x27 x28 x29 x30 x31 x32 x33 x34 x35 x36 x37 x38 x39)) e v k⟩
def s3 : SP := ⟨fun e v k => @EK.rec (fun _ => KV → (EK → O3) → O3) (fun x0 x1 x2 _ x4 x5 x6 x7 x8 x9 x10 x11 x12 x13 x14 x15 x16 x17 x18 x19 x20 x21 x22 x23 x24 x25 x26 x27 x28 x29 x30 x31 x32 x33 x34 x35 x36 x37 x38 x39 v k => k (EK.mk x0 x1 x2 v x4 x5 x6 x7 x8 x9 x10 x11 x12 x13 x14 x15 x16 x17 x18 x19 x20 x21 x22 x23 x24 x25 x26 x27 x28 x29 x30 x31 x32 x33 x34 x35 x36 x37 x38 x39)) e v k⟩
def s4 : SP := ⟨fun e v k => @EK.rec (fun _ => KV → (EK → O3) → O3) (fun x0 x1 x2 x3 _ x5 x6 x7 x8 x9 x10 x11 x12 x13 x14 x15 x16 x17 x18 x19 x20 x21 x22 x23 x24 x25 x26 x27 x28 x29 x30 x31 x32 x33 x34 x35 x36 x37 x38 x39 v k => k (EK.mk x0 x1 x2 x3 v x5 x6 x7 x8 x9 x10 x11 x12 x13 x14 x15 x16 x17 x18 x19 x20 x21 x22 x23 x24 x25 x26 x27 x28 x29 x30 x31 x32 x33 x34 x35 x36 x37 x38 x39)) e v k⟩
def s5 : SP := ⟨fun e v k => @EK.rec (fun _ => KV → (EK → O3) → O3) (fun x0 x1 x2 x3 x4 _ x6 x7 x8 x9 x10 x11 x12 x13 x14 x15 x16 x17 x18 x19 x20 x21 x22 x23 x24 x25 x26 x27 x28 x29 x30 x31 x32 x33 x34 x35 x36 x37 x38 x39 v k => k (EK.mk x0 x1 x2 x3 x4 v x6 x7 x8 x9 x10 x11 x12 x13 x14 x15 x16 x17 x18 x19 x20 x21 x22 x23 x24 x25 x26 x27 x28 x29 x30 x31 x32 x33 x34 x35 x36 x37 x38 x39)) e v k⟩
def s6 : SP := ⟨fun e v k => @EK.rec (fun _ => KV → (EK → O3) → O3) (fun x0 x1 x2 x3 x4 x5 _ x7 x8 x9 x10 x11 x12 x13 x14 x15 x16 x17 x18 x19 x20 x21 x22 x23 x24 x25 x26 x27 x28 x29 x30 x31 x32 x33 x34 x35 x36 x37 x38 x39 v k => k (EK.mk x0 x1 x2 x3 x4 x5 v x7 x8 x9 x10 x11 x12 x13 x14 x15 x16 x17 x18 x19 x20 x21 x22 x23 x24 x25 x26 x27 x28 x29 x30 x31 x32 x33 x34 x35 x36 x37 x38 x39)) e v k⟩
def s7 : SP := ⟨fun e v k => @EK.rec (fun _ => KV → (EK → O3) → O3) (fun x0 x1 x2 x3 x4 x5 x6 _ x8 x9 x10 x11 x12 x13 x14 x15 x16 x17 x18 x19 x20 x21 x22 x23 x24 x25 x26 x27 x28 x29 x30 x31 x32 x33 x34 x35 x36 x37 x38 x39 v k => k (EK.mk x0 x1 x2 x3 x4 x5 x6 v x8 x9 x10 x11 x12 x13 x14 x15 x16 x17 x18 x19 x20 x21 x22 x23 x24 x25 x26 x27 x28 x29 x30 x31 x32 x33 x34 x35 x36 x37 x38 x39)) e v k⟩
def s8 : SP := ⟨fun e v k => @EK.rec (fun _ => KV → (EK → O3) → O3) (fun x0 x1 x2 x3 x4 x5 x6 x7 _ x9 x10 x11 x12 x13 x14 x15 x16 x17 x18 x19 x20 x21 x22 x23 x24 x25 x26 x27 x28 x29 x30 x31 x32 x33 x34 x35 x36 x37 x38 x39 v k => k (EK.mk x0 x1 x2 x3 x4 x5 x6 x7 v x9 x10 x11 x12 x13 x14 x15 x16 x17 x18 x19 x20 x21 x22 x23 x24 x25 x26 x27 x28 x29 x30 x31 x32 x33 x34 x35 x36 x37 x38 x39)) e v k⟩
def s9 : SP := ⟨fun e v k => @EK.rec (fun _ => KV → (EK → O3) → O3) (fun x0 x1 x2 x3 x4 x5 x6 x7 x8 _ x10 x11 x12 x13 x14 x15 x16 x17 x18 x19 x20 x21 x22 x23 x24 x25 x26 x27 x28 x29 x30 x31 x32 x33 x34 x35 x36 x37 x38 x39 v k => k (EK.mk x0 x1 x2 x3 x4 x5 x6 x7 x8 v x10 x11 x12 x13 x14 x15 x16 x17 x18 x19 x20 x21 x22 x23 x24 x25 x26 x27 x28 x29 x30 x31 x32 x33 x34 x35 x36 x37 x38 x39)) e v k⟩
def s10 : SP := ⟨fun e v k => @EK.rec (fun _ => KV → (EK → O3) → O3) (fun x0 x1 x2 x3 x4 x5 x6 x7 x8 x9 _ x11 x12 x13 x14 x15 x16 x17 x18 x19 x20 x21 x22 x23 x24 x25 x26 x27 x28 x29 x30 x31 x32 x33 x34 x35 x36 x37 x38 x39 v k => k (EK.mk x0 x1 x2 x3 x4 x5 x6 x7 x8 x9 v x11 x12 x13 x14 x15 x16 x17 x18 x19 x20 x21 x22 x23 x24 x25 x26 x27 x28 x29 x30 x31 x32 x33 x34 x35 x36 x37 x38 x39)) e v k⟩
def s11 : SP := ⟨fun e v k => @EK.rec (fun _ => KV → (EK → O3) → O3) (fun x0 x1 x2 x3 x4 x5 x6 x7 x8 x9 x10 _ x12 x13 x14 x15 x16 x17 x18 x19 x20 x21 x22 x23 x24 x25 x26 x27 x28 x29 x30 x31 x32 x33 x34 x35 x36 x37 x38 x39 v k => k (EK.mk x0 x1 x2 x3 x4 x5 x6 x7 x8 x9 x10 v x12 x13 x14 x15 x16 x17 x18 x19 x20 x21 x22 x23 x24 x25 x26 x27 x28 x29 x30 x31 x32 x33 x34 x35 x36 x37 x38 x39)) e v k⟩
def s12 : SP := ⟨fun e v k => @EK.rec (fun _ => KV → (EK → O3) → O3) (fun x0 x1 x2 x3 x4 x5 x6 x7 x8 x9 x10 x11 _ x13 x14 x15 x16 x17 x18 x19 x20 x21 x22 x23 x24 x25 x26 x27 x28 x29 x30 x31 x32 x33 x34 x35 x36 x37 x38 x39 v k => k (EK.mk x0 x1 x2 x3 x4 x5 x6 x7 x8 x9 x10 x11 v x13 x14 x15 x16 x17 x18 x19 x20 x21 x22 x23 x24 x25 x26 x27 x28 x29 x30 x31 x32 x33 x34 x35 x36 x37 x38 x39)) e v k⟩
def s13 : SP := ⟨fun e v k => @EK.rec (fun _ => KV → (EK → O3) → O3) (fun x0 x1 x2 x3 x4 x5 x6 x7 x8 x9 x10 x11 x12 _ x14 x15 x16 x17 x18 x19 x20 x21 x22 x23 x24 x25 x26 x27 x28 x29 x30 x31 x32 x33 x34 x35 x36 x37 x38 x39 v k => k (EK.mk x0 x1 x2 x3 x4 x5 x6 x7 x8 x9 x10 x11 x12 v x14 x15 x16 x17 x18 x19 x20 x21 x22 x23 x24 x25 x26 x27 x28 x29 x30 x31 x32 x33 x34 x35 x36 x37 x38 x39)) e v k⟩
def s14 : SP := ⟨fun e v k => @EK.rec (fun _ => KV → (EK → O3) → O3) (fun x0 x1 x2 x3 x4 x5 x6 x7 x8 x9 x10 x11 x12 x13 _ x15 x16 x17 x18 x19 x20 x21 x22 x23 x24 x25 x26 x27 x28 x29 x30 x31 x32 x33 x34 x35 x36 x37 x38 x39 v k => k (EK.mk x0 x1 x2 x3 x4 x5 x6 x7 x8 x9 x10 x11 x12 x13 v x15 x16 x17 x18 x19 x20 x21 x22 x23 x24 x25 x26 x27 x28 x29 x30 x31 x32 x33 x34 x35 x36 x37 x38 x39)) e v k⟩
def s15 : SP := ⟨fun e v k => @EK.rec (fun _ => KV → (EK → O3) → O3) (fun x0 x1 x2 x3 x4 x5 x6 x7 x8 x9 x10 x11 x12 x13 x14 _ x16 x17 x18 x19 x20 x21 x22 x23 x24 x25 x26 x27 x28 x29 x30 x31 x32 x33 x34 x35 x36 x37 x38 x39 v k => k (EK.mk x0 x1 x2 x3 x4 x5 x6 x7 x8 x9 x10 x11 x12 x13 x14 v x16 x17 x18 x19 x20 x21 x22 x23 x24 x25 x26 x27 x28 x29 x30 x31 x32 x33 x34 x35 x36 x37 x38 x39)) e v k⟩
def s16 : SP := ⟨fun e v k => @EK.rec (fun _ => KV → (EK → O3) → O3) (fun x0 x1 x2 x3 x4 x5 x6 x7 x8 x9 x10 x11 x12 x13 x14 x15 _ x17 x18 x19 x20 x21 x22 x23 x24 x25 x26 x27 x28 x29 x30 x31 x32 x33 x34 x35 x36 x37 x38 x39 v k => k (EK.mk x0 x1 x2 x3 x4 x5 x6 x7 x8 x9 x10 x11 x12 x13 x14 x15 v x17 x18 x19 x20 x21 x22 x23 x24 x25 x26 x27 x28 x29 x30 x31 x32 x33 x34 x35 x36 x37 x38 x39)) e v k⟩
def s17 : SP := ⟨fun e v k => @EK.rec (fun _ => KV → (EK → O3) → O3) (fun x0 x1 x2 x3 x4 x5 x6 x7 x8 x9 x10 x11 x12 x13 x14 x15 x16 _ x18 x19 x20 x21 x22 x23 x24 x25 x26 x27 x28 x29 x30 x31 x32 x33 x34 x35 x36 x37 x38 x39 v k => k (EK.mk x0 x1 x2 x3 x4 x5 x6 x7 x8 x9 x10 x11 x12 x13 x14 x15 x16 v x18 x19 x20 x21 x22 x23 x24 x25 x26 x27 x28 x29 x30 x31 x32 x33 x34 x35 x36 x37 x38 x39)) e v k⟩
def s18 : SP := ⟨fun e v k => @EK.rec (fun _ => KV → (EK → O3) → O3) (fun x0 x1 x2 x3 x4 x5 x6 x7 x8 x9 x10 x11 x12 x13 x14 x15 x16 x17 _ x19 x20 x21 x22 x23 x24 x25 x26 x27 x28 x29 x30 x31 x32 x33 x34 x35 x36 x37 x38 x39 v k => k (EK.mk x0 x1 x2 x3 x4 x5 x6 x7 x8 x9 x10 x11 x12 x13 x14 x15 x16 x17 v x19 x20 x21 x22 x23 x24 x25 x26 x27 x28 x29 x30 x31 x32 x33 x34 x35 x36 x37 x38 x39)) e v k⟩
def s19 : SP := ⟨fun e v k => @EK.rec (fun _ => KV → (EK → O3) → O3) (fun x0 x1 x2 x3 x4 x5 x6 x7 x8 x9 x10 x11 x12 x13 x14 x15 x16 x17 x18 _ x20 x21 x22 x23 x24 x25 x26 x27 x28 x29 x30 x31 x32 x33 x34 x35 x36 x37 x38 x39 v k => k (EK.mk x0 x1 x2 x3 x4 x5 x6 x7 x8 x9 x10 x11 x12 x13 x14 x15 x16 x17 x18 v x20 x21 x22 x23 x24 x25 x26 x27 x28 x29 x30 x31 x32 x33 x34 x35 x36 x37 x38 x39)) e v k⟩
def s20 : SP := ⟨fun e v k => @EK.rec (fun _ => KV → (EK → O3) → O3) (fun x0 x1 x2 x3 x4 x5 x6 x7 x8 x9 x10 x11 x12 x13 x14 x15 x16 x17 x18 x19 _ x21 x22 x23 x24 x25 x26 x27 x28 x29 x30 x31 x32 x33 x34 x35 x36 x37 x38 x39 v k => k (EK.mk x0 x1 x2 x3 x4 x5 x6 x7 x8 x9 x10 x11 x12 x13 x14 x15 x16 x17 x18 x19 v x21 x22 x23 x24 x25 x26 x27 x28 x29 x30 x31 x32 x33 x34 x35 x36 x37 x38 x39)) e v k⟩
def s21 : SP := ⟨fun e v k => @EK.rec (fun _ => KV → (EK → O3) → O3) (fun x0 x1 x2 x3 x4 x5 x6 x7 x8 x9 x10 x11 x12 x13 x14 x15 x16 x17 x18 x19 x20 _ x22 x23 x24 x25 x26 x27 x28 x29 x30 x31 x32 x33 x34 x35 x36 x37 x38 x39 v k => k (EK.mk x0 x1 x2 x3 x4 x5 x6 x7 x8 x9 x10 x11 x12 x13 x14 x15 x16 x17 x18 x19 x20 v x22 x23 x24 x25 x26 x27 x28 x29 x30 x31 x32 x33 x34 x35 x36 x37 x38 x39)) e v k⟩
def s22 : SP := ⟨fun e v k => @EK.rec (fun _ => KV → (EK → O3) → O3) (fun x0 x1 x2 x3 x4 x5 x6 x7 x8 x9 x10 x11 x12 x13 x14 x15 x16 x17 x18 x19 x20 x21 _ x23 x24 x25 x26 x27 x28 x29 x30 x31 x32 x33 x34 x35 x36 x37 x38 x39 v k => k (EK.mk x0 x1 x2 x3 x4 x5 x6 x7 x8 x9 x10 x11 x12 x13 x14 x15 x16 x17 x18 x19 x20 x21 v x23 x24 x25 x26 x27 x28 x29 x30 x31 x32 x33 x34 x35 x36 x37 x38 x39)) e v k⟩
def s23 : SP := ⟨fun e v k => @EK.rec (fun _ => KV → (EK → O3) → O3) (fun x0 x1 x2 x3 x4 x5 x6 x7 x8 x9 x10 x11 x12 x13 x14 x15 x16 x17 x18 x19 x20 x21 x22 _ x24 x25 x26 x27 x28 x29 x30 x31 x32 x33 x34 x35 x36 x37 x38 x39 v k => k (EK.mk x0 x1 x2 x3 x4 x5 x6 x7 x8 x9 x10 x11 x12 x13 x14 x15 x16 x17 x18 x19 x20 x21 x22 v x24 x25 x26 x27 x28 x29 x30 x31 x32 x33 x34 x35 x36 x37 x38 x39)) e v k⟩
def s24 : SP := ⟨fun e v k => @EK.rec (fun _ => KV → (EK → O3) → O3) (fun x0 x1 x2 x3 x4 x5 x6 x7 x8 x9 x10 x11 x12 x13 x14 x15 x16 x17 x18 x19 x20 x21 x22 x23 _ x25 x26 x27 x28 x29 x30 x31 x32 x33 x34 x35 x36 x37 x38 x39 v k => k (EK.mk x0 x1 x2 x3 x4 x5 x6 x7 x8 x9 x10 x11 x12 x13 x14 x15 x16 x17 x18 x19 x20 x21 x22 x23 v x25 x26 x27 x28 x29 x30 x31 x32 x33 x34 x35 x36 x37 x38 x39)) e v k⟩
def s25 : SP := ⟨fun e v k => @EK.rec (fun _ => KV → (EK → O3) → O3) (fun x0 x1 x2 x3 x4 x5 x6 x7 x8 x9 x10 x11 x12 x13 x14 x15 x16 x17 x18 x19 x20 x21 x22 x23 x24 _ x26 x27 x28 x29 x30 x31 x32 x33 x34 x35 x36 x37 x38 x39 v k => k (EK.mk x0 x1 x2 x3 x4 x5 x6 x7 x8 x9 x10 x11 x12 x13 x14 x15 x16 x17 x18 x19 x20 x21 x22 x23 x24 v x26 x27 x28 x29 x30 x31 x32 x33 x34 x35 x36 x37 x38 x39)) e v k⟩
def s26 : SP := ⟨fun e v k => @EK.rec (fun _ => KV → (EK → O3) → O3) (fun x0 x1 x2 x3 x4 x5 x6 x7 x8 x9 x10 x11 x12 x13 x14 x15 x16 x17 x18 x19 x20 x21 x22 x23 x24 x25 _ x27 x28 x29 x30 x31 x32 x33 x34 x35 x36 x37 x38 x39 v k => k (EK.mk x0 x1 x2 x3 x4 x5 x6 x7 x8 x9 x10 x11 x12 x13 x14 x15 x16 x17 x18 x19 x20 x21 x22 x23 x24 x25 v x27 x28 x29 x30 x31 x32 x33 x34 x35 x36 x37 x38 x39)) e v k⟩
def s27 : SP := ⟨fun e v k => @EK.rec (fun _ => KV → (EK → O3) → O3) (fun x0 x1 x2 x3 x4 x5 x6 x7 x8 x9 x10 x11 x12 x13 x14 x15 x16 x17 x18 x19 x20 x21 x22 x23 x24 x25 x26 _ x28 x29 x30 x31 x32 x33 x34 x35 x36 x37 x38 x39 v k => k (EK.mk x0 x1 x2 x3 x4 x5 x6 x7 x8 x9 x10 x11 x12 x13 x14 x15 x16 x17 x18 x19 x20 x21 x22 x23 x24 x25 x26 v x28 x29 x30 x31 x32 x33 x34 x35 x36 x37 x38 x39)) e v k⟩
def s28 : SP := ⟨fun e v k => @EK.rec (fun _ => KV → (EK → O3) → O3) (fun x0 x1 x2 x3 x4 x5 x6 x7 x8 x9 x10 x11 x12 x13 x14 x15 x16 x17 x18 x19 x20 x21 x22 x23 x24 x25 x26 x27 _ x29 x30 x31 x32 x33 x34 x35 x36 x37 x38 x39 v k => k (EK.mk x0 x1 x2 x3 x4 x5 x6 x7 x8 x9 x10 x11 x12 x13 x14 x15 x16 x17 x18 x19 x20 x21 x22 x23 x24 x25 x26 x27 v x29 x30 x31 x32 x33 x34 x35 x36 x37 x38 x39)) e v k⟩
def s29 : SP := ⟨fun e v k => @EK.rec (fun _ => KV → (EK → O3) → O3) (fun x0 x1 x2 x3 x4 x5 x6 x7 x8 x9 x10 x11 x12 x13 x14 x15 x16 x17 x18 x19 x20 x21 x22 x23 x24 x25 x26 x27 x28 _ x30 x31 x32 x33 x34 x35 x36 x37 x38 x39 v k => k (EK.mk x0 x1 x2 x3 x4 x5 x6 x7 x8 x9 x10 x11 x12 x13 x14 x15 x16 x17 x18 x19 x20 x21 x22 x23 x24 x25 x26 x27 x28 v x30 x31 x32 x33 x34 x35 x36 x37 x38 x39)) e v k⟩
def s30 : SP := ⟨fun e v k => @EK.rec (fun _ => KV → (EK → O3) → O3) (fun x0 x1 x2 x3 x4 x5 x6 x7 x8 x9 x10 x11 x12 x13 x14 x15 x16 x17 x18 x19 x20 x21 x22 x23 x24 x25 x26 x27 x28 x29 _ x31 x32 x33 x34 x35 x36 x37 x38 x39 v k => k (EK.mk x0 x1 x2 x3 x4 x5 x6 x7 x8 x9 x10 x11 x12 x13 x14 x15 x16 x17 x18 x19 x20 x21 x22 x23 x24 x25 x26 x27 x28 x29 v x31 x32 x33 x34 x35 x36 x37 x38 x39)) e v k⟩
def s31 : SP := ⟨fun e v k => @EK.rec (fun _ => KV → (EK → O3) → O3) (fun x0 x1 x2 x3 x4 x5 x6 x7 x8 x9 x10 x11 x12 x13 x14 x15 x16 x17 x18 x19 x20 x21 x22 x23 x24 x25 x26 x27 x28 x29 x30 _ x32 x33 x34 x35 x36 x37 x38 x39 v k => k (EK.mk x0 x1 x2 x3 x4 x5 x6 x7 x8 x9 x10 x11 x12 x13 x14 x15 x16 x17 x18 x19 x20 x21 x22 x23 x24 x25 x26 x27 x28 x29 x30 v x32 x33 x34 x35 x36 x37 x38 x39)) e v k⟩
def s32 : SP := ⟨fun e v k => @EK.rec (fun _ => KV → (EK → O3) → O3) (fun x0 x1 x2 x3 x4 x5 x6 x7 x8 x9 x10 x11 x12 x13 x14 x15 x16 x17 x18 x19 x20 x21 x22 x23 x24 x25 x26 x27 x28 x29 x30 x31 _ x33 x34 x35 x36 x37 x38 x39 v k => k (EK.mk x0 x1 x2 x3 x4 x5 x6 x7 x8 x9 x10 x11 x12 x13 x14 x15 x16 x17 x18 x19 x20 x21 x22 x23 x24 x25 x26 x27 x28 x29 x30 x31 v x33 x34 x35 x36 x37 x38 x39)) e v k⟩
def s33 : SP := ⟨fun e v k => @EK.rec (fun _ => KV → (EK → O3) → O3) (fun x0 x1 x2 x3 x4 x5 x6 x7 x8 x9 x10 x11 x12 x13 x14 x15 x16 x17 x18 x19 x20 x21 x22 x23 x24 x25 x26 x27 x28 x29 x30 x31 x32 _ x34 x35 x36 x37 x38 x39 v k => k (EK.mk x0 x1 x2 x3 x4 x5 x6 x7 x8 x9 x10 x11 x12 x13 x14 x15 x16 x17 x18 x19 x20 x21 x22 x23 x24 x25 x26 x27 x28 x29 x30 x31 x32 v x34 x35 x36 x37 x38 x39)) e v k⟩
def s34 : SP := ⟨fun e v k => @EK.rec (fun _ => KV → (EK → O3) → O3) (fun x0 x1 x2 x3 x4 x5 x6 x7 x8 x9 x10 x11 x12 x13 x14 x15 x16 x17 x18 x19 x20 x21 x22 x23 x24 x25 x26 x27 x28 x29 x30 x31 x32 x33 _ x35 x36 x37 x38 x39 v k => k (EK.mk x0 x1 x2 x3 x4 x5 x6 x7 x8 x9 x10 x11 x12 x13 x14 x15 x16 x17 x18 x19 x20 x21 x22 x23 x24 x25 x26 x27 x28 x29 x30 x31 x32 x33 v x35 x36 x37 x38 x39)) e v k⟩
def s35 : SP := ⟨fun e v k => @EK.rec (fun _ => KV → (EK → O3) → O3) (fun x0 x1 x2 x3 x4 x5 x6 x7 x8 x9 x10 x11 x12 x13 x14 x15 x16 x17 x18 x19 x20 x21 x22 x23 x24 x25 x26 x27 x28 x29 x30 x31 x32 x33 x34 _ x36 x37 x38 x39 v k => k (EK.mk x0 x1 x2 x3 x4 x5 x6 x7 x8 x9 x10 x11 x12 x13 x14 x15 x16 x17 x18 x19 x20 x21 x22 x23 x24 x25 x26 x27 x28 x29 x30 x31 x32 x33 x34 v x36 x37 x38 x39)) e v k⟩
def s36 : SP := ⟨fun e v k => @EK.rec (fun _ => KV → (EK → O3) → O3) (fun x0 x1 x2 x3 x4 x5 x6 x7 x8 x9 x10 x11 x12 x13 x14 x15 x16 x17 x18 x19 x20 x21 x22 x23 x24 x25 x26 x27 x28 x29 x30 x31 x32 x33 x34 x35 _ x37 x38 x39 v k => k (EK.mk x0 x1 x2 x3 x4 x5 x6 x7 x8 x9 x10 x11 x12 x13 x14 x15 x16 x17 x18 x19 x20 x21 x22 x23 x24 x25 x26 x27 x28 x29 x30 x31 x32 x33 x34 x35 v x37 x38 x39)) e v k⟩
def s37 : SP := ⟨fun e v k => @EK.rec (fun _ => KV → (EK → O3) → O3) (fun x0 x1 x2 x3 x4 x5 x6 x7 x8 x9 x10 x11 x12 x13 x14 x15 x16 x17 x18 x19 x20 x21 x22 x23 x24 x25 x26 x27 x28 x29 x30 x31 x32 x33 x34 x35 x36 _ x38 x39 v k => k (EK.mk x0 x1 x2 x3 x4 x5 x6 x7 x8 x9 x10 x11 x12 x13 x14 x15 x16 x17 x18 x19 x20 x21 x22 x23 x24 x25 x26 x27 x28 x29 x30 x31 x32 x33 x34 x35 x36 v x38 x39)) e v k⟩
def s38 : SP := ⟨fun e v k => @EK.rec (fun _ => KV → (EK → O3) → O3) (fun x0 x1 x2 x3 x4 x5 x6 x7 x8 x9 x10 x11 x12 x13 x14 x15 x16 x17 x18 x19 x20 x21 x22 x23 x24 x25 x26 x27 x28 x29 x30 x31 x32 x33 x34 x35 x36 x37 _ x39 v k => k (EK.mk x0 x1 x2 x3 x4 x5 x6 x7 x8 x9 x10 x11 x12 x13 x14 x15 x16 x17 x18 x19 x20 x21 x22 x23 x24 x25 x26 x27 x28 x29 x30 x31 x32 x33 x34 x35 x36 x37 v x39)) e v k⟩
def s39 : SP := ⟨fun e v k => @EK.rec (fun _ => KV → (EK → O3) → O3) (fun x0 x1 x2 x3 x4 x5 x6 x7 x8 x9 x10 x11 x12 x13 x14 x15 x16 x17 x18 x19 x20 x21 x22 x23 x24 x25 x26 x27 x28 x29 x30 x31 x32 x33 x34 x35 x36 x37 x38 _ v k => k (EK.mk x0 x1 x2 x3 x4 x5 x6 x7 x8 x9 x10 x11 x12 x13 x14 x15 x16 x17 x18 x19 x20 x21 x22 x23 x24 x25 x26 x27 x28 x29 x30 x31 x32 x33 x34 x35 x36 x37 x38 v)) e v k⟩
def gs : List GP := [g0, g1, g2, g3, g4, g5, g6, g7, g8, g9, g10, g11, g12, g13, g14, g15, g16, g17, g18, g19, g20, g21, g22, g23, g24, g25, g26, g27, g28, g29, g30, g31, g32, g33, g34, g35, g36, g37, g38, g39]
def ss : List SP := [s0, s1, s2, s3, s4, s5, s6, s7, s8, s9, s10, s11, s12, s13, s14, s15, s16, s17, s18, s19, s20, s21, s22, s23, s24, s25, s26, s27, s28, s29, s30, s31, s32, s33, s34, s35, s36, s37, s38, s39]
def badG : GP := ⟨fun _ _ => .no⟩
def badS : SP := ⟨fun _ _ _ => .no⟩
def getP (p : Nat) : GP := gs.getD p badG
def setP (p : Nat) : SP := ss.getD p badS
end
def GP.Ok (G : GP) (p : Nat) : Prop := ∀ e k, G.g e k = k (e.get p)
def SP.Ok (S : SP) (p : Nat) : Prop := ∀ e v k, S.s e v k = k (e.set p v)
def allG : List GP → Nat → Prop
  | [], _ => True
  | G :: l, i => G.Ok i ∧ allG l (i + 1)
theorem allG_get : ∀ {l : List GP} {i : Nat}, allG l i → ∀ p, p < l.length → (l.getD p badG).Ok (i + p)
  | [], _, _, p, hp => by simp at hp
  | G :: l, i, h, 0, _ => h.1
  | G :: l, i, h, p + 1, hp => by
    have := allG_get h.2 p (by simpa using hp)
    rw [show i + (p + 1) = i + 1 + p by omega]
    simpa using this
def allS : List SP → Nat → Prop
  | [], _ => True
  | G :: l, i => G.Ok i ∧ allS l (i + 1)
theorem allS_get : ∀ {l : List SP} {i : Nat}, allS l i → ∀ p, p < l.length → (l.getD p badS).Ok (i + p)
  | [], _, _, p, hp => by simp at hp
  | G :: l, i, h, 0, _ => h.1
  | G :: l, i, h, p + 1, hp => by
    have := allS_get h.2 p (by simpa using hp)
    rw [show i + (p + 1) = i + 1 + p by omega]
    simpa using this
theorem gs_ok : allG gs 0 := ⟨fun _e _k => rfl, ⟨fun _e _k => rfl, ⟨fun _e _k => rfl, ⟨fun _e _k => rfl, ⟨fun _e _k => rfl, ⟨fun _e _k => rfl, ⟨fun _e _k => rfl, ⟨fun _e _k => rfl, ⟨fun _e _k => rfl, ⟨fun _e _k => rfl, ⟨fun _e _k => rfl, ⟨fun _e _k => rfl, ⟨fun _e _k => rfl, ⟨fun _e _k => rfl, ⟨fun _e _k => rfl, ⟨fun _e _k => rfl, ⟨fun _e _k => rfl, ⟨fun _e _k => rfl, ⟨fun _e _k => rfl, ⟨fun _e _k => rfl, ⟨fun _e _k => rfl, ⟨fun _e _k => rfl, ⟨fun _e _k => rfl, ⟨fun _e _k => rfl, ⟨fun _e _k => rfl, ⟨fun _e _k => rfl, ⟨fun _e _k => rfl, ⟨fun _e _k => rfl, ⟨fun _e _k => rfl, ⟨fun _e _k => rfl, ⟨fun _e _k => rfl, ⟨fun _e _k => rfl, ⟨fun _e _k => rfl, ⟨fun _e _k => rfl, ⟨fun _e _k => rfl, ⟨fun _e _k => rfl, ⟨fun _e _k => rfl, ⟨fun _e _k => rfl, ⟨fun _e _k => rfl, ⟨fun _e _k => rfl, trivial⟩⟩⟩⟩⟩⟩⟩⟩⟩⟩⟩⟩⟩⟩⟩⟩⟩⟩⟩⟩⟩⟩⟩⟩⟩⟩⟩⟩⟩⟩⟩⟩⟩⟩⟩⟩⟩⟩⟩⟩
theorem ss_ok : allS ss 0 := ⟨fun _e _v _k => rfl, ⟨fun _e _v _k => rfl, ⟨fun _e _v _k => rfl, ⟨fun _e _v _k => rfl, ⟨fun _e _v _k => rfl, ⟨fun _e _v _k => rfl, ⟨fun _e _v _k => rfl, ⟨fun _e _v _k => rfl, ⟨fun _e _v _k => rfl, ⟨fun _e _v _k => rfl, ⟨fun _e _v _k => rfl, ⟨fun _e _v _k => rfl, ⟨fun _e _v _k => rfl, ⟨fun _e _v _k => rfl, ⟨fun _e _v _k => rfl, ⟨fun _e _v _k => rfl, ⟨fun _e _v _k => rfl, ⟨fun _e _v _k => rfl, ⟨fun _e _v _k => rfl, ⟨fun _e _v _k => rfl, ⟨fun _e _v _k => rfl, ⟨fun _e _v _k => rfl, ⟨fun _e _v _k => rfl, ⟨fun _e _v _k => rfl, ⟨fun _e _v _k => rfl, ⟨fun _e _v _k => rfl, ⟨fun _e _v _k => rfl, ⟨fun _e _v _k => rfl, ⟨fun _e _v _k => rfl, ⟨fun _e _v _k => rfl, ⟨fun _e _v _k => rfl, ⟨fun _e _v _k => rfl, ⟨fun _e _v _k => rfl, ⟨fun _e _v _k => rfl, ⟨fun _e _v _k => rfl, ⟨fun _e _v _k => rfl, ⟨fun _e _v _k => rfl, ⟨fun _e _v _k => rfl, ⟨fun _e _v _k => rfl, ⟨fun _e _v _k => rfl, trivial⟩⟩⟩⟩⟩⟩⟩⟩⟩⟩⟩⟩⟩⟩⟩⟩⟩⟩⟩⟩⟩⟩⟩⟩⟩⟩⟩⟩⟩⟩⟩⟩⟩⟩⟩⟩⟩⟩⟩⟩
theorem getP_ok {p : Nat} (h : p < 40) : (getP p).Ok p := by
  have := allG_get gs_ok p h
  rw [Nat.zero_add] at this; exact this
theorem setP_ok {p : Nat} (h : p < 40) : (setP p).Ok p := by
  have := allS_get ss_ok p h
  rw [Nat.zero_add] at this; exact this
theorem getP_L {p : Nat} {e : EK} {k : KV → O3} {L : List XK} (h : ((getP p).g e k).L = some L) : (k (e.get p)).L = some L := by
  by_cases hp : p < 40
  · rw [getP_ok hp] at h; exact h
  · have : getP p = badG := by
      unfold getP
      rw [List.getD_eq_getElem?_getD, List.getElem?_eq_none (by show 40 ≤ p; omega)]
      rfl
    rw [this] at h; cases h
theorem setP_L {p : Nat} {e : EK} {v : KV} {k : EK → O3} {L : List XK} (h : ((setP p).s e v k).L = some L) : p < 40 ∧ (k (e.set p v)).L = some L := by
  by_cases hp : p < 40
  · rw [setP_ok hp] at h; exact ⟨hp, h⟩
  · have : setP p = badS := by
      unfold setP
      rw [List.getD_eq_getElem?_getD, List.getElem?_eq_none (by show 40 ≤ p; omega)]
      rfl
    rw [this] at h; cases h
def badE : EK := ⟨.bad, .bad, .bad, .bad, .bad, .bad, .bad, .bad, .bad, .bad, .bad, .bad, .bad, .bad, .bad, .bad, .bad, .bad, .bad, .bad, .bad, .bad, .bad, .bad, .bad, .bad, .bad, .bad, .bad, .bad, .bad, .bad, .bad, .bad, .bad, .bad, .bad, .bad, .bad, .bad⟩
theorem badE_get (p : Nat) : badE.get p = .bad := by
  have h : badE.toL = List.replicate 40 KV.bad := rfl
  unfold EK.get
  rw [h, List.getD_eq_getElem?_getD, List.getElem?_replicate]
  split <;> rfl
end
end Go.Q

namespace Go.Q
noncomputable section
open Go.RowKit
open Go.Z hiding cond_false get resF

def isLoud (P : Program) : Op → Bool
  | .alloc _ => true
  | .box _ _ => true
  | .store _ _ _ => true
  | .buildSlice _ _ _ => true
  | .makeSlice _ _ _ => true
  | .makeMap _ _ => true
  | .convert _ dst _ => match P.underlying dst with
    | some (.slice _) => true
    | _ => false
  | .mapUpdate _ _ _ _ => true
  | .insert _ _ _ _ => true
  | .mapEntry _ _ _ => true
  | .entryStore _ _ _ _ => true
  | .range _ _ => true
  | .entry _ => true
  | .next _ _ => true
  | .call c => match c.callee with
    | .builtin .append => true
    | .value _ => true
    | .invoke _ _ => true
    | _ => false
  | _ => false
theorem isLoud_none {Γ : Cx} {P : Program} {o : Op} {vs : List DV} {s : St} (h : isLoud P o = true) : quietD Γ P o vs s = none := by
  cases o <;> simp only [isLoud] at h <;> try (cases h; done)
  all_goals try rfl
  case convert src dst x =>
    simp only [quietD]
    split at h
    · rename_i e; rw [e]
    · cases h
  case call c =>
    simp only [quietD]
    split at h <;> first | (rename_i e; rw [e]) | cases h
def intK (P : Program) (T : Nat) : Option IntKind := match P.underlying T with
  | some (.int k) => some k
  | _ => none
theorem intK_some {P : Program} {T : Nat} {kk : IntKind} (h : intK P T = some kk) : P.underlying T = some (.int kk) := by
  unfold intK at h
  split at h <;> cases h
  assumption

noncomputable section
def natF (n : Nat) (k : Nat → O3) : O3 := @Nat.rec (fun _ => O3) (k 0) (fun m _ => k (Nat.succ m)) n
theorem natF_eq (n : Nat) (k : Nat → O3) : natF n k = k n := by cases n <;> rfl
def chk (v : KV) (k : KV → O3) : O3 := @KV.rec (fun _ => (KV → O3) → O3) (fun _ => .no) (fun kk n k => k (.i kk n)) (fun t k => k (.b t)) (fun x k => k (.d x)) v k
theorem chk_L {v : KV} {k : KV → O3} {L : List XK} (h : (chk v k).L = some L) : (∃ d, v.dv = some d) ∧ (k v).L = some L := by
  cases v <;> first | cases h | exact ⟨⟨_, rfl⟩, h⟩
def dvK (v : KV) (k : DV → O3) : O3 := @KV.rec (fun _ => (DV → O3) → O3) (fun _ => .no) (fun kk n k => k (.n kk ⟨.ofNat n, []⟩)) (fun t k => k (.c (.bool t))) (fun x k => k x) v k
theorem dvK_L {v : KV} {k : DV → O3} {L : List XK} (h : (dvK v k).L = some L) : ∃ d, v.dv = some d ∧ (k d).L = some L := by
  cases v <;> first | cases h | exact ⟨_, rfl, h⟩
def kvB (v : KV) (k : Bool → O3) : O3 := @KV.rec (fun _ => (Bool → O3) → O3) (fun _ => .no) (fun _ _ _ => .no) (fun t k => k t) (fun _ _ => .no) v k
theorem kvB_L {v : KV} {k : Bool → O3} {L : List XK} (h : (kvB v k).L = some L) : ∃ t, v.dv = some (.c (.bool t)) ∧ (k t).L = some L := by
  cases v <;> first | cases h | exact ⟨_, rfl, h⟩
def dP (d : DV) (k : Nat → Lin → O3) : O3 :=
  @DV.rec (fun _ => (Nat → Lin → O3) → O3) (fun _ => PUnit)
    (fun _ _ => .no) (fun _ _ _ => .no) (fun _ _ => .no) (fun n o k => k n o) (fun _ _ => .no) (fun _ _ _ _ _ _ _ => .no) (fun _ _ => .no)
    (fun _ _ _ _ _ _ => .no) (fun _ _ _ _ => .no) (fun _ _ _ => .no) (fun _ _ _ => .no) (fun _ _ => .no) (fun _ _ _ => .no) PUnit.unit (fun _ _ _ _ => PUnit.unit) d k
theorem dP_L {d : DV} {k : Nat → Lin → O3} {L : List XK} (h : (dP d k).L = some L) : ∃ n o, d = .p n o ∧ (k n o).L = some L := by
  cases d <;> first | exact ⟨_, _, rfl, h⟩ | cases h
def dT (d : DV) (k : List DV → O3) : O3 :=
  @DV.rec (fun _ => (List DV → O3) → O3) (fun _ => PUnit)
    (fun _ _ => .no) (fun _ _ _ => .no) (fun _ _ => .no) (fun _ _ _ => .no) (fun _ _ => .no) (fun _ _ _ _ _ _ _ => .no) (fun _ _ => .no)
    (fun _ _ _ _ _ _ => .no) (fun _ _ _ _ => .no) (fun _ _ _ => .no) (fun l _ k => k l) (fun _ _ => .no) (fun _ _ _ => .no) PUnit.unit (fun _ _ _ _ => PUnit.unit) d k
theorem dT_L {d : DV} {k : List DV → O3} {L : List XK} (h : (dT d k).L = some L) : ∃ l, d = .t l ∧ (k l).L = some L := by
  cases d <;> first | exact ⟨_, rfl, h⟩ | cases h
def lnK (x : Lin) (no : Unit → O3) (k : Nat → O3) : O3 :=
  @Lin.rec (fun _ => (Unit → O3) → (Nat → O3) → O3) (fun c t no k => @List.rec (Nat × Int) (fun _ => Int → (Unit → O3) → (Nat → O3) → O3) (fun c no k => @Int.rec (fun _ => (Unit → O3) → (Nat → O3) → O3) (fun n _ k => k n) (fun _ no _ => no ()) c no k) (fun _ _ _ _ no _ => no ()) t c no k) x no k
theorem lnK_or (x : Lin) (no : Unit → O3) (k : Nat → O3) : (∃ n : Nat, x = lit (Int.ofNat n) ∧ lnK x no k = k n) ∨ lnK x no k = no () := by
  obtain ⟨c, t⟩ := x
  cases t with
  | cons _ _ => exact .inr rfl
  | nil => cases c with
    | ofNat n => exact .inl ⟨n, rfl, rfl⟩
    | negSucc n => exact .inr rfl
theorem lnK_L {x : Lin} {no : Unit → O3} {k : Nat → O3} {L : List XK} (h : (lnK x no k).L = some L) : (∃ n : Nat, x = lit (Int.ofNat n) ∧ (k n).L = some L) ∨ (no ()).L = some L := by
  rcases lnK_or x no k with ⟨n, h1, h2⟩ | h2 <;> rw [h2] at h
  · exact .inl ⟨n, h1, h⟩
  · exact .inr h
def vBK (v : Value) (k : KV → O3) : O3 :=
  @Value.rec (fun _ => Value → (KV → O3) → O3) (fun _ => PUnit) (fun _ => PUnit)
    (fun b _ k => k (.b b)) (fun _ _ v k => k (.d (.c v))) (fun _ _ v k => k (.d (.c v))) (fun _ _ _ v k => k (.d (.c v))) (fun _ v k => k (.d (.c v))) (fun _ v k => k (.d (.c v))) (fun _ _ _ v k => k (.d (.c v))) (fun _ v k => k (.d (.c v))) (fun _ v k => k (.d (.c v)))
    (fun _ _ _ _ _ v k => k (.d (.c v))) (fun v k => k (.d (.c v))) (fun _ _ _ v k => k (.d (.c v))) (fun v k => k (.d (.c v))) (fun _ _ v k => k (.d (.c v))) (fun _ _ v k => k (.d (.c v))) (fun _ _ => PUnit.unit) PUnit.unit (fun _ _ _ _ => PUnit.unit) v v k
def pK (d : DV) (k : KV → O3) : O3 :=
  @DV.rec (fun _ => DV → (KV → O3) → O3) (fun _ => PUnit)
    (fun v _ k => vBK v k) (fun kk x d k => lnK x (fun _ => k (.d d)) fun n => k (.i kk n)) (fun _ d k => k (.d d)) (fun _ _ d k => k (.d d)) (fun _ d k => k (.d d)) (fun _ _ _ _ _ _ d k => k (.d d)) (fun _ d k => k (.d d))
    (fun _ _ _ _ _ d k => k (.d d)) (fun _ _ _ d k => k (.d d)) (fun _ _ d k => k (.d d)) (fun _ _ d k => k (.d d)) (fun _ d k => k (.d d)) (fun _ _ d k => k (.d d)) PUnit.unit (fun _ _ _ _ => PUnit.unit) d d k
theorem pK_L {d : DV} {k : KV → O3} {L : List XK} (h : (pK d k).L = some L) : ∃ v, v.dv = some d ∧ (k v).L = some L := by
  cases d with
  | c v => cases v <;> exact ⟨_, rfl, h⟩
  | n kk x =>
    rcases lnK_L (h : (lnK x (fun _ => k (.d (.n kk x))) fun n => k (.i kk n)).L = some L) with ⟨n, rfl, h1⟩ | h1
    · exact ⟨_, rfl, h1⟩
    · exact ⟨_, rfl, h1⟩
  | _ => exact ⟨_, rfl, h⟩
def rK (r : R DV) (k : DV → O3) : O3 := @Except.rec Er DV (fun _ => (DV → O3) → O3) (fun _ _ => .no) (fun d k => k d) r k
theorem rK_L {r : R DV} {k : DV → O3} {L : List XK} (h : (rK r k).L = some L) : ∃ d, r = .ok d ∧ (k d).L = some L := by
  cases r with
  | ok d => exact ⟨d, rfl, h⟩
  | error e => cases h
def forkL {α : Type} (k : α → O3) : List α → Option (List XK)
  | [] => some []
  | x :: l => match (k x).L, forkL k l with
    | some a, some b => some (a ++ b)
    | _, _ => none
def forkO {α : Type} (k : α → O3) (l : List α) : O3 := match forkL k l with
  | some L => .many L
  | none => .no
theorem forkL_mem {α : Type} {k : α → O3} : ∀ {l : List α} {L : List XK}, forkL k l = some L → ∀ x ∈ l, ∃ L', (k x).L = some L' ∧ ∀ z ∈ L', z ∈ L
  | [], _, _, x, hx => by cases hx
  | y :: l, L, h, x, hx => by
    unfold forkL at h
    split at h <;> cases h
    rename_i a b h1 h2
    rcases List.mem_cons.1 hx with rfl | hx
    · exact ⟨a, h1, fun z hz => List.mem_append_left _ hz⟩
    · obtain ⟨L', h3, h4⟩ := forkL_mem h2 x hx
      exact ⟨L', h3, fun z hz => List.mem_append_right _ (h4 z hz)⟩
theorem forkO_mem {α : Type} {k : α → O3} {l : List α} {L : List XK} (h : (forkO k l).L = some L) : ∀ x ∈ l, ∃ L', (k x).L = some L' ∧ ∀ z ∈ L', z ∈ L := by
  unfold forkO at h
  split at h <;> cases h
  rename_i h1
  exact forkL_mem h1
def stN (s : St) (k : St → O3) : O3 := @St.rec (fun _ => (St → O3) → O3) (fun b h nx fl k => natF nx fun nx => natF fl fun fl => k ⟨b, h, nx, fl⟩) s k
theorem stN_eq (s : St) (k : St → O3) : stN s k = k s := by
  obtain ⟨b, h, nx, fl⟩ := s
  have e : stN ⟨b, h, nx, fl⟩ k = natF nx fun nx => natF fl fun fl => k ⟨b, h, nx, fl⟩ := rfl
  rw [e, natF_eq, natF_eq]
def rsS (r : RS) (k : DV → St → O3) : O3 :=
  @Except.rec Er (List (DV × St)) (fun _ => (DV → St → O3) → O3) (fun _ _ => .no)
    (fun l k => @List.rec (DV × St) (fun _ => (DV → St → O3) → O3) (fun _ => .many []) (fun x l' _ k => @List.rec (DV × St) (fun _ => O3) (@Prod.rec DV St (fun _ => O3) (fun d s => stN s (k d)) x) (fun _ _ _ => forkO (fun x => k x.1 x.2) (x :: l')) l') l k) r k
theorem rsS_L {r : RS} {k : DV → St → O3} {L : List XK} (h : (rsS r k).L = some L) : ∃ outs, r = .ok outs ∧ ∀ x ∈ outs, ∃ L', (k x.1 x.2).L = some L' ∧ ∀ z ∈ L', z ∈ L := by
  cases r with
  | error e => cases h
  | ok l =>
    refine ⟨l, rfl, ?_⟩
    match l, h with
    | [], h => intro x hx; cases hx
    | [(d, s)], h =>
      intro x hx
      simp only [List.mem_singleton] at hx
      subst hx
      have h2 : (stN s (k d)).L = some L := h
      rw [stN_eq] at h2
      exact ⟨L, h2, fun _ hz => hz⟩
    | x :: y :: l, h => exact forkO_mem (k := fun x : DV × St => k x.1 x.2) (l := x :: y :: l) (L := L) h

def kIx : IntKind → Nat := @IntKind.rec (fun _ => Nat) 0 1 2 3 4 5 6 7
theorem kIx_inj {a b : IntKind} (h : Nat.beq (kIx a) (kIx b) = true) : a = b := by
  cases a <;> cases b <;> first | rfl | (exact absurd (Nat.eq_of_beq_eq_true h) (by decide))
def kTop : IntKind → Nat := @IntKind.rec (fun _ => Nat) 127 32767 2147483647 9223372036854775807 255 65535 4294967295 18446744073709551615
theorem kTop_eq (k : IntKind) : (kTop k : Int) = k.max := by cases k <;> decide
abbrev IK := IntKind → Nat → Nat → (Unit → O3) → (KV → O3) → O3
def okN (ka : IntKind) (n : Nat) (slow : Unit → O3) (k : KV → O3) : O3 := @Bool.rec (fun _ => O3) (slow ()) (natF n fun n => k (.i ka n)) (Nat.ble n (kTop ka))
def addK : IK := fun ka a b slow k => okN ka (Nat.add a b) slow k
def mulK : IK := fun ka a b slow k => okN ka (Nat.mul a b) slow k
def subK : IK := fun ka a b slow k => @Bool.rec (fun _ => O3) (slow ()) (okN ka (Nat.sub a b) slow k) (Nat.ble b a)
def bK (b : Bool) (k : KV → O3) : O3 := @Bool.rec (fun _ => O3) (k (.b false)) (k (.b true)) b
theorem bK_eq (b : Bool) (k : KV → O3) : bK b k = k (.b b) := by cases b <;> rfl
def notQ (b : Bool) : Bool := @Bool.rec (fun _ => Bool) true false b
def eqlK : IK := fun _ a b _ k => bK (Nat.beq a b) k
def neqK : IK := fun _ a b _ k => bK (notQ (Nat.beq a b)) k
def lssK : IK := fun _ a b _ k => bK (notQ (Nat.ble b a)) k
def leqK : IK := fun _ a b _ k => bK (Nat.ble a b) k
def gtrK : IK := fun _ a b _ k => bK (notQ (Nat.ble a b)) k
def geqK : IK := fun _ a b _ k => bK (Nat.ble b a) k
def slowK : IK := fun _ _ _ slow _ => slow ()
def binOps : BinOp → IK := fun op => match op with
  | .add => addK
  | .sub => subK
  | .mul => mulK
  | .eql => eqlK
  | .neq => neqK
  | .lss => lssK
  | .leq => leqK
  | .gtr => gtrK
  | .geq => geqK
  | _ => slowK
theorem wrap_id {k : IntKind} {n : Int} (h0 : 0 ≤ n) (h1 : n ≤ k.max) : k.wrap n = n := by
  cases k <;> simp only [IntKind.max, IntKind.bits, IntKind.signed] at h1 <;> simp only [IntKind.wrap, IntKind.bits, IntKind.signed] <;> simp at h1 ⊢ <;> omega
theorem intB_nat (a b : Nat) : intB (Int.ofNat a) (Int.ofNat b) = Nat.beq a b := rfl
theorem intLe_nat (a b : Nat) : intLe (Int.ofNat a) (Int.ofNat b) = Nat.ble a b := by
  cases h : Nat.ble a b with
  | true => exact intLe_iff.2 (by have := Nat.le_of_ble_eq_true h; show (a : Int) ≤ b; omega)
  | false => exact intLe_false.2 (by have : ¬ a ≤ b := fun hh => by rw [Nat.ble_eq_true_of_le hh] at h; cases h
                                     show (b : Int) < a; omega)
theorem okN_or (ka : IntKind) (n : Nat) (slow : Unit → O3) (k : KV → O3) : (okN ka n slow k = k (.i ka n) ∧ (n : Int) ≤ ka.max) ∨ okN ka n slow k = slow () := by
  unfold okN
  cases h : Nat.ble n (kTop ka) with
  | false => exact .inr rfl
  | true =>
    refine .inl ⟨natF_eq n _, ?_⟩
    have := Nat.le_of_ble_eq_true h
    have h2 := kTop_eq ka
    omega
theorem binOps_or (op : BinOp) (ka : IntKind) (a b : Nat) (slow : Unit → O3) (k : KV → O3) : (∃ v kv, intBin op ka ka (.ofNat a) (.ofNat b) = some v ∧ KV.dv kv = some (lift1 v) ∧ binOps op ka a b slow k = k kv) ∨ binOps op ka a b slow k = slow () := by
  cases op <;> simp only [binOps, intBin, if_true, slowK]
  case add =>
    rcases okN_or ka (Nat.add a b) slow k with ⟨h1, h2⟩ | h
    · refine .inl ⟨_, _, rfl, ?_, h1⟩
      simp only [lift1, KV.dv]
      rw [wrap_id (by simp; omega) (by simpa using h2)]
      rfl
    · exact .inr h
  case sub =>
    unfold subK
    cases hb : Nat.ble b a with
    | false => exact .inr rfl
    | true =>
      have hle := Nat.le_of_ble_eq_true hb
      rcases okN_or ka (Nat.sub a b) slow k with ⟨h1, h2⟩ | h
      · refine .inl ⟨_, _, rfl, ?_, h1⟩
        simp only [lift1, KV.dv]
        have e : (Int.ofNat a - Int.ofNat b) = ((Nat.sub a b : Nat) : Int) := by
          show (a : Int) - (b : Int) = ((a - b : Nat) : Int); omega
        rw [e, wrap_id (by omega) h2]
        rfl
      · exact .inr h
  case mul =>
    rcases okN_or ka (Nat.mul a b) slow k with ⟨h1, h2⟩ | h
    · refine .inl ⟨_, _, rfl, ?_, h1⟩
      simp only [lift1, KV.dv]
      have e : (Int.ofNat a * Int.ofNat b) = ((Nat.mul a b : Nat) : Int) := by
        show (a : Int) * (b : Int) = ((a * b : Nat) : Int); simp
      rw [e, wrap_id (by omega) h2]
      rfl
    · exact .inr h
  case eql => exact .inl ⟨_, _, rfl, rfl, bK_eq _ _⟩
  case neq => exact .inl ⟨_, .b (notQ (Nat.beq a b)), rfl, by rw [intB_nat]; cases Nat.beq a b <;> rfl, bK_eq _ _⟩
  case lss => exact .inl ⟨_, .b (notQ (Nat.ble b a)), rfl, by rw [intLe_nat]; cases Nat.ble b a <;> rfl, bK_eq _ _⟩
  case leq => exact .inl ⟨_, _, rfl, by rw [intLe_nat]; rfl, bK_eq _ _⟩
  case gtr => exact .inl ⟨_, .b (notQ (Nat.ble a b)), rfl, by rw [intLe_nat]; cases Nat.ble a b <;> rfl, bK_eq _ _⟩
  case geq => exact .inl ⟨_, _, rfl, by rw [intLe_nat]; rfl, bK_eq _ _⟩
  all_goals exact .inr trivial

def sGo (s : St) (n : Nat) : Option Ob := @Option.rec (Option Ob) (fun _ => Option Ob) (s.b.get n) (fun x => x) (s.h.get n)
theorem sGo_eq (s : St) (n : Nat) : sGo s n = s.get n := by
  unfold sGo St.get
  cases s.h.get n <;> rfl
def ldTail (Γ : Cx) (P : Program) (T n : Nat) (o : Lin) : Option Ob → R DV
  | some (.cells _ cs _) => match split Γ cs o with
    | some (_, b) => optR "load" [T, n] (ldRow P T b)
    | none => fail "load: place" [T, n]
  | some (.win o0 cs) => match split Γ cs (o.sub o0) with
    | some (_, b) => optR "load" [T, n] (ldRow P T b)
    | none => fail "load: place" [T, n]
  | _ => fail "load: nothing there" [T, n]
theorem ldTail_eq (Γ : Cx) (P : Program) (T n : Nat) (o : Lin) (s : St) : ldTail Γ P T n o (sGo s n) = loadD Γ P T (.p n o) s := by
  rw [sGo_eq]
  unfold loadD rowAt
  simp only
  cases s.get n with
  | none => rfl
  | some ob => cases ob <;> rfl

structure KF where
  r : CallF → EK → St → O3
structure F1 where
  f : St → KV → (KV → O3) → O3
structure F2 where
  f : St → KV → KV → (KV → O3) → O3
structure GA where
  a : EK → (List DV → O3) → O3
def badF : KF := ⟨fun _ _ _ => .no⟩
def noS : SP := ⟨fun e _ k => k e⟩
abbrev Nx (q : SP) (nx : KF) (call : CallF) (env : EK) (v : KV) (s : St) : O3 := q.s env v fun env' => nx.r call env' s
def un1 (x : GP) (q : SP) (nx : KF) (f : F1) : KF :=
  @GP.rec (fun _ => KF) (fun g => @SP.rec (fun _ => KF) (fun q => @F1.rec (fun _ => KF) (fun f => ⟨fun call env s => g env fun v => f s v fun r => q env r fun env' => nx.r call env' s⟩) f) q) x
def un2 (x y : GP) (q : SP) (nx : KF) (f : F2) : KF :=
  @GP.rec (fun _ => KF) (fun g => @GP.rec (fun _ => KF) (fun g' => @SP.rec (fun _ => KF) (fun q => @F2.rec (fun _ => KF) (fun f => ⟨fun call env s => g env fun v => g' env fun v' => f s v v' fun r => q env r fun env' => nx.r call env' s⟩) f) q) y) x
def gaOf (xs : List GP) : GA := @List.rec GP (fun _ => GA) ⟨fun _ k => k []⟩ (fun x _ ih => @GP.rec (fun _ => GA) (fun g => @GA.rec (fun _ => GA) (fun a => ⟨fun e k => g e fun v => dvK v fun d => a e fun ds => k (d :: ds)⟩) ih) x) xs
theorem gaOf_cons (x : GP) (xs : List GP) (e : EK) (k : List DV → O3) : (gaOf (x :: xs)).a e k = x.g e fun v => dvK v fun d => (gaOf xs).a e fun ds => k (d :: ds) := rfl
def callN (f : Nat) (xs : List GP) (q : SP) (nx : KF) : KF :=
  @GA.rec (fun _ => KF) (fun a => @SP.rec (fun _ => KF) (fun q => ⟨fun call env s => a env fun vs => rsS (call f vs s) fun d s' => pK d fun v => q env v fun env' => nx.r call env' s'⟩) q) (gaOf xs)
theorem callN_eq (f : Nat) (xs : List GP) (q : SP) (nx : KF) (call : CallF) (env : EK) (s : St) : (callN f xs q nx).r call env s = (gaOf xs).a env fun vs => rsS (call f vs s) fun d s' => pK d fun v => Nx q nx call env v s' := rfl
def loudN (Γ : Cx) (P : Program) (o : Op) (xs : List GP) (q : SP) (nx : KF) : KF :=
  @GA.rec (fun _ => KF) (fun a => @SP.rec (fun _ => KF) (fun q => ⟨fun call env s => a env fun vs => rsS (loudD Γ P call o vs s) fun d s' => pK d fun v => q env v fun env' => nx.r call env' s'⟩) q) (gaOf xs)
theorem loudN_eq (Γ : Cx) (P : Program) (o : Op) (xs : List GP) (q : SP) (nx : KF) (call : CallF) (env : EK) (s : St) : (loudN Γ P o xs q nx).r call env s = (gaOf xs).a env fun vs => rsS (loudD Γ P call o vs s) fun d s' => pK d fun v => Nx q nx call env v s' := rfl
def genR (Γ : Cx) (P : Program) (call : CallF) (o : Op) (vs : List DV) (s : St) : RS := match quietD Γ P o vs s with
  | some (.ok d) => .ok [(d, s)]
  | some (.error e) => .error e
  | none => loudD Γ P call o vs s
def genN (Γ : Cx) (P : Program) (o : Op) (xs : List GP) (q : SP) (nx : KF) : KF :=
  @GA.rec (fun _ => KF) (fun a => @SP.rec (fun _ => KF) (fun q => ⟨fun call env s => a env fun vs => rsS (genR Γ P call o vs s) fun d s' => pK d fun v => q env v fun env' => nx.r call env' s'⟩) q) (gaOf xs)
theorem genN_eq (Γ : Cx) (P : Program) (o : Op) (xs : List GP) (q : SP) (nx : KF) (call : CallF) (env : EK) (s : St) : (genN Γ P o xs q nx).r call env s = (gaOf xs).a env fun vs => rsS (genR Γ P call o vs s) fun d s' => pK d fun v => Nx q nx call env v s' := rfl
def pickN (c x y : GP) (q : SP) (nx : KF) : KF :=
  @GP.rec (fun _ => KF) (fun gc => @GP.rec (fun _ => KF) (fun g => @GP.rec (fun _ => KF) (fun g' => @SP.rec (fun _ => KF) (fun q => ⟨fun call env s => gc env fun v => kvB v fun t =>
    @Bool.rec (fun _ => O3) (g' env fun v => chk v fun v => q env v fun env' => nx.r call env' s) (g env fun v => chk v fun v => q env v fun env' => nx.r call env' s) t⟩) q) y) x) c
def mvF : F1 := ⟨fun _ v k => chk v k⟩
def binSlow (Γ : Cx) (P : Program) (op : BinOp) (T : Nat) (x y : KV) (k : KV → O3) : O3 := dvK x fun a => dvK y fun b => rK (binD Γ P op T a b) fun d => pK d k
def binF (Γ : Cx) (P : Program) (op : BinOp) (T : Nat) (f : IK) : F2 := ⟨fun _ x y k => @KV.rec (fun _ => KV → (KV → O3) → O3) (fun _ _ => .no)
  (fun ka a y k => @KV.rec (fun _ => IntKind → Nat → (KV → O3) → O3) (fun _ _ _ => .no) (fun kb b ka a k => @Bool.rec (fun _ => O3) (binSlow Γ P op T (.i ka a) (.i kb b) k) (f ka a b (fun _ => binSlow Γ P op T (.i ka a) (.i kb b) k) k) (Nat.beq (kIx ka) (kIx kb)))
    (fun t ka a k => binSlow Γ P op T (.i ka a) (.b t) k) (fun x ka a k => binSlow Γ P op T (.i ka a) (.d x) k) y ka a k)
  (fun t y k => binSlow Γ P op T (.b t) y k) (fun x y k => binSlow Γ P op T (.d x) y k) x y k⟩
def ldF (Γ : Cx) (P : Program) (T : Nat) : F1 := ⟨fun s v k => dvK v fun d => dP d fun n o => rK (ldTail Γ P T n o (sGo s n)) fun d => pK d k⟩
def faF (m : Nat) : F1 := ⟨fun _ v k => dvK v fun d => dP d fun n o => k (.d (.p n (o.add (lit (Int.ofNat m)))))⟩
def exF (i : Nat) : F1 := ⟨fun _ v k => dvK v fun d => dT d fun l => @Option.rec DV (fun _ => O3) .no (fun d => pK d k) l[i]?⟩
def ncD : DV → R DV
  | .p n o => .ok (.p n o)
  | .f (.func g) a b => .ok (.f (.func g) a b)
  | _ => fail "nil" []
def ncF : F1 := ⟨fun _ v k => dvK v fun d => rK (ncD d) fun d => pK d k⟩
def cvSlow (Γ : Cx) (P : Program) (src dst : Nat) (x : KV) (s : St) (k : KV → O3) : O3 := dvK x fun a => rK (convD Γ P src dst a s) fun d => pK d k
def cvF (Γ : Cx) (P : Program) (kk : IntKind) (src dst : Nat) : F1 := ⟨fun s x k => @KV.rec (fun _ => St → (KV → O3) → O3) (fun _ _ => .no)
  (fun ka n s k => @Bool.rec (fun _ => O3) (cvSlow Γ P src dst (.i ka n) s k) (@Bool.rec (fun _ => O3) .no (k (.i kk n)) (P.underlying src).isSome) (Nat.ble n (kTop kk)))
  (fun t s k => cvSlow Γ P src dst (.b t) s k) (fun x s k => cvSlow Γ P src dst (.d x) s k) x s k⟩
end
end
end Go.Q

namespace Go.Q
noncomputable section
open Go.RowKit
open Go.Z hiding cond_false get resF

abbrev Vs := List (Nat × Nat)
noncomputable def posOf (l : Vs) (t : Nat) : Option Nat :=
  @List.rec (Nat × Nat) (fun _ => Option Nat) none (fun x _ ih => @Prod.rec Nat Nat (fun _ => Option Nat) (fun m p => @Bool.rec (fun _ => Option Nat) ih (some p) (Nat.beq m t)) x) l
theorem posOf_cons (m p : Nat) (l : Vs) (t : Nat) : posOf ((m, p) :: l) t = cond (Nat.beq m t) (some p) (posOf l t) := by
  show @Bool.rec (fun _ => Option Nat) (posOf l t) (some p) (Nat.beq m t) = _
  cases Nat.beq m t <;> rfl
noncomputable section
def visE (vis : Vs) (env : EK) (t : Nat) : Option DV := match posOf vis t with
  | some p => (env.get p).dv
  | none => none
def kvOf : DV → KV
  | .n kk x => match x.t, x.c with
    | [], .ofNat n => .i kk n
    | _, _ => .d (.n kk x)
  | .c v => match v with
    | .bool b => .b b
    | v => .d (.c v)
  | d => .d d
theorem kvOf_dv (d : DV) : (kvOf d).dv = some d := by
  unfold kvOf
  split
  · rename_i kk x
    split
    · rename_i n h1 h2
      obtain ⟨c, t⟩ := x
      simp only at h1 h2
      subst h1; subst h2
      rfl
    · rfl
  · split <;> rfl
  · rfl

def natG (n : Nat) (k : Nat → GP) : GP := @Nat.rec (fun _ => GP) (k 0) (fun m _ => k (Nat.succ m)) n
theorem natG_eq (n : Nat) (k : Nat → GP) : natG n k = k n := by cases n <;> rfl
def constG (v : KV) : GP := @KV.rec (fun _ => GP) badG (fun kk n => natG n fun n => ⟨fun _ k => k (.i kk n)⟩) (fun t => @Bool.rec (fun _ => GP) ⟨fun _ k => k (.b false)⟩ ⟨fun _ k => k (.b true)⟩ t) (fun x => ⟨fun _ k => k (.d x)⟩) v
theorem constG_L {v : KV} {env : EK} {k : KV → O3} {L : List XK} (h : ((constG v).g env k).L = some L) : (k v).L = some L := by
  cases v with
  | bad => cases h
  | i kk n =>
    have e : constG (.i kk n) = natG n fun n => ⟨fun _ k => k (.i kk n)⟩ := rfl
    rw [e, natG_eq] at h; exact h
  | b t => cases t <;> exact h
  | d x => exact h
def opdG (vis : Vs) : Operand → GP
  | .tmp t => match posOf vis t with
    | some p => natG p getP
    | none => badG
  | .const v => constG (kvOf (lift v))
  | .func f => ⟨fun _ k => k (.d (.f (.func f) [] []))⟩
  | .global n => ⟨fun _ k => k (.d (.g n))⟩
theorem opdG_L {vis : Vs} {x : Operand} {env : EK} {k : KV → O3} {L : List XK} (h : ((opdG vis x).g env k).L = some L) : ∃ v, (k v).L = some L ∧ ∀ d, v.dv = some d → getF (visE vis env) x = some d := by
  cases x with
  | tmp t =>
    simp only [opdG] at h
    split at h
    · rename_i p hp
      rw [natG_eq] at h
      refine ⟨_, getP_L h, fun d hd => ?_⟩
      simp only [getF, visE, hp, hd]
    · cases h
  | const v =>
    refine ⟨_, constG_L h, fun d hd => ?_⟩
    rw [kvOf_dv] at hd; cases hd
    rfl
  | func f => exact ⟨_, h, fun d hd => by cases hd; rfl⟩
  | global n => exact ⟨_, h, fun d hd => by cases hd; rfl⟩
theorem gaOf_L {vis : Vs} {env : EK} {L : List XK} : ∀ {xs : List Operand} {k : List DV → O3}, ((gaOf (xs.map (opdG vis))).a env k).L = some L → ∃ ds, resF (visE vis env) xs = .ok ds ∧ (k ds).L = some L
  | [], k, h => ⟨[], rfl, h⟩
  | x :: xs, k, h => by
    rw [List.map_cons, gaOf_cons] at h
    obtain ⟨v, h1, h2⟩ := opdG_L h
    obtain ⟨d, h3, h4⟩ := dvK_L h1
    obtain ⟨ds, h5, h6⟩ := gaOf_L h4
    exact ⟨d :: ds, by simp only [resF, h2 d h3, h5], h6⟩

def genF (Γ : Cx) (P : Program) (vis : Vs) (o : Op) (q : SP) (nx : KF) : KF :=
  cond (isLoud P o) (loudN Γ P o (o.operands.toList.map (opdG vis)) q nx) (genN Γ P o (o.operands.toList.map (opdG vis)) q nx)
def opF (Γ : Cx) (P : Program) (vis : Vs) (o : Op) (q : SP) (nx : KF) : KF := match o with
  | .move x => un1 (opdG vis x) q nx mvF
  | .assign x => un1 (opdG vis x) q nx mvF
  | .binOp op T x y _ => un2 (opdG vis x) (opdG vis y) q nx (binF Γ P op T (binOps op))
  | .load T x => un1 (opdG vis x) q nx (ldF Γ P T)
  | .fieldAddr S x f => match fldT P S f with
    | some n => un1 (opdG vis x) q nx (faF n)
    | none => badF
  | .extract x i => un1 (opdG vis x) q nx (exF i)
  | .nilCheck x => un1 (opdG vis x) q nx ncF
  | .convert src dst x => match intK P dst with
    | some k => un1 (opdG vis x) q nx (cvF Γ P k src dst)
    | none => genF Γ P vis o q nx
  | .pick c a b => pickN (opdG vis c) (opdG vis a) (opdG vis b) q nx
  | .call c => match c.callee with
    | .value (.func f) => callN f (c.args.toList.map (opdG vis)) q nx
    | _ => genF Γ P vis o q nx
  | o => genF Γ P vis o q nx
end

section
variable {Γ : Cx} {P : Program} {call : CallF} {vis : Vs} {env : EK} {s : St} {q : SP} {nx : KF} {L : List XK}
def GoOn (q : SP) (nx : KF) (call : CallF) (env : EK) (d : DV) (s : St) (L : List XK) : Prop := ∃ v, KV.dv v = some d ∧ ∃ L', (Nx q nx call env v s).L = some L' ∧ ∀ z ∈ L', z ∈ L
def OpDoes (Γ : Cx) (P : Program) (call : CallF) (vis : Vs) (env : EK) (s : St) (o : Op) (q : SP) (nx : KF) (L : List XK) : Prop :=
  ∃ outs, stepD Γ P call o (visE vis env) s = .ok outs ∧ ∀ x ∈ outs, GoOn q nx call env x.1 x.2 L
theorem stepD_quiet {env : Nat → Option DV} {o : Op} {vs : List DV} {d : DV} (hp : ∀ c a b, o ≠ .pick c a b) (h1 : resF env o.operands.toList = .ok vs) (h2 : quietD Γ P o vs s = some (.ok d)) : stepD Γ P call o env s = .ok [(d, s)] := by
  unfold stepD
  split
  · exact absurd rfl (hp _ _ _)
  · rw [h1]; simp only [h2]; rfl
theorem stepD_loud {env : Nat → Option DV} {o : Op} {vs : List DV} (hp : ∀ c a b, o ≠ .pick c a b) (h1 : resF env o.operands.toList = .ok vs) (h2 : quietD Γ P o vs s = none) : stepD Γ P call o env s = loudD Γ P call o vs s := by
  unfold stepD
  split
  · exact absurd rfl (hp _ _ _)
  · rw [h1]; simp only [h2]
theorem stepD_gen {env : Nat → Option DV} {o : Op} {vs : List DV} (hp : ∀ c a b, o ≠ .pick c a b) (h1 : resF env o.operands.toList = .ok vs) {outs : List (DV × St)} (h2 : genR Γ P call o vs s = .ok outs) : stepD Γ P call o env s = .ok outs := by
  unfold stepD
  split
  · exact absurd rfl (hp _ _ _)
  · rw [h1]
    simp only
    unfold genR at h2
    split at h2
    · rename_i d hq; cases h2; rw [hq]; rfl
    · cases h2
    · rename_i hq; rw [hq]; exact h2
theorem res1 {env : Nat → Option DV} {x : Operand} {d : DV} (h : getF env x = some d) : resF env [x] = .ok [d] := by simp only [resF, h]
theorem res2 {env : Nat → Option DV} {x y : Operand} {d e : DV} (h : getF env x = some d) (h' : getF env y = some e) : resF env [x, y] = .ok [d, e] := by simp only [resF, h, h']
theorem does_one {o : Op} {d : DV} {s' : St} (h : stepD Γ P call o (visE vis env) s = .ok [(d, s')]) {v : KV} (hv : v.dv = some d) (hn : (Nx q nx call env v s').L = some L) : OpDoes Γ P call vis env s o q nx L :=
  ⟨_, h, fun x hx => by simp only [List.mem_singleton] at hx; subst hx; exact ⟨v, hv, L, hn, fun _ hz => hz⟩⟩
theorem genF_L {o : Op} (hp : ∀ c a b, o ≠ .pick c a b) (h : ((genF Γ P vis o q nx).r call env s).L = some L) : OpDoes Γ P call vis env s o q nx L := by
  unfold genF at h
  cases hl : isLoud P o with
  | true =>
    rw [hl, _root_.cond_true, loudN_eq] at h
    obtain ⟨vs, h1, h2⟩ := gaOf_L h
    obtain ⟨outs, h3, h4⟩ := rsS_L h2
    refine ⟨outs, by rw [stepD_loud hp h1 (isLoud_none hl)]; exact h3, fun x hx => ?_⟩
    obtain ⟨L', h5, h6⟩ := h4 x hx
    obtain ⟨v, h7, h8⟩ := pK_L h5
    exact ⟨v, h7, L', h8, h6⟩
  | false =>
    rw [hl, _root_.cond_false, genN_eq] at h
    obtain ⟨vs, h1, h2⟩ := gaOf_L h
    obtain ⟨outs, h3, h4⟩ := rsS_L h2
    refine ⟨outs, stepD_gen hp h1 h3, fun x hx => ?_⟩
    obtain ⟨L', h5, h6⟩ := h4 x hx
    obtain ⟨v, h7, h8⟩ := pK_L h5
    exact ⟨v, h7, L', h8, h6⟩
theorem binSlow_L {op : BinOp} {T : Nat} {x y : KV} {k : KV → O3} (h : (binSlow Γ P op T x y k).L = some L) : ∃ a b d v, x.dv = some a ∧ y.dv = some b ∧ binD Γ P op T a b = .ok d ∧ v.dv = some d ∧ (k v).L = some L := by
  obtain ⟨a, h1, h2⟩ := dvK_L h
  obtain ⟨b, h3, h4⟩ := dvK_L h2
  obtain ⟨d, h5, h6⟩ := rK_L h4
  obtain ⟨v, h7, h8⟩ := pK_L h6
  exact ⟨a, b, d, v, h1, h3, h5, h7, h8⟩
theorem binF_L {op : BinOp} {T : Nat} {x y : KV} {k : KV → O3} (h : ((binF Γ P op T (binOps op)).f s x y k).L = some L) : ∃ a b d v, x.dv = some a ∧ y.dv = some b ∧ binD Γ P op T a b = .ok d ∧ v.dv = some d ∧ (k v).L = some L := by
  cases x with
  | bad => cases h
  | b t => exact binSlow_L h
  | d x => exact binSlow_L h
  | i ka a =>
    cases y with
    | bad => cases h
    | b t => exact binSlow_L h
    | d x => exact binSlow_L h
    | i kb b =>
      have h2 : (@Bool.rec (fun _ => O3) (binSlow Γ P op T (.i ka a) (.i kb b) k) (binOps op ka a b (fun _ => binSlow Γ P op T (.i ka a) (.i kb b) k) k) (Nat.beq (kIx ka) (kIx kb))).L = some L := h
      cases hb : Nat.beq (kIx ka) (kIx kb) with
      | false => rw [hb] at h2; exact binSlow_L h2
      | true =>
        rw [hb] at h2
        obtain rfl := kIx_inj hb
        simp only at h2
        rcases binOps_or op ka a b (fun _ => binSlow Γ P op T (.i ka a) (.i ka b) k) k with ⟨v, kv, e1, e2, e3⟩ | e
        · rw [e3] at h2
          have e4 : intD Γ op ka ka (lit (.ofNat a)) (lit (.ofNat b)) = .ok (lift1 v) := by simp only [intD, lit, Lin.isLit, Bool.and_self, _root_.cond_true, e1]
          exact ⟨_, _, lift1 v, kv, rfl, rfl, e4, e2, h2⟩
        · rw [e] at h2; exact binSlow_L h2
theorem cvSlow_L {src dst : Nat} {x : KV} {k : KV → O3} (h : (cvSlow Γ P src dst x s k).L = some L) : ∃ a d v, x.dv = some a ∧ convD Γ P src dst a s = .ok d ∧ v.dv = some d ∧ (k v).L = some L := by
  obtain ⟨a, h1, h2⟩ := dvK_L h
  obtain ⟨d, h5, h6⟩ := rK_L h2
  obtain ⟨v, h7, h8⟩ := pK_L h6
  exact ⟨a, d, v, h1, h5, h7, h8⟩
theorem cvF_L {kk : IntKind} {src dst : Nat} {x : KV} {k : KV → O3} (hu : P.underlying dst = some (.int kk)) (h : ((cvF Γ P kk src dst).f s x k).L = some L) : ∃ a d v, x.dv = some a ∧ convD Γ P src dst a s = .ok d ∧ v.dv = some d ∧ (k v).L = some L := by
  cases x with
  | bad => cases h
  | b t => exact cvSlow_L h
  | d x => exact cvSlow_L h
  | i ka n =>
    have h2 : (@Bool.rec (fun _ => O3) (cvSlow Γ P src dst (.i ka n) s k) (@Bool.rec (fun _ => O3) .no (k (.i kk n)) (P.underlying src).isSome) (Nat.ble n (kTop kk))).L = some L := h
    cases hb : Nat.ble n (kTop kk) with
    | false => rw [hb] at h2; exact cvSlow_L h2
    | true =>
      rw [hb] at h2
      cases hs : P.underlying src with
      | none => rw [hs] at h2; cases h2
      | some u =>
        rw [hs] at h2
        have hle := Nat.le_of_ble_eq_true hb
        have ht := kTop_eq kk
        have e : kk.wrap (Int.ofNat n) = Int.ofNat n := wrap_id (Int.natCast_nonneg n) (by show (n : Int) ≤ _; omega)
        refine ⟨_, _, .i kk n, rfl, ?_, rfl, h2⟩
        simp only [convD, hs, hu, lit, Lin.isLit, _root_.cond_true, e]
theorem opF_L {o : Op} (h : ((opF Γ P vis o q nx).r call env s).L = some L) : OpDoes Γ P call vis env s o q nx L := by
  cases o
  case move x =>
    obtain ⟨v, h1, h2⟩ := opdG_L (h : ((opdG vis x).g env fun v => chk v fun r => Nx q nx call env r s).L = some L)
    obtain ⟨⟨d, hd⟩, h3⟩ := chk_L h1
    exact does_one (stepD_quiet (by simp) (res1 (h2 d hd)) rfl) hd h3
  case assign x =>
    obtain ⟨v, h1, h2⟩ := opdG_L (h : ((opdG vis x).g env fun v => chk v fun r => Nx q nx call env r s).L = some L)
    obtain ⟨⟨d, hd⟩, h3⟩ := chk_L h1
    exact does_one (stepD_quiet (by simp) (res1 (h2 d hd)) rfl) hd h3
  case binOp op T x y yT =>
    obtain ⟨v, h1, h2⟩ := opdG_L (h : ((opdG vis x).g env fun v => (opdG vis y).g env fun v' => (binF Γ P op T (binOps op)).f s v v' fun r => Nx q nx call env r s).L = some L)
    obtain ⟨v', h3, h4⟩ := opdG_L h1
    obtain ⟨a, b, d, u, e1, e2, e3, e4, e5⟩ := binF_L (s := s) h3
    exact does_one (stepD_quiet (by simp) (res2 (h2 a e1) (h4 b e2)) (by simp only [quietD, r2, e3])) e4 e5
  case load T x =>
    obtain ⟨v, h1, h2⟩ := opdG_L (h : ((opdG vis x).g env fun v => (ldF Γ P T).f s v fun r => Nx q nx call env r s).L = some L)
    obtain ⟨a, e1, e2⟩ := dvK_L (h1 : (dvK v fun d => dP d fun n o => rK (ldTail Γ P T n o (sGo s n)) fun d => pK d fun r => Nx q nx call env r s).L = some L)
    obtain ⟨n, o, rfl, e3⟩ := dP_L e2
    obtain ⟨d, e5, e6⟩ := rK_L e3
    obtain ⟨u, e7, e8⟩ := pK_L e6
    rw [ldTail_eq] at e5
    exact does_one (stepD_quiet (by simp) (res1 (h2 _ e1)) (by simp only [quietD, r1, e5])) e7 e8
  case fieldAddr S x f =>
    simp only [opF] at h
    split at h
    · rename_i m hm
      obtain ⟨v, h1, h2⟩ := opdG_L (h : ((opdG vis x).g env fun v => (faF m).f s v fun r => Nx q nx call env r s).L = some L)
      obtain ⟨a, e1, e2⟩ := dvK_L (h1 : (dvK v fun d => dP d fun n o => Nx q nx call env (.d (.p n (o.add (lit (Int.ofNat m))))) s).L = some L)
      obtain ⟨n, o, rfl, e3⟩ := dP_L e2
      exact does_one (stepD_quiet (by simp) (res1 (h2 _ e1)) (by simp only [quietD, r1, hm]; rfl)) rfl e3
    · cases h
  case extract x i =>
    obtain ⟨v, h1, h2⟩ := opdG_L (h : ((opdG vis x).g env fun v => (exF i).f s v fun r => Nx q nx call env r s).L = some L)
    obtain ⟨a, e1, e2⟩ := dvK_L (h1 : (dvK v fun d => dT d fun l => @Option.rec DV (fun _ => O3) .no (fun d => pK d fun r => Nx q nx call env r s) l[i]?).L = some L)
    obtain ⟨l, rfl, e3⟩ := dT_L e2
    cases hi : l[i]? with
    | none => rw [hi] at e3; cases e3
    | some d =>
      rw [hi] at e3
      obtain ⟨u, e7, e8⟩ := pK_L e3
      exact does_one (stepD_quiet (by simp) (res1 (h2 _ e1)) (by simp only [quietD, r1, hi, optR])) e7 e8
  case nilCheck x =>
    obtain ⟨v, h1, h2⟩ := opdG_L (h : ((opdG vis x).g env fun v => ncF.f s v fun r => Nx q nx call env r s).L = some L)
    obtain ⟨a, e1, e2⟩ := dvK_L (h1 : (dvK v fun d => rK (ncD d) fun d => pK d fun r => Nx q nx call env r s).L = some L)
    obtain ⟨d, e3, e4⟩ := rK_L e2
    obtain ⟨u, e7, e8⟩ := pK_L e4
    exact does_one (stepD_quiet (by simp) (res1 (h2 _ e1)) (by
      have e : quietD Γ P (.nilCheck x) [a] s = some (ncD a) := by
        simp only [quietD, r1]
        cases a with
        | f fn _ _ => cases fn <;> rfl
        | _ => rfl
      rw [e, e3])) e7 e8
  case convert src dst x =>
    simp only [opF] at h
    split at h
    · rename_i kk hk
      have hu := intK_some hk
      obtain ⟨v, h1, h2⟩ := opdG_L (h : ((opdG vis x).g env fun v => (cvF Γ P kk src dst).f s v fun r => Nx q nx call env r s).L = some L)
      obtain ⟨a, d, u, e1, e2, e3, e4⟩ := cvF_L hu h1
      exact does_one (stepD_quiet (by simp) (res1 (h2 _ e1)) (by simp only [quietD, hu, r1, e2])) e3 e4
    · exact genF_L (by simp) h
  case pick c a b =>
    obtain ⟨v, h1, h2⟩ := opdG_L (h : ((opdG vis c).g env fun v => kvB v fun t => @Bool.rec (fun _ => O3) ((opdG vis b).g env fun v => chk v fun v => Nx q nx call env v s) ((opdG vis a).g env fun v => chk v fun v => Nx q nx call env v s) t).L = some L)
    obtain ⟨t, e1, e2⟩ := kvB_L h1
    have hc := h2 _ e1
    cases t with
    | false =>
      obtain ⟨u, h3, h4⟩ := opdG_L e2
      obtain ⟨⟨d, hd⟩, h5⟩ := chk_L h3
      exact does_one (by simp only [stepD, pickD, hc, _root_.cond_false, h4 d hd]; rfl) hd h5
    | true =>
      obtain ⟨u, h3, h4⟩ := opdG_L e2
      obtain ⟨⟨d, hd⟩, h5⟩ := chk_L h3
      exact does_one (by simp only [stepD, pickD, hc, _root_.cond_true, h4 d hd]; rfl) hd h5
  case call c =>
    simp only [opF] at h
    split at h
    · rename_i f hf
      rw [callN_eq] at h
      obtain ⟨vs, h1, h2⟩ := gaOf_L h
      have hq : ∀ vs, quietD Γ P (.call c) vs s = none := fun vs => isLoud_none (by simp only [isLoud, hf])
      have hr : resF (visE vis env) (Op.call c).operands.toList = .ok (.f (.func f) [] [] :: vs) := by
        simp only [Op.operands, Call.operands, hf]
        rw [Array.toList_append]
        simp only [List.cons_append, List.nil_append, resF, getF, h1]
      have hl : loudD Γ P call (.call c) (.f (.func f) [] [] :: vs) s = call f vs s := by simp only [loudD, hf, List.nil_append, List.append_nil]
      obtain ⟨outs, h3, h4⟩ := rsS_L h2
      refine ⟨outs, by rw [stepD_loud (by simp) hr (hq _), hl]; exact h3, fun x hx => ?_⟩
      obtain ⟨L', h5, h6⟩ := h4 x hx
      obtain ⟨v, h7, h8⟩ := pK_L h5
      exact ⟨v, h7, L', h8, h6⟩
    · exact genF_L (by simp) h
  all_goals exact genF_L (by simp) h
end
end
end Go.Q

namespace Go.Q
noncomputable section
open Go.RowKit
open Go.Z hiding cond_false get resF

def StepP (vis vis' : Vs) (t p : Nat) : Prop := posOf vis' t = some p ∧ ∀ m q, m ≠ t → posOf vis' m = some q → q ≠ p ∧ posOf vis m = some q
structure Good (vis : Vs) (fr : Nat) : Prop where
  lt : ∀ t p, posOf vis t = some p → p < fr
  inj : ∀ m m' q, posOf vis m = some q → posOf vis m' = some q → m = m'
theorem Good.step {vis : Vs} {fr t p : Nat} (h : Good vis fr) (hp : posOf vis t = some p) : StepP vis vis t p :=
  ⟨hp, fun m q hm hq => ⟨fun e => by subst e; exact hm (h.inj m t q hq hp), hq⟩⟩
theorem posOf_other {m t p : Nat} {l : Vs} (h : m ≠ t) : posOf ((t, p) :: l) m = posOf l m := by
  rw [posOf_cons]
  cases hb : Nat.beq t m with
  | true => exact absurd (Nat.eq_of_beq_eq_true hb).symm h
  | false => rfl
theorem posOf_self (t p : Nat) (l : Vs) : posOf ((t, p) :: l) t = some p := by
  rw [posOf_cons, Nat.beq_refl]; rfl
theorem Good.new {vis : Vs} {fr t : Nat} (h : Good vis fr) : StepP vis ((t, fr) :: vis) t fr ∧ Good ((t, fr) :: vis) (fr + 1) := by
  refine ⟨⟨posOf_self _ _ _, fun m q hm hq => ?_⟩, ⟨fun m q hq => ?_, fun m m' q h1 h2 => ?_⟩⟩
  · rw [posOf_other hm] at hq
    exact ⟨fun e => by have := h.lt m q hq; omega, hq⟩
  · by_cases hm : m = t
    · subst hm; rw [posOf_self] at hq; cases hq; exact Nat.lt_succ_self _
    · rw [posOf_other hm] at hq; have := h.lt m q hq; omega
  · by_cases hm : m = t <;> by_cases hm' : m' = t
    · rw [hm, hm']
    · subst hm; rw [posOf_self] at h1; cases h1
      rw [posOf_other hm'] at h2
      have := h.lt m' _ h2; omega
    · subst hm'; rw [posOf_self] at h2; cases h2
      rw [posOf_other hm] at h1
      have := h.lt m _ h1; omega
    · rw [posOf_other hm] at h1; rw [posOf_other hm'] at h2
      exact h.inj m m' q h1 h2
def VLe (vis0 vis : Vs) : Prop := ∀ t p, posOf vis0 t = some p → posOf vis t = some p

noncomputable section
def natS (n : Nat) (k : Nat → SP) : SP := @Nat.rec (fun _ => SP) (k 0) (fun m _ => k (Nat.succ m)) n
theorem natS_eq (n : Nat) (k : Nat → SP) : natS n k = k n := by cases n <;> rfl
def skipF (q : SP) (nx : KF) : KF := @SP.rec (fun _ => KF) (fun q => ⟨fun call env s => q env (.d noD) fun env' => nx.r call env' s⟩) q
theorem skipF_eq (q : SP) (nx : KF) (call : CallF) (env : EK) (s : St) : (skipF q nx).r call env s = Nx q nx call env (.d noD) s := rfl
def vG (v : Value) (no : Unit → O3) : O3 :=
  @Value.rec (fun _ => (Unit → O3) → O3) (fun _ => PUnit) (fun _ => PUnit)
    (fun _ _ => .no) (fun _ _ _ => .no) (fun _ _ _ => .no) (fun _ _ _ _ => .no) (fun _ _ => .no) (fun _ _ => .no) (fun _ _ _ _ => .no) (fun _ _ => .no) (fun _ _ => .no)
    (fun _ _ _ _ _ _ => .no) (fun _ => .no) (fun _ _ _ _ => .no) (fun _ => .no) (fun _ _ _ => .no) (fun _ _ no => no ()) (fun _ _ => PUnit.unit) PUnit.unit (fun _ _ _ _ => PUnit.unit) v no
def dG (d : DV) (no : Unit → O3) : O3 :=
  @DV.rec (fun _ => (Unit → O3) → O3) (fun _ => PUnit)
    (fun v no => vG v no) (fun _ _ _ => .no) (fun _ _ => .no) (fun _ _ _ => .no) (fun _ _ => .no) (fun _ _ _ _ _ _ _ => .no) (fun _ _ => .no)
    (fun _ _ _ _ _ _ => .no) (fun _ _ _ _ => .no) (fun _ _ _ => .no) (fun _ _ _ => .no) (fun _ _ => .no) (fun _ _ _ => .no) PUnit.unit (fun _ _ _ _ => PUnit.unit) d no
theorem dG_L {d : DV} {no : Unit → O3} {L : List XK} (h : (dG d no).L = some L) : ∃ l, d = .c (.tuple l) ∧ (no ()).L = some L := by
  cases d with
  | c v => cases v with
    | tuple l => exact ⟨l, rfl, h⟩
    | _ => cases h
  | _ => cases h
def gdF (x : GP) (want : Bool) (yes no : KF) : KF :=
  @GP.rec (fun _ => KF) (fun g => ⟨fun call env s => g env fun v => @KV.rec (fun _ => CallF → EK → St → O3) (fun _ _ _ => .no) (fun _ _ _ _ _ => .no)
    (fun t call env s => @Bool.rec (fun _ => O3) (@Bool.rec (fun _ => O3) (yes.r call env s) (no.r call env s) want) (@Bool.rec (fun _ => O3) (no.r call env s) (yes.r call env s) want) t)
    (fun d call env s => dG d fun _ => no.r call env s) v call env s⟩) x
theorem gdF_L {p : Nat} {want : Bool} {yes no : KF} {call : CallF} {env : EK} {s : St} {L : List XK} (h : ((gdF (getP p) want yes no).r call env s).L = some L) :
    (∃ t, (env.get p).dv = some (.c (.bool t)) ∧ ((t == want) = true ∧ (yes.r call env s).L = some L ∨ (t == want) = false ∧ (no.r call env s).L = some L)) ∨ ∃ l, (env.get p).dv = some (.c (.tuple l)) ∧ (no.r call env s).L = some L := by
  have h2 := getP_L (k := fun v => @KV.rec (fun _ => CallF → EK → St → O3) (fun _ _ _ => .no) (fun _ _ _ _ _ => .no)
    (fun t call env s => @Bool.rec (fun _ => O3) (@Bool.rec (fun _ => O3) (yes.r call env s) (no.r call env s) want) (@Bool.rec (fun _ => O3) (no.r call env s) (yes.r call env s) want) t)
    (fun d call env s => dG d fun _ => no.r call env s) v call env s) h
  cases hv : env.get p with
  | bad => rw [hv] at h2; cases h2
  | i kk n => rw [hv] at h2; cases h2
  | b t =>
    rw [hv] at h2
    refine .inl ⟨t, rfl, ?_⟩
    cases t <;> cases want <;> first | exact .inl ⟨rfl, h2⟩ | exact .inr ⟨rfl, h2⟩
  | d d =>
    rw [hv] at h2
    obtain ⟨l, rfl, h3⟩ := dG_L (h2 : (dG d fun _ => no.r call env s).L = some L)
    exact .inr ⟨l, rfl, h3⟩
def guardS (ops : Array Oper) (vis : Vs) (g : Option (Nat × Bool)) (yes no : KF) : KF := match g with
  | none => yes
  | some (j, want) => match ops.toList[j]? with
    | some oj => match oj.dst with
      | some d => match posOf vis d with
        | some p => gdF (natG p getP) want yes no
        | none => badF
      | none => badF
    | none => badF
def opsS (Γ : Cx) (P : Program) (N : Nat) (ops : Array Oper) (vis0 : Vs) (nx : KF) : List Oper → Nat → Vs → KF
  | [], _, _ => nx
  | o :: rest, fr, vis => match o.dst with
    | none => guardS ops vis o.guard (opF Γ P vis o.op noS (opsS Γ P N ops vis0 nx rest fr vis)) (opsS Γ P N ops vis0 nx rest fr vis)
    | some t => cond (Nat.blt t N)
      (match posOf vis0 t with
      | some p => guardS ops vis o.guard (opF Γ P vis o.op (natS p setP) (opsS Γ P N ops vis0 nx rest fr vis)) (skipF (natS p setP) (opsS Γ P N ops vis0 nx rest fr vis))
      | none => guardS ops vis o.guard (opF Γ P vis o.op (natS fr setP) (opsS Γ P N ops vis0 nx rest (fr + 1) ((t, fr) :: vis)))
          (skipF (natS fr setP) (opsS Γ P N ops vis0 nx rest (fr + 1) ((t, fr) :: vis)))) badF
end

section
variable {Γ : Cx} {ρ : Rh} {P : Program} {θ θ' : Tz} {s s' : St} {w w' : World} {N : Nat} {fn : Func} {vis0 : Vs}
structure OutsK (ρ : Rh) (P : Program) (fn : Func) (vis0 : Vs) (N : Nat) (θ : Tz) (s : St) (w : World) (L : List XK) (Q : Exit → Act → World → Prop) : Prop where
  n : ∀ env' s', XK.n env' s' ∈ L → ∀ θ' a' w', Gon ρ θ s w θ' s' w' → EnvOk ρ θ' (visE vis0 env') a' → SzOk N a' → Q .normal a' w'
  x : ∀ i env' s', XK.x i env' s' ∈ L → ∀ θ' a' w', Gon ρ θ s w θ' s' w' → EnvOk ρ θ' (visE vis0 env') a' → SzOk N a' → Q (.exit i) a' w'
  r : ∀ d s', XK.r d s' ∈ L → ∀ θ' a' w' v, Gon ρ θ s w θ' s' w' → W ρ θ' d v → (results fn a'.tmps).run P w' = .ok v w' → SzOk N a' → Q .ret a' w'
theorem OutsK.go {L L' : List XK} {Q : Exit → Act → World → Prop} (h : OutsK ρ P fn vis0 N θ s w L Q) (g : Gon ρ θ s w θ' s' w') (hs : ∀ z ∈ L', z ∈ L) : OutsK ρ P fn vis0 N θ' s' w' L' Q :=
  ⟨fun e s1 h1 θ1 a1 w1 g1 => h.n e s1 (hs _ h1) θ1 a1 w1 (g.trans g1), fun i e s1 h1 θ1 a1 w1 g1 => h.x i e s1 (hs _ h1) θ1 a1 w1 (g.trans g1), fun d s1 h1 θ1 a1 w1 v g1 => h.r d s1 (hs _ h1) θ1 a1 w1 v (g.trans g1)⟩
def Snd (ρ : Rh) (P : Program) (fn : Func) (vis0 : Vs) (N : Nat) (vis : Vs) (F : KF) (G : (Exit → Act → World → Prop) → Act → World → Prop) : Prop :=
  ∀ call, CallOk ρ P call → ∀ env θ s a w L Q, Sat ρ θ s w → EnvOk ρ θ (visE vis env) a → SzOk N a → (F.r call env s).L = some L → OutsK ρ P fn vis0 N θ s w L Q → G Q a w
theorem badF_snd {vis : Vs} {G : (Exit → Act → World → Prop) → Act → World → Prop} : Snd ρ P fn vis0 N vis badF G := fun _ _ _ _ _ _ _ _ _ _ _ _ h => by cases h
theorem visE_set {vis vis' : Vs} {env : EK} {t p : Nat} {v : KV} (hp : p < 40) (h : StepP vis vis' t p) {m : Nat} {d : DV} (hd : visE vis' (env.set p v) m = some d) : (m = t ∧ v.dv = some d) ∨ (m ≠ t ∧ visE vis env m = some d) := by
  unfold visE at hd
  split at hd
  · rename_i q hq
    rw [EK.get_set _ _ _ _ hp] at hd
    by_cases hm : m = t
    · subst hm
      rw [h.1] at hq; cases hq
      rw [if_pos rfl] at hd
      exact .inl ⟨rfl, hd⟩
    · obtain ⟨h1, h2⟩ := h.2 m q hm hq
      rw [if_neg (fun e => h1 e.symm)] at hd
      exact .inr ⟨hm, by simp only [visE, h2, hd]⟩
  · cases hd
theorem put_ok {vis vis' : Vs} {env : EK} {a : Act} {t p : Nat} {kv : KV} {d : DV} {v : Value} (hp : p < 40) (hst : StepP vis vis' t p) (he : EnvOk ρ θ (visE vis env) a) (hkv : kv.dv = some d) (hv : W ρ θ d v) (hN : SzOk N a) (ht : Nat.blt t N = true) :
    EnvOk ρ θ (visE vis' (env.set p kv)) (a.put (some t) v) ∧ SzOk N (a.put (some t) v) := by
  have ht' := nblt ht
  refine ⟨fun m d' hm => ?_, ⟨by simpa [Act.put] using hN.1, hN.2⟩⟩
  rcases visE_set hp hst hm with ⟨rfl, h1⟩ | ⟨h1, h2⟩
  · rw [hkv] at h1; cases h1
    exact ⟨v, by simp [Act.put, hN.1, ht'], hv⟩
  · obtain ⟨u, h3, h4⟩ := he m d' h2
    exact ⟨u, by simp [Act.put, Array.getElem?_setIfInBounds_ne (fun e => h1 e.symm), h3], h4⟩
abbrev Beh (Gn : (Exit → Act → World → Prop) → Act → World → Prop) (Z : (Exit → Act → World → Prop) → Exit → Act → World → Prop) (Q : Exit → Act → World → Prop) : Exit → Act → World → Prop := Exit.then (Gn Q) (Z Q)
theorem guard_wanted {ops : Array Oper} {vis : Vs} {env : EK} {a : Act} (he : EnvOk ρ θ (visE vis env) a) {o : Oper} {call : CallF} {yes no : KF} {L : List XK} (h : ((guardS ops vis o.guard yes no).r call env s).L = some L) :
    (Region.wanted o (yielded ops a.tmps) = true ∧ (yes.r call env s).L = some L) ∨ (Region.wanted o (yielded ops a.tmps) = false ∧ (no.r call env s).L = some L) := by
  unfold guardS at h
  split at h
  · rename_i hg
    exact .inl ⟨guardD_sound (ops := ops) he (by simp only [guardD, hg]), h⟩
  · rename_i j want hg
    split at h <;> try (cases h; done)
    rename_i oj hj
    split at h <;> try (cases h; done)
    rename_i t ht
    split at h <;> try (cases h; done)
    rename_i p hp
    have hv : visE vis env t = (env.get p).dv := by simp only [visE, hp]
    rw [natG_eq] at h
    rcases gdF_L h with ⟨b, h1, ⟨e1, e2⟩ | ⟨e1, e2⟩⟩ | ⟨l, h1, e2⟩
    · exact .inl ⟨guardD_sound (ops := ops) he (by simp only [guardD, hg, hj, ht, hv, h1, e1]), e2⟩
    · exact .inr ⟨guardD_sound (ops := ops) he (by simp only [guardD, hg, hj, ht, hv, h1, e1]), e2⟩
    · exact .inr ⟨guardD_sound (ops := ops) he (by simp only [guardD, hg, hj, ht, hv, h1]), e2⟩
theorem opsS_snd (hΓ : CxOk Γ ρ) {ops : Array Oper} {nx : KF} {Gn : (Exit → Act → World → Prop) → Act → World → Prop} (hnx : Snd ρ P fn vis0 N vis0 nx Gn) {Z : (Exit → Act → World → Prop) → Exit → Act → World → Prop} : ∀ (os : List Oper) (fr : Nat) (vis : Vs), Good vis fr → VLe vis0 vis →
    Snd ρ P fn vis0 N vis (opsS Γ P N ops vis0 nx os fr vis) (fun Q a w => wpList P ops (Beh Gn Z Q) os a w)
  | [], fr, vis, _, hle => fun call hC env θ s a w L Q hs he hN h ho =>
      hnx call hC env θ s a w L Q hs (fun t d hd => he t d (by
        unfold visE at hd ⊢
        split at hd
        · rename_i p hp
          rw [hle t p hp]; exact hd
        · cases hd)) hN h ho
  | o :: rest, fr, vis, hgood, hle => fun call hC env θ s a w L Q hs he hN h ho => by
    unfold opsS at h
    unfold wpList
    split at h
    · rename_i hd
      have ih := opsS_snd (ops := ops) hΓ hnx (Z := Z) rest fr vis hgood hle
      rcases guard_wanted he h with ⟨hw, h2⟩ | ⟨hw, h2⟩
      · rw [if_pos hw]
        left
        obtain ⟨outs, h3, h4⟩ := opF_L h2
        refine stepD_sound hΓ hC hs he h3 _ _ fun d s' θ' v w' hin g hv => ?_
        obtain ⟨kv, _, L', h6, h7⟩ := h4 _ hin
        rw [hd]
        exact ih call hC env θ' s' a w' L' Q g.sat (he.mono g.ext) hN h6 (ho.go g h7)
      · rw [if_neg (by rw [hw]; simp)]
        rw [hd]
        exact ih call hC env θ s a w L Q hs he hN h2 ho
    · rename_i t hd
      cases hc : Nat.blt t N with
      | false => rw [hc] at h; cases h
      | true =>
        rw [hc, _root_.cond_true] at h
        have go : ∀ {vis' : Vs} {fr' p : Nat}, StepP vis vis' t p → Good vis' fr' → VLe vis0 vis' →
            ((guardS ops vis o.guard (opF Γ P vis o.op (natS p setP) (opsS Γ P N ops vis0 nx rest fr' vis')) (skipF (natS p setP) (opsS Γ P N ops vis0 nx rest fr' vis'))).r call env s).L = some L →
            if Region.wanted o (yielded ops a.tmps) then o.wp P a w (wpList P ops (Beh Gn Z Q) rest) (Beh Gn Z Q) ∨ (o.asks P a w ∧ LetsOut (Beh Gn Z Q)) else wpList P ops (Beh Gn Z Q) rest (a.put o.dst undef) w := by
          intro vis' fr' p hst hg' hl' h
          have ih := opsS_snd (ops := ops) hΓ hnx (Z := Z) rest fr' vis' hg' hl'
          rw [natS_eq] at h
          rcases guard_wanted he h with ⟨hw, h2⟩ | ⟨hw, h2⟩
          · rw [if_pos hw]
            left
            obtain ⟨outs, h3, h4⟩ := opF_L h2
            refine stepD_sound hΓ hC hs he h3 _ _ fun d s' θ' v w' hin g hv => ?_
            obtain ⟨kv, h5, L', h6, h7⟩ := h4 _ hin
            obtain ⟨hp, h8⟩ := setP_L h6
            obtain ⟨q1, q2⟩ := put_ok (N := N) hp hst (he.mono g.ext) h5 hv hN hc
            rw [hd]
            exact ih call hC _ θ' s' _ w' L' Q g.sat q1 q2 h8 (ho.go g h7)
          · rw [if_neg (by rw [hw]; simp)]
            rw [skipF_eq] at h2
            obtain ⟨hp, h8⟩ := setP_L h2
            obtain ⟨q1, q2⟩ := put_ok (N := N) (kv := .d noD) (d := noD) (v := undef) hp hst he rfl (by simp only [noD, W]) hN hc
            rw [hd]
            exact ih call hC _ θ s _ w L Q hs q1 q2 h8 ho
        split at h
        · rename_i p hp
          exact go (hgood.step (hle t p hp)) hgood hle h
        · rename_i hp
          obtain ⟨e1, e2⟩ := hgood.new (t := t)
          exact go e1 e2 (fun m q hq => by
            have hm : m ≠ t := fun e => by subst e; rw [hp] at hq; cases hq
            rw [posOf_other hm]; exact hle m q hq) h
end
end
end Go.Q

