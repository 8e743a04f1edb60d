/- Part 14 of what the closing text rests on. -/
import Derived.Test.YtlbfenfepmmihaaH13
import Derived.Test.YtlbfenfepmmihaaRows
/- Laws of tracks of pieces. -/
set_option maxRecDepth 100000
namespace Go.ZM
open Go.Z Go.ZR
/-- Nothing in order is left beyond. -/
def okS (t : Trk) : Prop := okT t ∧ w32 (t.c + 1) ∉ t.ks
theorem new_ok (f : Int) : okS (newF f) := by
  unfold okS okT newF inU w32
  refine ⟨⟨by simp only; omega, by simp, by simp, by simp⟩, by simp⟩
theorem on_done : ∀ (n : Nat) {t : Trk}, okT t → t.ks.length < n → w32 ((onF n t).c + 1) ∉ (onF n t).ks
  | 0, _, _, h => absurd h (Nat.not_lt_zero _)
  | n + 1, t, h, hl => by
    unfold onF
    split
    · rename_i hm
      have := tstep_ok h hm
      exact on_done n this.1 (by show (delK t.ks _).length < n; omega)
    · rename_i hm; exact hm
theorem again_c (t : Trk) (x : Int) : (againF t x).c = t.c := by unfold againF; split <;> rfl
theorem again_ks (t : Trk) (x : Int) : (againF t x).ks = t.ks := by unfold againF; split <;> rfl
theorem got_okS {t : Trk} {x : Int} (h : okS t) (hx : inU x) : okS (gotF t x).1 := by
  refine ⟨tgot_ok h.1 hx, ?_⟩
  by_cases h1 : w32 (x - t.c) = 0 ∨ 2147483648 ≤ w32 (x - t.c) ∨ x ∈ t.ks
  · rw [got_again h1]
    simp only [again_c, again_ks]
    exact h.2
  · by_cases h2 : 512 < w32 (x - t.c)
    · rw [got_far h1 h2]; exact h.2
    · rw [got_new h1 h2]
      exact on_done _ (tput_ok h.1 hx (fun e => h1 (.inl e)) h2) (Nat.lt_succ_self _)
theorem on_len : ∀ (n : Nat) {t : Trk}, okT t → (onF n t).ks.length ≤ t.ks.length
  | 0, _, _ => Nat.le_refl _
  | n + 1, t, h => by
    unfold onF
    split
    · rename_i hm
      have h1 := tstep_ok h hm
      have h2 := on_len n h1.1
      simp only at h2
      omega
    · exact Nat.le_refl _
theorem put_len (ks : List Int) (x : Int) : (putK ks x).length ≤ ks.length + 1 := by
  unfold putK
  cases midx ks x <;> simp [mputK]
theorem got_len {t : Trk} {x : Int} (h : okT t) (hx : inU x) : (gotF t x).1.ks.length ≤ t.ks.length + 1 := by
  by_cases h1 : w32 (x - t.c) = 0 ∨ 2147483648 ≤ w32 (x - t.c) ∨ x ∈ t.ks
  · rw [got_again h1]
    simp only [again_ks]
    omega
  · by_cases h2 : 512 < w32 (x - t.c)
    · rw [got_far h1 h2]; simp only; omega
    · rw [got_new h1 h2]
      have h3 := on_len ((putK t.ks x).length + 1) (tput_ok h hx (fun e => h1 (.inl e)) h2)
      have := put_len t.ks x
      simp only at h3 ⊢
      omega
/-! How often a piece that came, comes again. -/
def iterG : Nat → Trk → Int → Trk
  | 0, t, _ => t
  | n + 1, t, x => (gotF (iterG n t x) x).1
def there (t : Trk) (x : Int) : Prop := w32 (x - t.c) = 0 ∨ 2147483648 ≤ w32 (x - t.c) ∨ x ∈ t.ks
theorem iter_ok {t : Trk} {x : Int} (h : okS t) (hx : inU x) : ∀ n, okS (iterG n t x)
  | 0 => h
  | n + 1 => got_okS (iter_ok h hx n) hx
theorem iter_there {t : Trk} {x : Int} (h : there t x) (hd : t.du.length ≤ 64) : ∀ n, there (iterG n t x) x ∧ (iterG n t x).du.length = min (t.du.length + n) 64
  | 0 => ⟨h, by simp only [iterG]; omega⟩
  | n + 1 => by
    obtain ⟨h1, h2⟩ := iter_there h hd n
    simp only [iterG]
    rw [got_again h1]
    refine ⟨by unfold there at *; rw [again_c, again_ks]; exact h1, ?_⟩
    unfold againF
    split
    · simp only [List.length_append, List.length_singleton, h2]; omega
    · rw [h2]; omega
theorem iter_far {t : Trk} {x : Int} (h : ¬ there t x) (h2 : 512 < w32 (x - t.c)) : ∀ n, iterG n t x = t
  | 0 => rfl
  | n + 1 => by
    simp only [iterG]
    rw [iter_far h h2 n, got_far h h2]
/-- What is in order stays behind. -/
theorem on_gone : ∀ (n : Nat) {t : Trk} {x : Int}, okT t → w32 (t.c - x) + t.ks.length ≤ 512 → there (onF n t) x
  | 0, t, x, _, h => by
    unfold there w32 at *
    simp only [onF]
    omega
  | n + 1, t, x, ho, h => by
    unfold onF
    split
    · rename_i hm
      have h1 := tstep_ok ho hm
      refine on_gone n h1.1 ?_
      have h2 := h1.2
      simp only
      unfold w32 at *
      omega
    · unfold there w32 at *
      omega
theorem on_there : ∀ (n : Nat) {t : Trk} {x : Int}, okT t → x ∈ t.ks → there (onF n t) x
  | 0, _, _, _, h => .inr (.inr h)
  | n + 1, t, x, ho, h => by
    unfold onF
    split
    · rename_i hm
      have h1 := tstep_ok ho hm
      by_cases e : x = w32 (t.c + 1)
      · refine on_gone n h1.1 ?_
        have := near_len ho.2.1 ho.2.2.1
        have h2 := h1.2
        simp only
        rw [e]
        have : w32 (w32 (t.c + 1) - w32 (t.c + 1)) = 0 := by unfold w32; omega
        omega
      · refine on_there n h1.1 ?_
        simp only
        rw [del_eq ho.2.1]
        exact (ho.2.1.mem_erase_iff).2 ⟨e, h⟩
    · exact .inr (.inr h)
theorem got_there {t : Trk} {x : Int} (h : okT t) (hx : inU x) (hf : ¬ 512 < w32 (x - t.c) ∨ there t x) : there (gotF t x).1 x := by
  by_cases h1 : w32 (x - t.c) = 0 ∨ 2147483648 ≤ w32 (x - t.c) ∨ x ∈ t.ks
  · rw [got_again h1]
    unfold there
    simp only [again_c, again_ks]
    exact h1
  · have h2 := hf.resolve_right h1
    rw [got_new h1 h2]
    exact on_there _ (tput_ok h hx (fun e => h1 (.inl e)) h2) (mem_put.2 (.inr rfl))
/-- TsnFar, in plain. -/
def farN (d : Int) (n : Nat) : Nat := if d < 512 then min n 64 else if 2147483647 ≤ d then min (n + 1) 64 else 0
theorem far_dist {f d : Int} (_hf : inU f) (_hd : inU d) : w32 (w32 (f + d) - (newF f).c) = w32 (d + 1) := by
  unfold newF inU w32 at *
  simp only
  omega
theorem far_first {f d : Int} (hf : inU f) (hd : inU d) : (gotF (newF f) (w32 (f + d))).2 = if d < 512 then 0 else if 2147483647 ≤ d then 9 else 10 := by
  have e := far_dist hf hd
  have hn : w32 (f + d) ∉ (newF f).ks := by simp [newF]
  by_cases h1 : d < 512
  · have a : ¬ (w32 (w32 (f + d) - (newF f).c) = 0 ∨ 2147483648 ≤ w32 (w32 (f + d) - (newF f).c) ∨ w32 (f + d) ∈ (newF f).ks) := by
      rw [e]
      rintro (h | h | h)
      · unfold inU w32 at *; omega
      · unfold inU w32 at *; omega
      · exact hn h
    rw [got_new a (by rw [e]; unfold inU w32 at *; omega), if_pos h1]
  · rw [if_neg h1]
    by_cases h2 : 2147483647 ≤ d
    · have a : w32 (w32 (f + d) - (newF f).c) = 0 ∨ 2147483648 ≤ w32 (w32 (f + d) - (newF f).c) ∨ w32 (f + d) ∈ (newF f).ks := by
        rw [e]
        unfold inU w32 at *
        omega
      rw [got_again a, if_pos h2]
    · have a : ¬ (w32 (w32 (f + d) - (newF f).c) = 0 ∨ 2147483648 ≤ w32 (w32 (f + d) - (newF f).c) ∨ w32 (f + d) ∈ (newF f).ks) := by
        rw [e]
        rintro (h | h | h)
        · unfold inU w32 at *; omega
        · unfold inU w32 at *; omega
        · exact hn h
      rw [got_far a (by rw [e]; unfold inU w32 at *; omega), if_neg h2]
theorem on_du' (n : Nat) (t : Trk) : (onF n t).du = t.du := on_du n t
theorem far_there {f d : Int} (hf : inU f) (hd : inU d) (h : d < 512 ∨ 2147483647 ≤ d) : there (gotF (newF f) (w32 (f + d))).1 (w32 (f + d)) := by
  have e := far_dist hf hd
  refine got_there (new_ok f).1 (by unfold inU w32; omega) ?_
  rcases h with h | h
  · left; rw [e]; unfold inU w32 at *; omega
  · right; unfold there; rw [e]; unfold inU w32 at *; omega
theorem far_du {f d : Int} (hf : inU f) (hd : inU d) : (gotF (newF f) (w32 (f + d))).1.du.length = if d < 512 then 0 else if 2147483647 ≤ d then 1 else 0 := by
  have e := far_dist hf hd
  have hn : w32 (f + d) ∉ (newF f).ks := by simp [newF]
  by_cases h2 : 512 ≤ d ∧ 2147483647 ≤ d
  · have a : w32 (w32 (f + d) - (newF f).c) = 0 ∨ 2147483648 ≤ w32 (w32 (f + d) - (newF f).c) ∨ w32 (f + d) ∈ (newF f).ks := by
      rw [e]; unfold inU w32 at *; omega
    rw [got_again a, if_neg (by omega), if_pos h2.2]
    simp [againF, newF]
  · have a : ¬ (w32 (w32 (f + d) - (newF f).c) = 0 ∨ 2147483648 ≤ w32 (w32 (f + d) - (newF f).c) ∨ w32 (f + d) ∈ (newF f).ks) := by
      rw [e]
      rintro (h | h | h)
      · unfold inU w32 at *; omega
      · unfold inU w32 at *; omega
      · exact hn h
    by_cases h1 : d < 512
    · rw [got_new a (by rw [e]; unfold inU w32 at *; omega), if_pos h1, on_du]
      rfl
    · rw [got_far a (by rw [e]; unfold inU w32 at *; omega), if_neg h1, if_neg (by omega)]
      rfl
theorem far_full {f d : Int} (hf : inU f) (hd : inU d) (h1 : ¬ d < 512) (h2 : ¬ 2147483647 ≤ d) : (gotF (newF f) (w32 (f + d))).1 = newF f ∧ ¬ there (newF f) (w32 (f + d)) ∧ 512 < w32 (w32 (f + d) - (newF f).c) := by
  have e := far_dist hf hd
  have hn : w32 (f + d) ∉ (newF f).ks := by simp [newF]
  have a : ¬ (w32 (w32 (f + d) - (newF f).c) = 0 ∨ 2147483648 ≤ w32 (w32 (f + d) - (newF f).c) ∨ w32 (f + d) ∈ (newF f).ks) := by
    rw [e]
    rintro (h | h | h)
    · unfold inU w32 at *; omega
    · unfold inU w32 at *; omega
    · exact hn h
  have b : 512 < w32 (w32 (f + d) - (newF f).c) := by rw [e]; unfold inU w32 at *; omega
  exact ⟨by rw [got_far a b], a, b⟩
def farT (f d : Int) (n : Nat) : Trk := iterG n (gotF (newF f) (w32 (f + d))).1 (w32 (f + d))
theorem farT_ok {f d : Int} (n : Nat) : okS (farT f d n) := iter_ok (got_okS (new_ok f) (by unfold inU w32; omega)) (by unfold inU w32; omega) n
theorem far_len {f d : Int} (hf : inU f) (hd : inU d) (n : Nat) : (farT f d n).du.length = farN d n := by
  unfold farT farN
  by_cases h : d < 512 ∨ 2147483647 ≤ d
  · have h1 := far_there hf hd h
    have h2 := far_du hf hd
    have h3 := (iter_there h1 (by rw [h2]; split <;> (try split) <;> omega) n).2
    rw [h3, h2]
    split
    · omega
    · rename_i h4
      rw [if_pos (h.resolve_left h4), if_pos (h.resolve_left h4)]
      omega
  · obtain ⟨h1, h2, h3⟩ := far_full hf hd (fun e => h (.inl e)) (fun e => h (.inr e))
    rw [h1, iter_far h2 h3, if_neg (fun e => h (.inl e)), if_neg (fun e => h (.inr e))]
    rfl
theorem far_next {f d : Int} (hf : inU f) (hd : inU d) (n : Nat) : (gotF (farT f d n) (w32 (f + d))).2 = if d < 512 then 9 else if 2147483647 ≤ d then 9 else 10 := by
  unfold farT
  by_cases h : d < 512 ∨ 2147483647 ≤ d
  · have h1 := far_there hf hd h
    have h2 := far_du hf hd
    have h3 := (iter_there h1 (by rw [h2]; split <;> (try split) <;> omega) n).1
    rw [got_again h3]
    split
    · rfl
    · rename_i h4
      rw [if_pos (h.resolve_left h4)]
  · obtain ⟨h1, h2, h3⟩ := far_full hf hd (fun e => h (.inl e)) (fun e => h (.inr e))
    rw [h1, iter_far h2 h3, got_far h2 h3, if_neg (fun e => h (.inl e)), if_neg (fun e => h (.inr e))]
end Go.ZM

/- What is told of a track is just what came. -/
set_option maxRecDepth 100000
namespace Go.ZM
open Go.Z Go.ZR
/-- A gap's numbers. -/
def spanI (g : Int × Int) : List Int := (List.range (g.2 - g.1 + 1).toNat).map fun (k : Nat) => g.1 + (k : Int)
def expandG (l : List (Int × Int)) : List Int := l.flatMap spanI
theorem expand_append (l m : List (Int × Int)) : expandG (l ++ m) = expandG l ++ expandG m := List.flatMap_append
theorem span_one (d : Int) : spanI (d, d) = [d] := by
  unfold spanI
  have : (d - d + 1).toNat = 1 := by omega
  simp only [this]
  simp
theorem span_more {a b : Int} (h : a ≤ b) : spanI (a, b + 1) = spanI (a, b) ++ [b + 1] := by
  unfold spanI
  have : (b + 1 - a + 1).toNat = (b - a + 1).toNat + 1 := by omega
  simp only [this, List.range_succ, List.map_append, List.map_cons, List.map_nil]
  congr 2
  omega
theorem last_append (l : List (Int × Int)) (g : Int × Int) : lastG (l ++ [g]) = g := by
  simp [lastG]
theorem set_append (l : List (Int × Int)) (g : Int × Int) (d : Int) : setTo (l ++ [g]) d = l ++ [(g.1, d)] := by
  unfold setTo
  rw [last_append]
  simp
/-- Gaps that are sound, the last number of which is b. -/
def soundG (a : Int) : List (Int × Int) → Int → Prop
  | [], b => b = a
  | g :: l, b => a + 2 ≤ g.1 ∧ g.1 ≤ g.2 ∧ soundG g.2 l b
theorem sound_append : ∀ {l : List (Int × Int)} {a b : Int} {g : Int × Int}, soundG a l b → b + 2 ≤ g.1 → g.1 ≤ g.2 → soundG a (l ++ [g]) g.2
  | [], a, b, g, h, h1, h2 => by simp only [soundG] at h; subst h; simp only [List.nil_append, soundG]; exact ⟨h1, h2, trivial⟩
  | x :: l, a, b, g, h, h1, h2 => by
    simp only [soundG, List.cons_append] at *
    exact ⟨h.1, h.2.1, sound_append h.2.2 h1 h2⟩
theorem sound_last : ∀ {l : List (Int × Int)} {a b : Int} {g : Int × Int}, soundG a (l ++ [g]) b → b = g.2 ∧ g.1 ≤ g.2 ∧ ∃ c, soundG a l c ∧ c + 2 ≤ g.1
  | [], a, b, g, h => by simp only [soundG, List.nil_append] at h; exact ⟨h.2.2, h.2.1, a, rfl, h.1⟩
  | x :: l, a, b, g, h => by
    simp only [soundG, List.cons_append] at h
    obtain ⟨h1, h2, c, h3, h4⟩ := sound_last h.2.2
    exact ⟨h1, h2, c, ⟨h.1, h.2.1, h3⟩, h4⟩
theorem sound_apart : ∀ {l : List (Int × Int)} {a b : Int}, soundG a l b → apartG a l = true
  | [], _, _, _ => rfl
  | g :: l, a, b, h => by
    simp only [soundG] at h
    unfold apartG
    rw [if_neg (by omega)]
    exact sound_apart h.2.2
def incr (b : Int) : List Int → Prop
  | [] => True
  | d :: r => b < d ∧ d ≤ 512 ∧ incr d r
theorem tell_sound : ∀ (D : List Int) {acc : List (Int × Int)} {b : Int}, 0 ≤ b → soundG 0 acc b → incr b D → (acc = [] → ∀ d ∈ D, 2 ≤ d) → acc.length + D.length ≤ 64 →
    expandG (tellG D acc) = expandG acc ++ D ∧ (tellG D acc).length ≤ acc.length + D.length ∧ ∃ b', soundG 0 (tellG D acc) b' ∧ b' ≤ max b 512
  | [], acc, b, h0, h, _, _, _ => by simp only [tellG, List.append_nil, List.length_nil]; exact ⟨trivial, by omega, b, h, by omega⟩
  | d :: r, acc, b, h0, h, hi, hn, hl => by
    simp only [incr] at hi
    simp only [List.length_cons] at hl
    unfold tellG
    rcases List.eq_nil_or_concat acc with e | ⟨l, g, e⟩
    · subst e
      simp only [soundG] at h
      subst h
      have h2 := hn rfl d (by simp)
      rw [if_neg (by simp), if_pos (by simp)]
      obtain ⟨a1, a2, a3⟩ := tell_sound r (acc := [] ++ [(d, d)]) (b := d) (by omega) (by simp only [List.nil_append, soundG]; exact ⟨by omega, by omega, trivial⟩) hi.2.2 (by simp) (by simp only [List.length_nil] at hl; simp only [List.nil_append, List.length_singleton]; omega)
      refine ⟨?_, by simp only [List.nil_append, List.length_cons, List.length_nil] at *; omega, ?_⟩
      · rw [a1, expand_append]
        simp [expandG, span_one]
      · obtain ⟨b', p, q⟩ := a3
        exact ⟨b', p, by omega⟩
    · rw [List.concat_eq_append] at e
      subst e
      obtain ⟨e1, e2, c, h3, h4⟩ := sound_last h
      subst e1
      rw [last_append, set_append]
      have w : w16 (d - 1) = d - 1 := by unfold w16; omega
      rw [w]
      simp only [List.length_append, List.length_singleton] at *
      by_cases hd : g.2 = d - 1
      · rw [if_pos ⟨by omega, hd⟩]
        obtain ⟨a1, a2, a3⟩ := tell_sound r (acc := l ++ [(g.1, d)]) (b := d) (by omega) (sound_append h3 h4 (by simp only; omega)) hi.2.2 (by simp) (by simp; omega)
        refine ⟨?_, by simp only [List.length_append, List.length_cons, List.length_nil] at a2 ⊢; omega, ?_⟩
        · rw [a1, expand_append, expand_append, List.append_assoc, List.append_assoc]
          congr 1
          have e : d = g.2 + 1 := by omega
          subst e
          have := span_more e2
          simp only [expandG, List.flatMap_cons, List.flatMap_nil, List.append_nil]
          rw [this]
          simp
        · obtain ⟨b', p, q⟩ := a3
          exact ⟨b', p, by omega⟩
      · rw [if_neg (fun e => hd e.2), if_pos (by omega)]
        obtain ⟨a1, a2, a3⟩ := tell_sound r (acc := (l ++ [g]) ++ [(d, d)]) (b := d) (by omega) (sound_append h (by simp only; omega) (by simp)) hi.2.2 (by simp) (by simp; omega)
        refine ⟨?_, by simp only [List.length_append, List.length_cons, List.length_nil] at a2 ⊢; omega, ?_⟩
        · rw [a1, expand_append]
          simp [expandG, span_one]
        · obtain ⟨b', p, q⟩ := a3
          exact ⟨b', p, by omega⟩
end Go.ZM
namespace Go.ZM
open Go.Z Go.ZR
theorem farF_near {c k : Int} (_hc : inU c) (_h : near c k) : Go.Proofs.Ytlbfenfepmmihaa.farF c k = w32 (k - c) := by
  unfold Go.Proofs.Ytlbfenfepmmihaa.farF w32
  rfl
theorem dists_eq (t : Trk) (h : okT t) : dists t = (byFar' t.c t.ks).map fun x => w32 (x - t.c) := by
  unfold dists
  refine List.map_congr_left fun x hx => ?_
  have hx : x ∈ t.ks := (List.mergeSort_perm _ _).mem_iff.1 hx
  have := h.2.2.1 x hx
  unfold near at this
  unfold w16
  omega
theorem incr_of_pairwise : ∀ {l : List Int} {b : Int}, (∀ d ∈ l, b < d ∧ d ≤ 512) → l.Pairwise (· < ·) → incr b l
  | [], _, _, _ => trivial
  | d :: r, b, h, hp => by
    have h1 := h d (by simp)
    have hp := List.pairwise_cons.1 hp
    exact ⟨h1.1, h1.2, incr_of_pairwise (fun e he => ⟨hp.1 e he, (h e (by simp [he])).2⟩) hp.2⟩
theorem far_sorted {t : Trk} (h : okT t) : (byFar' t.c t.ks).Pairwise fun x y => w32 (x - t.c) < w32 (y - t.c) := by
  have tr : ∀ a b d : Int, decide (Go.Proofs.Ytlbfenfepmmihaa.farF t.c a ≤ Go.Proofs.Ytlbfenfepmmihaa.farF t.c b) = true → decide (Go.Proofs.Ytlbfenfepmmihaa.farF t.c b ≤ Go.Proofs.Ytlbfenfepmmihaa.farF t.c d) = true → decide (Go.Proofs.Ytlbfenfepmmihaa.farF t.c a ≤ Go.Proofs.Ytlbfenfepmmihaa.farF t.c d) = true := fun a b d h1 h2 => by simp only [decide_eq_true_eq] at *; omega
  have to : ∀ a b : Int, (decide (Go.Proofs.Ytlbfenfepmmihaa.farF t.c a ≤ Go.Proofs.Ytlbfenfepmmihaa.farF t.c b) || decide (Go.Proofs.Ytlbfenfepmmihaa.farF t.c b ≤ Go.Proofs.Ytlbfenfepmmihaa.farF t.c a)) = true := fun a b => by simp only [Bool.or_eq_true, decide_eq_true_eq]; omega
  have hs := List.pairwise_mergeSort tr to t.ks
  have hp := List.mergeSort_perm t.ks fun x y => decide (Go.Proofs.Ytlbfenfepmmihaa.farF t.c x ≤ Go.Proofs.Ytlbfenfepmmihaa.farF t.c y)
  have hd : (byFar' t.c t.ks).Nodup := hp.nodup_iff.2 h.2.1
  have hd' : (byFar' t.c t.ks).Pairwise (· ≠ ·) := hd
  refine List.Pairwise.imp_of_mem (fun {a b} ha hb hab => ?_) (hs.and hd')
  have ha := h.2.2.1 a (hp.mem_iff.1 ha)
  have hb := h.2.2.1 b (hp.mem_iff.1 hb)
  have h1 := hab.1
  simp only [decide_eq_true_eq] at h1
  rw [farF_near h.1 ha, farF_near h.1 hb] at h1
  rcases Int.lt_or_eq_of_le h1 with h2 | h2
  · exact h2
  · exact absurd (near_inj ha hb h2) hab.2
theorem dists_incr {t : Trk} (h : okS t) : incr 0 (dists t) ∧ ∀ d ∈ dists t, 2 ≤ d := by
  have hm : ∀ d ∈ dists t, 2 ≤ d ∧ d ≤ 512 := by
    rw [dists_eq t h.1]
    intro d hd
    obtain ⟨x, hx, rfl⟩ := List.mem_map.1 hd
    have hx : x ∈ t.ks := (List.mergeSort_perm _ _).mem_iff.1 hx
    have h1 := h.1.2.2.1 x hx
    have h2 : x ≠ w32 (t.c + 1) := fun e => h.2 (e ▸ hx)
    have h3 := h.1.1
    unfold near inU w32 at *
    omega
  refine ⟨incr_of_pairwise (fun d hd => ⟨by have := hm d hd; omega, (hm d hd).2⟩) ?_, fun d hd => (hm d hd).1⟩
  rw [dists_eq t h.1, List.pairwise_map]
  exact far_sorted h.1
theorem dists_len (t : Trk) : (dists t).length = t.ks.length := by
  unfold dists
  rw [List.length_map]
  exact List.length_mergeSort _
/-- TsnTells, in plain. -/
theorem tell_law {t : Trk} (h : okS t) (hl : t.ks.length ≤ 60) (win : Int) : expandG (tellF t win).gaps = dists t ∧ (fromHea (tellF t win)).2 = 0 ∧ (tellF t win).gaps.length ≤ 64 := by
  have h1 := dists_incr h
  obtain ⟨a1, a2, b', a3, a4⟩ := tell_sound (dists t) (acc := []) (b := 0) (by omega) (by simp only [soundG]) h1.1 (fun _ => h1.2) (by simp only [List.length_nil]; rw [dists_len]; omega)
  have a2 : (tellF t win).gaps.length ≤ 64 := by
    simp only [tellF]
    simp only [List.length_nil, dists_len] at a2
    omega
  refine ⟨by simpa [tellF, expandG] using a1, ?_, a2⟩
  unfold fromHea
  have : apartF (tellF t win).gaps = true := sound_apart a3
  rw [this, if_neg (by simp), if_neg (by have := h.1.2.2.2; simp only [tellF] at *; omega)]
theorem ahead_at {t : Trk} (h : okT t) {n : Nat} (hn : n < t.ks.length) : (byFar' t.c t.ks).getD n 0 = w32 (t.c + (dists t).getD n 0) := by
  have hlen : n < (byFar' t.c t.ks).length := by rw [show (byFar' t.c t.ks).length = t.ks.length from List.length_mergeSort _]; exact hn
  rw [dists_eq t h]
  simp only [List.getD_eq_getElem?_getD, List.getElem?_map, List.getElem?_eq_getElem hlen, Option.map_some, Option.getD_some]
  have hx : (byFar' t.c t.ks)[n] ∈ t.ks := (List.mergeSort_perm _ _).mem_iff.1 (List.getElem_mem hlen)
  have h1 := (h.2.2.1 _ hx).1
  have h2 := h.1
  unfold inU w32 at *
  omega
end Go.ZM

/- Pieces that come in whichever order. -/
set_option maxRecDepth 100000
namespace Go.ZM
open Go.Z Go.ZR
def off (f : Int) (j : Nat) : Int := w32 (f + j)
theorem off_in (f : Int) (j : Nat) : inU (off f j) := by unfold inU off w32; omega
theorem off_inj {f : Int} {i j : Nat} (hi : i < 300) (hj : j < 300) (h : off f i = off f j) : i = j := by unfold off w32 at h; omega
/-- What came: S; in order as far as ahead of m. -/
structure AnyW (f : Int) (S : Nat → Prop) (m : Nat) (t : Trk) : Prop where
  ok : okT t
  c : t.c = w32 (f + (m : Int) - 1)
  low : ∀ j, j < m → S j
  ks : ∀ x, x ∈ t.ks ↔ ∃ j, m ≤ j ∧ S j ∧ x = off f j
theorem AnyW.le {f : Int} {S : Nat → Prop} {m : Nat} {t : Trk} (h : AnyW f S m t) (hS : ∀ j, S j → j < 256) : m ≤ 256 := by
  rcases Nat.lt_or_ge 256 m with h1 | h1
  · have := hS _ (h.low 256 h1); omega
  · exact h1
theorem any_on {f : Int} {S : Nat → Prop} (hS : ∀ j, S j → j < 256) : ∀ (n : Nat) {m : Nat} {t : Trk}, AnyW f S m t → t.ks.length < n → ∃ m', AnyW f S m' (onF n t) ∧ ¬ S m'
  | 0, _, _, _, h => absurd h (Nat.not_lt_zero _)
  | n + 1, m, t, h, hl => by
    have hm := h.le hS
    have hc : w32 (t.c + 1) = off f m := by rw [h.c]; unfold off w32; omega
    unfold onF
    split
    · rename_i h1
      have h2 := tstep_ok h.ok h1
      obtain ⟨j, hj1, hj2, hj3⟩ := (h.ks _).1 h1
      have hjm : m = j := off_inj (by omega) (by have := hS j hj2; omega) (hc.symm.trans hj3)
      subst hjm
      refine any_on hS n (m := m + 1) ⟨h2.1, ?_, fun i hi => ?_, fun x => ?_⟩ ?_
      · simp only
        rw [hc]; unfold off w32
        omega
      · rcases Nat.lt_or_ge i m with h3 | h3
        · exact h.low i h3
        · have : i = m := by omega
          subst this; exact hj2
      · simp only
        rw [del_eq h.ok.2.1, h.ok.2.1.mem_erase_iff, h.ks, hc]
        constructor
        · rintro ⟨hne, i, hi, hs, rfl⟩
          refine ⟨i, ?_, hs, rfl⟩
          rcases Nat.lt_or_ge m i with h3 | h3
          · exact h3
          · have : i = m := by omega
            subst this; exact absurd rfl hne
        · rintro ⟨i, hi, hs, rfl⟩
          refine ⟨fun e => ?_, i, by omega, hs, rfl⟩
          have := off_inj (by have := hS i hs; omega) (by omega) e
          omega
      · have := h2.2
        simp only
        omega
    · rename_i h1
      refine ⟨m, h, fun hs => h1 ?_⟩
      rw [hc]
      exact (h.ks _).2 ⟨m, Nat.le_refl _, hs, rfl⟩
theorem any_new (f : Int) : AnyW f (fun _ => False) 0 (newF f) := by
  refine ⟨(new_ok f).1, ?_, fun j hj => by omega, fun x => ?_⟩
  · simp [newF]
  · simp [newF]
theorem any_got {f : Int} {S : Nat → Prop} {m j : Nat} {t : Trk} (hS : ∀ j, S j → j < 256) (h : AnyW f S m t) (hj : ¬ S j) (hk : j < 256) :
    (gotF t (off f j)).2 = 0 ∧ ∃ m', AnyW f (fun i => S i ∨ i = j) m' (gotF t (off f j)).1 ∧ ¬ (S m' ∨ m' = j) := by
  have hm := h.le hS
  have hmj : m ≤ j := by
    rcases Nat.lt_or_ge j m with h1 | h1
    · exact absurd (h.low j h1) hj
    · exact h1
  have hd : w32 (off f j - t.c) = (j : Int) - m + 1 := by rw [h.c]; unfold off w32; omega
  have hno : ¬ (w32 (off f j - t.c) = 0 ∨ 2147483648 ≤ w32 (off f j - t.c) ∨ off f j ∈ t.ks) := by
    rintro (e | e | e)
    · omega
    · omega
    · obtain ⟨i, _, hs, e⟩ := (h.ks _).1 e
      have := off_inj (by omega) (by have := hS i hs; omega) e
      subst this; exact hj hs
  rw [got_new hno (by omega)]
  refine ⟨rfl, any_on (fun i hi => hi.elim (hS i) (fun e => e ▸ hk)) _ (m := m) ⟨tput_ok h.ok (off_in f j) (by omega) (by omega), h.c, fun i hi => .inl (h.low i hi), fun x => ?_⟩ (Nat.lt_succ_self _)⟩
  simp only
  rw [mem_put, h.ks]
  constructor
  · rintro (⟨i, h1, h2, h3⟩ | rfl)
    · exact ⟨i, h1, .inl h2, h3⟩
    · exact ⟨j, hmj, .inr rfl, rfl⟩
  · rintro ⟨i, h1, h2 | rfl, h3⟩
    · exact .inl ⟨i, h1, h2, h3⟩
    · exact .inr h3
theorem AnyW.congr {f : Int} {S T : Nat → Prop} {m : Nat} {t : Trk} (h : AnyW f S m t) (e : ∀ i, S i ↔ T i) : AnyW f T m t :=
  ⟨h.ok, h.c, fun j hj => (e j).1 (h.low j hj), fun x => (h.ks x).trans ⟨fun ⟨j, a, b, c⟩ => ⟨j, a, (e j).1 b, c⟩, fun ⟨j, a, b, c⟩ => ⟨j, a, (e j).2 b, c⟩⟩⟩
/-- What came of the first i of a list, but for one. -/
def cameA (a : List Nat) (lost i : Nat) (j : Nat) : Prop := j ∈ a.take i ∧ j ≠ lost
def anyAt (f : Int) (a : List Nat) (lost i : Nat) (t : Trk) : Prop := ∃ m, AnyW f (cameA a lost i) m t ∧ ¬ cameA a lost i m
def okA (k : Nat) (a : List Nat) : Prop := a.Perm (List.range k) ∧ k < 256
theorem okA_len {k : Nat} {a : List Nat} (h : okA k a) : a.length = k := by rw [h.1.length_eq, List.length_range]
theorem okA_lt {k : Nat} {a : List Nat} (h : okA k a) {j : Nat} (hj : j ∈ a) : j < k := by simpa using h.1.mem_iff.1 hj
theorem came_lt {k : Nat} {a : List Nat} (h : okA k a) {lost i j : Nat} (hj : cameA a lost i j) : j < 256 := by
  have := okA_lt h (List.mem_of_mem_take hj.1); have := h.2; omega
theorem any_zero (f : Int) (a : List Nat) (lost : Nat) : anyAt f a lost 0 (newF f) :=
  ⟨0, (any_new f).congr fun i => by simp [cameA], by simp [cameA]⟩
theorem take_more {a : List Nat} {i : Nat} (hi : i < a.length) : a.take (i + 1) = a.take i ++ [a[i]] := by rw [List.take_succ_eq_append_getElem hi]
theorem any_skip {f : Int} {a : List Nat} {lost i : Nat} {t : Trk} (h : anyAt f a lost i t) (hi : i < a.length) (he : a[i] = lost) : anyAt f a lost (i + 1) t := by
  obtain ⟨m, h1, h2⟩ := h
  have e : ∀ j, cameA a lost i j ↔ cameA a lost (i + 1) j := fun j => by
    unfold cameA
    rw [take_more hi, List.mem_append, List.mem_singleton, he]
    exact ⟨fun h => ⟨.inl h.1, h.2⟩, fun h => ⟨h.1.resolve_right h.2, h.2⟩⟩
  exact ⟨m, h1.congr e, fun h => h2 ((e m).2 h)⟩
theorem any_step {k : Nat} {f : Int} {a : List Nat} {lost i : Nat} {t : Trk} (ha : okA k a) (h : anyAt f a lost i t) (hi : i < a.length) (he : a[i] ≠ lost) :
    (gotF t (off f a[i])).2 = 0 ∧ anyAt f a lost (i + 1) (gotF t (off f a[i])).1 := by
  obtain ⟨m, h1, h2⟩ := h
  have hnd : a.Nodup := ha.1.nodup_iff.2 List.nodup_range
  have hno : ¬ cameA a lost i a[i] := fun hc => by
    have hc := hc.1
    obtain ⟨j, hj, e⟩ := List.getElem_of_mem hc
    rw [List.getElem_take] at e
    have hj' : j < i := by simp at hj; omega
    have := (List.getElem_inj hnd).1 e
    omega
  obtain ⟨e0, m', h3, h4⟩ := any_got (fun j hj => came_lt ha hj) h1 hno (by have := okA_lt ha (List.getElem_mem hi); have := ha.2; omega)
  have e : ∀ j, (cameA a lost i j ∨ j = a[i]) ↔ cameA a lost (i + 1) j := fun j => by
    unfold cameA
    rw [take_more hi, List.mem_append, List.mem_singleton]
    constructor
    · rintro (h | rfl)
      · exact ⟨.inl h.1, h.2⟩
      · exact ⟨.inr rfl, he⟩
    · rintro ⟨h | h, h'⟩
      · exact .inl ⟨h, h'⟩
      · exact .inr h
  exact ⟨e0, m', h3.congr e, fun h => h4 ((e m').2 h)⟩
theorem came_all {k : Nat} {a : List Nat} (ha : okA k a) (lost j : Nat) : cameA a lost k j ↔ j < k ∧ j ≠ lost := by
  unfold cameA
  rw [List.take_of_length_le (by rw [okA_len ha]; exact Nat.le_refl _), ha.1.mem_iff, List.mem_range]
/-- Nothing was lost. -/
theorem any_full {k : Nat} {f : Int} {a : List Nat} {lost : Nat} {t : Trk} (ha : okA k a) (h : anyAt f a lost k t) (hl : k ≤ lost) : t.c = w32 (f + (k : Int) - 1) ∧ t.ks = [] := by
  obtain ⟨m, h1, h2⟩ := h
  have e : m = k := by
    rw [came_all ha] at h2
    rcases Nat.lt_or_ge m k with h3 | h3
    · exact absurd ⟨h3, by omega⟩ h2
    · rcases Nat.lt_or_ge k m with h4 | h4
      · have := (came_all ha lost k).1 (h1.low k h4); omega
      · omega
  subst e
  refine ⟨h1.c, List.eq_nil_iff_forall_not_mem.2 fun x hx => ?_⟩
  obtain ⟨j, h3, h4, _⟩ := (h1.ks x).1 hx
  have := (came_all ha lost j).1 h4
  omega
/-- One was lost, and comes. -/
theorem any_lost {k : Nat} {f : Int} {a : List Nat} {lost : Nat} {t : Trk} (ha : okA k a) (h : anyAt f a lost k t) (hl : lost < k) :
    t.c = w32 (f + (lost : Int) - 1) ∧ t.ks.length = k - 1 - lost ∧ (gotF t (off f lost)).2 = 0 ∧ (gotF t (off f lost)).1.c = w32 (f + (k : Int) - 1) := by
  obtain ⟨m, h1, h2⟩ := h
  have hk := ha.2
  have e : m = lost := by
    rw [came_all ha] at h2
    rcases Nat.lt_or_ge lost m with h4 | h4
    · have := (came_all ha lost lost).1 (h1.low lost h4); omega
    · rcases Nat.lt_or_ge m lost with h3 | h3
      · exact absurd ⟨by omega, by omega⟩ h2
      · omega
  subst e
  have hno : ¬ cameA a m k m := fun h => h.2 rfl
  obtain ⟨e0, m', h3, h4⟩ := any_got (fun j hj => came_lt ha hj) h1 hno (by omega)
  have e' : ∀ j, (cameA a m k j ∨ j = m) ↔ j < k := fun j => by
    rw [came_all ha]
    omega
  have h3 := h3.congr e'
  rw [e'] at h4
  refine ⟨h1.c, ?_, e0, ?_⟩
  · have hp : t.ks.Perm ((List.range (k - 1 - m)).map fun i => off f (m + 1 + i)) := by
      refine (List.perm_ext_iff_of_nodup h1.ok.2.1 ?_).2 fun x => ?_
      · rw [List.nodup_iff_pairwise_ne, List.pairwise_map]
        refine List.Pairwise.imp_of_mem (fun {i j} hi hj hne e => hne ?_) List.nodup_range
        simp only [List.mem_range] at hi hj
        have := off_inj (by omega) (by omega) e
        omega
      · rw [h1.ks, List.mem_map]
        constructor
        · rintro ⟨j, h5, h6, rfl⟩
          have := (came_all ha m j).1 h6
          exact ⟨j - (m + 1), by simp only [List.mem_range]; omega, by congr 1; omega⟩
        · rintro ⟨i, h5, rfl⟩
          simp only [List.mem_range] at h5
          exact ⟨m + 1 + i, by omega, (came_all ha m _).2 ⟨by omega, by omega⟩, rfl⟩
    rw [hp.length_eq, List.length_map, List.length_range]
  · have e : m' = k := by
      rcases Nat.lt_or_ge k m' with h5 | h5
      · have := h3.low k h5; omega
      · omega
    rw [h3.c, e]
theorem swap_ok {k : Nat} {a : List Nat} (h : okA k a) {i j : Nat} (hi : i < a.length) (hj : j < a.length) : okA k ((a.set i a[j]).set j a[i]) :=
  ⟨(List.set_set_perm hi hj).trans h.1, h.2⟩
end Go.ZM

/- What is told: walked. -/
namespace Go.ZR
open Go.Proofs
open Go.Z Go.ZM Go.RowKit
set_option maxRecDepth 100000
theorem bytes43 : Try.prog.types[(43 : Nat)].bytes = 4 := by kernel_rfl
theorem size43 : Try.prog.types[(43 : Nat)].size = 2 := by kernel_rfl
theorem byFar_len (c : Int) (ks : List Int) : (byFar' c ks).length = ks.length := List.length_mergeSort _
theorem dist_at {t : Trk} {k : Nat} (hk : k < t.ks.length) : IntKind.u16.wrap (((byFar' t.c t.ks).getD k 0 - t.c) % 4294967296) = (dists t).getD k 0 ∧ (dists t).drop k = (dists t).getD k 0 :: (dists t).drop (k + 1) := by
  have hl : k < (byFar' t.c t.ks).length := by rw [byFar_len]; exact hk
  have hd : k < (dists t).length := by unfold dists; rw [List.length_map]; exact hl
  refine ⟨?_, ?_⟩
  · unfold dists w16 w32
    simp only [List.getD_eq_getElem?_getD, List.getElem?_map, List.getElem?_eq_getElem hl, Option.map_some, Option.getD_some, IntKind.wrap_u16]
  · rw [List.drop_eq_getElem_cons hd]
    simp [hd]
theorem tell_step {t : Trk} {k : Nat} {acc : List (Int × Int)} (hk : k < t.ks.length) (he : tellG ((dists t).drop k) acc = tellG (dists t) []) :
    (0 < acc.length → (lastG acc).2 = w16 ((dists t).getD k 0 - 1) → tellG ((dists t).drop (k + 1)) (setTo acc ((dists t).getD k 0)) = tellG (dists t) []) ∧
    (¬ (0 < acc.length ∧ (lastG acc).2 = w16 ((dists t).getD k 0 - 1)) → acc.length < 64 → tellG ((dists t).drop (k + 1)) (acc ++ [((dists t).getD k 0, (dists t).getD k 0)]) = tellG (dists t) []) ∧
    (¬ (0 < acc.length ∧ (lastG acc).2 = w16 ((dists t).getD k 0 - 1)) → ¬ acc.length < 64 → acc = tellG (dists t) []) := by
  rw [(dist_at hk).2, tellG.eq_2] at he
  refine ⟨fun h1 h2 => ?_, fun h1 h2 => ?_, fun h1 h2 => ?_⟩
  · rw [if_pos ⟨h1, h2⟩] at he; exact he
  · rw [if_neg h1, if_pos h2] at he; exact he
  · rw [if_neg h1, if_neg h2] at he; exact he
theorem tell_last {t : Trk} {k : Nat} {acc : List (Int × Int)} (hk : ¬ k < t.ks.length) (he : tellG ((dists t).drop k) acc = tellG (dists t) []) : acc = tellG (dists t) [] := by
  have hd : (dists t).length ≤ k := by unfold dists; rw [List.length_map, byFar_len]; omega
  rw [List.drop_of_length_le hd] at he
  exact he
theorem getD_set {α : Type} (l : List α) (k i : Nat) (x y : α) : (l.set k x).getD i y = if i = k ∧ k < l.length then x else l.getD i y := by
  simp only [List.getD_eq_getElem?_getD, List.getElem?_set]
  by_cases h : k = i
  · subst h
    by_cases h2 : k < l.length
    · simp [h2]
    · simp [h2]
  · simp [h, Ne.symm h]
theorem getD_app {α : Type} (l m : List α) (i : Nat) (y : α) : (l ++ m).getD i y = if i < l.length then l.getD i y else m.getD (i - l.length) y := by
  simp only [List.getD_eq_getElem?_getD, List.getElem?_append]
  split <;> rfl
theorem beq_no {i n : Nat} (e : ¬ i = n) : i.beq n = false := by
  cases h : i.beq n with
  | false => rfl
  | true => exact absurd (Nat.eq_of_beq_eq_true h) e
theorem blt_yes {i n : Nat} (e : i < n) : i.blt n = true := Nat.ble_eq_true_of_le e
theorem blt_no {i n : Nat} (e : ¬ i < n) : i.blt n = false := by
  cases h : i.blt n with
  | false => rfl
  | true => exact absurd (Nat.le_of_ble_eq_true h) e
theorem gap_set {acc : List (Int × Int)} {d : Int} {n i j : Nat} (hn : n = acc.length - 1) (h0 : 0 < acc.length) (hj : j < 2) :
    (bif i.beq n && Nat.ble 1 j && j.blt 2 then [D.v (Value.int IntKind.u16 d)].getD (j - 1) (gapCell acc i j) else gapCell acc i j) = gapCell (setTo acc d) i j := by
  subst hn
  have hj2 : j = 0 ∨ j = 1 := by omega
  unfold gapCell setTo
  simp only [getD_set]
  by_cases e : i = acc.length - 1
  · subst e
    have e1 : (acc.length - 1).beq (acc.length - 1) = true := by simp
    rw [e1]
    rcases hj2 with rfl | rfl
    · simp only [true_and, if_pos (show acc.length - 1 < acc.length by omega)]
      rfl
    · simp only [true_and, if_pos (show acc.length - 1 < acc.length by omega)]
      rfl
  · rw [beq_no e]
    rcases hj2 with rfl | rfl
    · simp only [e, false_and, if_false]; rfl
    · simp only [e, false_and, if_false]; rfl
theorem gap_push {acc : List (Int × Int)} {d : Int} {i j : Nat} (hi : i < acc.length + 1) (hj : j < 2) :
    (bif i.blt acc.length then gapCell acc i j else [D.v (Value.int IntKind.u16 d), D.v (Value.int IntKind.u16 d)].getD ((i - acc.length) * 2 + j) (D.v undef)) = gapCell (acc ++ [(d, d)]) i j := by
  have hj2 : j = 0 ∨ j = 1 := by omega
  unfold gapCell
  simp only [getD_app]
  by_cases e : i < acc.length
  · rw [blt_yes e]
    rcases hj2 with rfl | rfl <;> simp only [e, if_true] <;> rfl
  · have e2 : i = acc.length := by omega
    subst e2
    rw [blt_no e]
    rcases hj2 with rfl | rfl <;> simp
noncomputable def code22 : Code := match Try.f22.body with | some c => c | none => .skip
set_option maxHeartbeats 4000000 in
theorem vc22 : ∀ (t : Trk) (w : Int), okT t → (((∃ (t_1 : Trk), [O.ptr (127 : Nat) [O.d (D.v (Value.int IntKind.u32 t.c)), O.map (Col.ints IntKind.u32 t.ks) (Col.bools (trues t.ks)), O.own (22 : Nat) (D.ints IntKind.u32 [])]] = [O.ptr (127 : Nat) [O.d (D.v (Value.int IntKind.u32 t_1.c)), O.map (Col.ints IntKind.u32 t_1.ks) (Col.bools (trues t_1.ks)), O.own (22 : Nat) (D.ints IntKind.u32 t_1.du)]] ∧
  okT t_1) ∧ ∃ (g0 : Nat × List (Int × Int)), (g0.fst ≤ t.ks.length ∧ g0.snd.length ≤ (64 : Nat) ∧ tellG (List.drop g0.fst (dists t)) g0.snd = tellG (dists t) []) ∧
  (0 : Int) = (↑g0.fst : Int) ∧ SV.c (Value.int IntKind.u32 t.c) = SV.c (Value.int IntKind.u32 t.c) ∧ SV.c (Value.int IntKind.u32 w) = SV.c (Value.int IntKind.u32 w) ∧
  g0.snd.length = (0 : Nat) ∧ SV.a (1 : Nat) = SV.a (1 : Nat) ∧ (!false && true && true) = true ∧ ∀ (g : Nat × List (Int × Int)), g.fst ≤ t.ks.length ∧ g.snd.length ≤ (64 : Nat) ∧
  tellG (List.drop g.fst (dists t)) g.snd = tellG (dists t) [] → True ∧ sw (decide ((↑g.fst : Int) < (↑(byFar' t.c t.ks).length : Int))) (((0 : Int) ≤ (↑g.fst : Int) ∧
  (↑g.fst : Int) < (↑(byFar' t.c t.ks).length : Int)) ∧ True ∧ True ∧ sw (decide ((0 : Int) < (↑g.snd.length : Int))) (True ∧ ((0 : Int) ≤ IntKind.i64.wrap ((↑g.snd.length : Int) - (1 : Int)) ∧
  IntKind.i64.wrap ((↑g.snd.length : Int) - (1 : Int)) < (↑g.snd.length : Int)) ∧ True ∧ True ∧ sw (decide ((g.snd.getD (IntKind.i64.wrap ((↑g.snd.length : Int) - (1 : Int))).toNat ((0 : Int), (0 : Int))).snd = IntKind.u16.wrap (IntKind.u16.wrap (IntKind.u32.wrap ((byFar' t.c t.ks).getD (↑g.fst : Int).toNat (0 : Int) - t.c)) - (1 : Int)))) (True ∧
  ((0 : Int) ≤ IntKind.i64.wrap ((↑g.snd.length : Int) - (1 : Int)) ∧ IntKind.i64.wrap ((↑g.snd.length : Int) - (1 : Int)) < (↑g.snd.length : Int)) ∧ True ∧
  ∃ (g' : Nat × List (Int × Int)), (g'.fst ≤ t.ks.length ∧ g'.snd.length ≤ (64 : Nat) ∧ tellG (List.drop g'.fst (dists t)) g'.snd = tellG (dists t) []) ∧
  t.ks.length - g'.fst < t.ks.length - g.fst ∧ (IntKind.i64.wrap ((↑g.fst : Int) + (1 : Int)) = (↑g'.fst : Int) ∧ SV.c (Value.int IntKind.u32 t.c) = SV.c (Value.int IntKind.u32 t.c) ∧
  SV.c (Value.int IntKind.u32 w) = SV.c (Value.int IntKind.u32 w) ∧ (g.snd.length = g'.snd.length ∧ ∀ (i : Nat), i < g.snd.length → ∀ (j : Nat), j < (2 : Nat) →
  (bif i.beq (IntKind.i64.wrap ((↑g.snd.length : Int) - (1 : Int))).toNat && Nat.ble (1 : Nat) j && j.blt (2 : Nat) then [D.v (Value.int IntKind.u16 (IntKind.u16.wrap (IntKind.u32.wrap ((byFar' t.c t.ks).getD (↑g.fst : Int).toNat (0 : Int) - t.c))))].getD (j - (1 : Nat)) (gapCell g.snd i j) else gapCell g.snd i j) = gapCell g'.snd i j) ∧
  SV.a (1 : Nat) = SV.a (1 : Nat) ∧ (!(Nat.beq (8 : Nat) (4 : Nat) || false) && (!false && true) && true && ((Nat.ble (8 : Nat) (4 : Nat) || (Nat.beq (4 : Nat) (4 : Nat) || false)) && ((Nat.ble (8 : Nat) (8 : Nat) || (Nat.beq (4 : Nat) (8 : Nat) || false)) && true))) = true) ∧
  (some (SV.c (Value.int IntKind.i64 (↑(byFar' t.c t.ks).length : Int))) = some (SV.c (Value.int IntKind.i64 (↑(byFar' t.c t.ks).length : Int))) ∧ some (SV.a (7 : Nat)) = some (SV.a (7 : Nat)) ∧
  some (SV.p (4 : Nat) (0 : Nat)) = some (SV.p (4 : Nat) (0 : Nat)) ∧ some (SV.p (3 : Nat) (0 : Nat)) = some (SV.p (3 : Nat) (0 : Nat)) ∧ some (SV.p (2 : Nat) (0 : Nat)) = some (SV.p (2 : Nat) (0 : Nat)) ∧
  True) ∧ some (R.own (22 : Nat) (D.ints IntKind.u32 (byFar' t.c t.ks))) = some (R.own (22 : Nat) (D.ints IntKind.u32 (byFar' t.c t.ks))) ∧ some (R.blk (127 : Nat) [SV.c (Value.int IntKind.u32 t.c), SV.m (5 : Nat), SV.a (6 : Nat)]) = some (R.blk (127 : Nat) [SV.c (Value.int IntKind.u32 t.c), SV.m (5 : Nat), SV.a (6 : Nat)]) ∧
  some (R.own (22 : Nat) (D.ints IntKind.u32 [])) = some (R.own (22 : Nat) (D.ints IntKind.u32 [])) ∧ some (R.map (Col.ints IntKind.u32 t.ks) (Col.bools (trues t.ks))) = some (R.map (Col.ints IntKind.u32 t.ks) (Col.bools (trues t.ks))) ∧
  some R.dead = some R.dead ∧ some (R.blk (35 : Nat) [SV.c (Value.int IntKind.u32 (0 : Int)), SV.c (Value.int IntKind.u32 (0 : Int)), SV.nil, SV.nil]) = some (R.blk (35 : Nat) [SV.c (Value.int IntKind.u32 (0 : Int)), SV.c (Value.int IntKind.u32 (0 : Int)), SV.nil, SV.nil]) ∧
  some (R.own (22 : Nat) (D.ints IntKind.u32 t.du)) = some (R.own (22 : Nat) (D.ints IntKind.u32 t.du)) ∧ True) (True ∧ sw (decide ((↑g.snd.length : Int) < (64 : Int))) (True ∧
  (g.snd.length + (1 : Nat)) * Try.prog.types[(43 : Nat)].bytes ≤ (140737488355328 : Nat) ∧ True ∧ ∃ (g' : Nat × List (Int × Int)), (g'.fst ≤ t.ks.length ∧
  g'.snd.length ≤ (64 : Nat) ∧ tellG (List.drop g'.fst (dists t)) g'.snd = tellG (dists t) []) ∧ t.ks.length - g'.fst < t.ks.length - g.fst ∧ (IntKind.i64.wrap ((↑g.fst : Int) + (1 : Int)) = (↑g'.fst : Int) ∧
  SV.c (Value.int IntKind.u32 t.c) = SV.c (Value.int IntKind.u32 t.c) ∧ SV.c (Value.int IntKind.u32 w) = SV.c (Value.int IntKind.u32 w) ∧ (g.snd.length + (1 : Nat) = g'.snd.length ∧
  ∀ (i : Nat), i < g.snd.length + (1 : Nat) → ∀ (j : Nat), j < (2 : Nat) → (bif i.blt g.snd.length then gapCell g.snd i j else [D.v (Value.int IntKind.u16 (IntKind.u16.wrap (IntKind.u32.wrap ((byFar' t.c t.ks).getD (↑g.fst : Int).toNat (0 : Int) - t.c)))), D.v (Value.int IntKind.u16 (IntKind.u16.wrap (IntKind.u32.wrap ((byFar' t.c t.ks).getD (↑g.fst : Int).toNat (0 : Int) - t.c))))].getD ((i - g.snd.length) * Try.prog.types[(43 : Nat)].size + j) (D.v undef)) = gapCell g'.snd i j) ∧
  SV.a (1 : Nat) = SV.a (1 : Nat) ∧ (!(Nat.beq (10 : Nat) (4 : Nat) || false) && (!false && true) && true && ((Nat.ble (8 : Nat) (4 : Nat) || (Nat.beq (4 : Nat) (4 : Nat) || false)) && ((Nat.ble (8 : Nat) (10 : Nat) || (Nat.beq (4 : Nat) (10 : Nat) || false)) && true))) = true) ∧
  (some (SV.c (Value.int IntKind.i64 (↑(byFar' t.c t.ks).length : Int))) = some (SV.c (Value.int IntKind.i64 (↑(byFar' t.c t.ks).length : Int))) ∧ some (SV.a (7 : Nat)) = some (SV.a (7 : Nat)) ∧
  some (SV.p (4 : Nat) (0 : Nat)) = some (SV.p (4 : Nat) (0 : Nat)) ∧ some (SV.p (3 : Nat) (0 : Nat)) = some (SV.p (3 : Nat) (0 : Nat)) ∧ some (SV.p (2 : Nat) (0 : Nat)) = some (SV.p (2 : Nat) (0 : Nat)) ∧
  True) ∧ some (R.own (22 : Nat) (D.ints IntKind.u32 (byFar' t.c t.ks))) = some (R.own (22 : Nat) (D.ints IntKind.u32 (byFar' t.c t.ks))) ∧ some (R.blk (127 : Nat) [SV.c (Value.int IntKind.u32 t.c), SV.m (5 : Nat), SV.a (6 : Nat)]) = some (R.blk (127 : Nat) [SV.c (Value.int IntKind.u32 t.c), SV.m (5 : Nat), SV.a (6 : Nat)]) ∧
  some (R.own (22 : Nat) (D.ints IntKind.u32 [])) = some (R.own (22 : Nat) (D.ints IntKind.u32 [])) ∧ some (R.map (Col.ints IntKind.u32 t.ks) (Col.bools (trues t.ks))) = some (R.map (Col.ints IntKind.u32 t.ks) (Col.bools (trues t.ks))) ∧
  some R.dead = some R.dead ∧ some (R.blk (35 : Nat) [SV.c (Value.int IntKind.u32 (0 : Int)), SV.c (Value.int IntKind.u32 (0 : Int)), SV.nil, SV.nil]) = some (R.blk (35 : Nat) [SV.c (Value.int IntKind.u32 (0 : Int)), SV.c (Value.int IntKind.u32 (0 : Int)), SV.nil, SV.nil]) ∧
  some (R.own (22 : Nat) (D.ints IntKind.u32 t.du)) = some (R.own (22 : Nat) (D.ints IntKind.u32 t.du)) ∧ True) (t.c = t.c ∧ t.ks = t.ks ∧ trues t.ks = trues t.ks ∧
  [] = noI ∧ t.c = (tellF (Trk.mk t.c t.ks t.du) w).cum ∧ w = (tellF (Trk.mk t.c t.ks t.du) w).win ∧ (g.snd.length = (tellF (Trk.mk t.c t.ks t.du) w).gaps.length ∧
  ∀ (i : Nat), i < g.snd.length → ∀ (j : Nat), j < (2 : Nat) → gapCell g.snd i j = gapCell (tellF (Trk.mk t.c t.ks t.du) w).gaps i j) ∧ t.du = (tellF (Trk.mk t.c t.ks t.du) w).dups ∧
  (!(Nat.beq (5 : Nat) (2 : Nat) || (Nat.beq (6 : Nat) (2 : Nat) || (Nat.beq (8 : Nat) (2 : Nat) || (Nat.beq (1 : Nat) (2 : Nat) || false)))) && (!(Nat.beq (6 : Nat) (5 : Nat) || (Nat.beq (8 : Nat) (5 : Nat) || (Nat.beq (1 : Nat) (5 : Nat) || false))) && (!(Nat.beq (8 : Nat) (6 : Nat) || (Nat.beq (1 : Nat) (6 : Nat) || false)) && (!(Nat.beq (1 : Nat) (8 : Nat) || false) && (!false && true)))) && true) = true))) (True ∧
  sw (decide ((↑g.snd.length : Int) < (64 : Int))) (True ∧ (g.snd.length + (1 : Nat)) * Try.prog.types[(43 : Nat)].bytes ≤ (140737488355328 : Nat) ∧ True ∧
  ∃ (g' : Nat × List (Int × Int)), (g'.fst ≤ t.ks.length ∧ g'.snd.length ≤ (64 : Nat) ∧ tellG (List.drop g'.fst (dists t)) g'.snd = tellG (dists t) []) ∧
  t.ks.length - g'.fst < t.ks.length - g.fst ∧ (IntKind.i64.wrap ((↑g.fst : Int) + (1 : Int)) = (↑g'.fst : Int) ∧ SV.c (Value.int IntKind.u32 t.c) = SV.c (Value.int IntKind.u32 t.c) ∧
  SV.c (Value.int IntKind.u32 w) = SV.c (Value.int IntKind.u32 w) ∧ (g.snd.length + (1 : Nat) = g'.snd.length ∧ ∀ (i : Nat), i < g.snd.length + (1 : Nat) →
  ∀ (j : Nat), j < (2 : Nat) → (bif i.blt g.snd.length then gapCell g.snd i j else [D.v (Value.int IntKind.u16 (IntKind.u16.wrap (IntKind.u32.wrap ((byFar' t.c t.ks).getD (↑g.fst : Int).toNat (0 : Int) - t.c)))), D.v (Value.int IntKind.u16 (IntKind.u16.wrap (IntKind.u32.wrap ((byFar' t.c t.ks).getD (↑g.fst : Int).toNat (0 : Int) - t.c))))].getD ((i - g.snd.length) * Try.prog.types[(43 : Nat)].size + j) (D.v undef)) = gapCell g'.snd i j) ∧
  SV.a (1 : Nat) = SV.a (1 : Nat) ∧ (!(Nat.beq (10 : Nat) (4 : Nat) || false) && (!false && true) && true && ((Nat.ble (8 : Nat) (4 : Nat) || (Nat.beq (4 : Nat) (4 : Nat) || false)) && ((Nat.ble (8 : Nat) (10 : Nat) || (Nat.beq (4 : Nat) (10 : Nat) || false)) && true))) = true) ∧
  (some (SV.c (Value.int IntKind.i64 (↑(byFar' t.c t.ks).length : Int))) = some (SV.c (Value.int IntKind.i64 (↑(byFar' t.c t.ks).length : Int))) ∧ some (SV.a (7 : Nat)) = some (SV.a (7 : Nat)) ∧
  some (SV.p (4 : Nat) (0 : Nat)) = some (SV.p (4 : Nat) (0 : Nat)) ∧ some (SV.p (3 : Nat) (0 : Nat)) = some (SV.p (3 : Nat) (0 : Nat)) ∧ some (SV.p (2 : Nat) (0 : Nat)) = some (SV.p (2 : Nat) (0 : Nat)) ∧
  True) ∧ some (R.own (22 : Nat) (D.ints IntKind.u32 (byFar' t.c t.ks))) = some (R.own (22 : Nat) (D.ints IntKind.u32 (byFar' t.c t.ks))) ∧ some (R.blk (127 : Nat) [SV.c (Value.int IntKind.u32 t.c), SV.m (5 : Nat), SV.a (6 : Nat)]) = some (R.blk (127 : Nat) [SV.c (Value.int IntKind.u32 t.c), SV.m (5 : Nat), SV.a (6 : Nat)]) ∧
  some (R.own (22 : Nat) (D.ints IntKind.u32 [])) = some (R.own (22 : Nat) (D.ints IntKind.u32 [])) ∧ some (R.map (Col.ints IntKind.u32 t.ks) (Col.bools (trues t.ks))) = some (R.map (Col.ints IntKind.u32 t.ks) (Col.bools (trues t.ks))) ∧
  some R.dead = some R.dead ∧ some (R.blk (35 : Nat) [SV.c (Value.int IntKind.u32 (0 : Int)), SV.c (Value.int IntKind.u32 (0 : Int)), SV.nil, SV.nil]) = some (R.blk (35 : Nat) [SV.c (Value.int IntKind.u32 (0 : Int)), SV.c (Value.int IntKind.u32 (0 : Int)), SV.nil, SV.nil]) ∧
  some (R.own (22 : Nat) (D.ints IntKind.u32 t.du)) = some (R.own (22 : Nat) (D.ints IntKind.u32 t.du)) ∧ True) (t.c = t.c ∧ t.ks = t.ks ∧ trues t.ks = trues t.ks ∧
  [] = noI ∧ t.c = (tellF (Trk.mk t.c t.ks t.du) w).cum ∧ w = (tellF (Trk.mk t.c t.ks t.du) w).win ∧ (g.snd.length = (tellF (Trk.mk t.c t.ks t.du) w).gaps.length ∧
  ∀ (i : Nat), i < g.snd.length → ∀ (j : Nat), j < (2 : Nat) → gapCell g.snd i j = gapCell (tellF (Trk.mk t.c t.ks t.du) w).gaps i j) ∧ t.du = (tellF (Trk.mk t.c t.ks t.du) w).dups ∧
  (!(Nat.beq (5 : Nat) (2 : Nat) || (Nat.beq (6 : Nat) (2 : Nat) || (Nat.beq (8 : Nat) (2 : Nat) || (Nat.beq (1 : Nat) (2 : Nat) || false)))) && (!(Nat.beq (6 : Nat) (5 : Nat) || (Nat.beq (8 : Nat) (5 : Nat) || (Nat.beq (1 : Nat) (5 : Nat) || false))) && (!(Nat.beq (8 : Nat) (6 : Nat) || (Nat.beq (1 : Nat) (6 : Nat) || false)) && (!(Nat.beq (1 : Nat) (8 : Nat) || false) && (!false && true)))) && true) = true))) (t.c = t.c ∧
  t.ks = t.ks ∧ trues t.ks = trues t.ks ∧ [] = noI ∧ t.c = (tellF (Trk.mk t.c t.ks t.du) w).cum ∧ w = (tellF (Trk.mk t.c t.ks t.du) w).win ∧ (g.snd.length = (tellF (Trk.mk t.c t.ks t.du) w).gaps.length ∧
  ∀ (i : Nat), i < g.snd.length → ∀ (j : Nat), j < (2 : Nat) → gapCell g.snd i j = gapCell (tellF (Trk.mk t.c t.ks t.du) w).gaps i j) ∧ t.du = (tellF (Trk.mk t.c t.ks t.du) w).dups ∧
  (!(Nat.beq (5 : Nat) (2 : Nat) || (Nat.beq (6 : Nat) (2 : Nat) || (Nat.beq (8 : Nat) (2 : Nat) || (Nat.beq (1 : Nat) (2 : Nat) || false)))) && (!(Nat.beq (6 : Nat) (5 : Nat) || (Nat.beq (8 : Nat) (5 : Nat) || (Nat.beq (1 : Nat) (5 : Nat) || false))) && (!(Nat.beq (8 : Nat) (6 : Nat) || (Nat.beq (1 : Nat) (6 : Nat) || false)) && (!(Nat.beq (1 : Nat) (8 : Nat) || false) && (!false && true)))) && true) = true)) ∧
  True) ∧ True := by
  simp only [↓sw_iff, ↓Bool.and_eq_true, ↓decide_eq_true_eq, ↓decide_eq_false_iff_not, ↓Bool.not_eq_true', true_and, and_true, Bool.or_false, Bool.false_or, Nat.ble, Nat.beq, Int.toNat_natCast, trk_eta, IntKind.wrap_u32, bytes43, size43, byFar_len]
  intro t w h
  refine ⟨⟨⟨t.c, t.ks, noI⟩, rfl, ⟨h.1, h.2.1, h.2.2.1, by simp [noI]⟩⟩, (0, []), ⟨by omega, by simp, rfl⟩, rfl, rfl, ?_⟩
  rintro ⟨k, acc⟩ ⟨h1, h2, h3⟩
  simp only at h1 h2 h3 ⊢
  have fin : acc = tellG (dists t) [] → ([] : List Int) = noI ∧ t.c = (tellF t w).cum ∧ w = (tellF t w).win ∧ (acc.length = (tellF t w).gaps.length ∧ ∀ (i : Nat), i < acc.length → ∀ (j : Nat), j < 2 → gapCell acc i j = gapCell (tellF t w).gaps i j) ∧ t.du = (tellF t w).dups := by
    intro e
    have e' : (tellF t w).gaps = acc := e.symm
    rw [e']
    exact ⟨rfl, rfl, rfl, ⟨rfl, fun _ _ _ _ => rfl⟩, rfl⟩
  have hnear := near_len h.2.1 h.2.2.1
  refine ⟨fun hk => ?_, fun hk => fin (tell_last (by omega) h3)⟩
  have hk' : k < t.ks.length := by omega
  obtain ⟨s1, s2, s3⟩ := tell_step hk' h3
  rw [(dist_at hk').1, IntKind.wrap_u16]
  have push : ¬ (0 < acc.length ∧ (lastG acc).2 = w16 ((dists t).getD k 0 - 1)) → ((acc.length : Int) < 64 → (acc.length + 1) * 4 ≤ 140737488355328 ∧ ∃ g' : Nat × List (Int × Int), (g'.fst ≤ t.ks.length ∧ g'.snd.length ≤ 64 ∧ tellG (List.drop g'.fst (dists t)) g'.snd = tellG (dists t) []) ∧ t.ks.length - g'.fst < t.ks.length - k ∧ IntKind.i64.wrap ((k : Int) + 1) = (g'.fst : Int) ∧ acc.length + 1 = g'.snd.length ∧ ∀ (i : Nat), i < acc.length + 1 → ∀ (j : Nat), j < 2 → (bif i.blt acc.length then gapCell acc i j else [D.v (Value.int IntKind.u16 ((dists t).getD k 0)), D.v (Value.int IntKind.u16 ((dists t).getD k 0))].getD ((i - acc.length) * 2 + j) (D.v undef)) = gapCell g'.snd i j) ∧
      (¬ (acc.length : Int) < 64 → ([] : List Int) = noI ∧ t.c = (tellF t w).cum ∧ w = (tellF t w).win ∧ (acc.length = (tellF t w).gaps.length ∧ ∀ (i : Nat), i < acc.length → ∀ (j : Nat), j < 2 → gapCell acc i j = gapCell (tellF t w).gaps i j) ∧ t.du = (tellF t w).dups) := by
    intro hno
    refine ⟨fun hl => ⟨by omega, (k + 1, acc ++ [((dists t).getD k 0, (dists t).getD k 0)]), ⟨by simp only; omega, by simp; omega, s2 hno (by omega)⟩, by simp only; omega, by rw [wrap_i64_id (by omega) (by omega)]; rfl, by simp, fun i hi j hj => gap_push hi hj⟩, fun hl => fin (s3 hno (by omega))⟩
  refine ⟨⟨by omega, by omega⟩, fun h0 => ?_, fun h0 => push (fun e => h0 (by omega))⟩
  have h0' : 0 < acc.length := by omega
  have ew : IntKind.i64.wrap ((acc.length : Int) - 1) = ((acc.length - 1 : Nat) : Int) := by rw [wrap_i64_id (by omega) (by omega)]; omega
  rw [ew, Int.toNat_natCast]
  refine ⟨⟨by omega, by omega⟩, fun he => ⟨⟨by omega, by omega⟩, (k + 1, setTo acc ((dists t).getD k 0)), ⟨by simp only; omega, by simp [setTo]; omega, s1 h0' he⟩, by simp only; omega, by rw [wrap_i64_id (by omega) (by omega)]; rfl, by simp [setTo], fun i hi j hj => gap_set rfl h0' hj⟩, fun he => push (fun e => he e.2)⟩
set_option maxRecDepth 100000 in
theorem ok22 : FnIs Try.prog 22 tellC := by
  refine fnIs (C := (ctrs s3)) (by kernel_rfl) s3_ok Try.func22 (code := code22) (by kernel_rfl) (by kernel_rfl) ?_
  rintro a ⟨t, w, rfl, h⟩
  exact ⟨anns [(6, tellA t)] [10] (dr := [(6, [1, 10, 11, 12, 13, 14, 15, 16, 17, 18, 19, 20, 21, 22, 23, 24, 25, 26])]), kcast (vc22 t w h) (by kernel_rfl)⟩

end Go.ZR

/- The statements about tracks: contracts. -/
set_option maxRecDepth 100000
namespace Go.Z
/-- One contract or another one, as the arguments are. -/
def Ctr.alt (t : List O → Bool) (c d : Ctr) : Ctr where
  own := c.own
  pre := fun a => (t a = true ∧ c.pre a) ∨ (t a = false ∧ d.pre a)
  res := fun a => bif t a then c.res a else d.res a
  upd := fun a => bif t a then c.upd a else d.upd a
  ro := c.ro
  quiet := c.quiet
  gl := c.gl
theorem FnIs.alt {P : Program} {f : Nat} {t : List O → Bool} {c d : Ctr} (h : FnIs P f c) (k : FnIs P f d) (hg : d.gl = c.gl := by rfl) : FnIs P f (Ctr.alt t c d) := by
  refine ⟨fun w A aa vs fp h1 h2 h3 h4 h5 => ?_, h.2⟩
  rcases h4 with ⟨e, h4⟩ | ⟨e, h4⟩
  · have := h.1 w A aa vs fp h1 h2 h3 h4 h5
    have e1 : (Ctr.alt t c d).res aa = c.res aa := by show (bif t aa then _ else _) = _; rw [e]; rfl
    have e2 : (Ctr.alt t c d).upd aa = c.upd aa := by show (bif t aa then _ else _) = _; rw [e]; rfl
    rw [e1, e2]
    exact this
  · have := k.1 w A aa vs fp h1 h2 h3 h4 (by rw [hg]; exact h5)
    have e1 : (Ctr.alt t c d).res aa = d.res aa := by show (bif t aa then _ else _) = _; rw [e]; rfl
    have e2 : (Ctr.alt t c d).upd aa = d.upd aa := by show (bif t aa then _ else _) = _; rw [e]; rfl
    rw [e1, e2]
    exact this
end Go.Z
namespace Go.ZM
open Go.Z Go.ZR
def gotsT (f : Int) (steps : List Int) (i : Nat) : Trk := (steps.take i).foldl (fun t s => (gotF t (w32 (f + s))).1) (newF f)
theorem gots_succ {f : Int} {steps : List Int} {i : Nat} (hi : i < steps.length) : gotsT f steps (i + 1) = (gotF (gotsT f steps i) (w32 (f + steps.getD i 0))).1 := by
  unfold gotsT
  rw [List.take_succ_eq_append_getElem hi, List.foldl_append]
  simp [hi]
theorem gots_ok (f : Int) (steps : List Int) : ∀ i, okS (gotsT f steps i) ∧ (gotsT f steps i).ks.length ≤ i
  | 0 => ⟨new_ok f, by simp [gotsT, newF]⟩
  | i + 1 => by
    obtain ⟨h1, h2⟩ := gots_ok f steps i
    by_cases hi : i < steps.length
    · rw [gots_succ hi]
      have h3 := got_len (t := gotsT f steps i) (x := w32 (f + steps.getD i 0)) h1.1 (by unfold inU w32; omega)
      exact ⟨got_okS h1 (by unfold inU w32; omega), by omega⟩
    · have e : gotsT f steps (i + 1) = gotsT f steps i := by
        unfold gotsT
        rw [List.take_of_length_le (by omega), List.take_of_length_le (by omega)]
      rw [e]
      exact ⟨h1, by omega⟩
def fillL (f : Int) (k i : Nat) : List Int := (List.range i).map (off f) ++ List.replicate (k - i) 0
def gapOf (h : HeaR) (i : Nat) : Int × Int := h.gaps.getD i (0, 0)
def upTo (h : HeaR) (i : Nat) : Nat := (expandG (h.gaps.take i)).length
end Go.ZM
namespace Go.ZR
open Go.Z Go.ZM Go.Proofs
theorem wrap_w32 (x : Int) : IntKind.u32.wrap x = w32 x := IntKind.wrap_u32 x
theorem w32_in (x : Int) : inU (w32 x) := by unfold inU w32; omega
def nilO' : O := .d (.v (.pointer none))
def isP (a : List O) : Bool := match at_ a 0 with
  | .ptr _ _ => true
  | _ => false
def nilC (args : Nat) (pre : List O → Prop) (res : List O → List O) : Ctr where
  own := true :: List.replicate args false
  pre := pre
  res := res
  upd := fun _ => .any :: List.replicate args .any
  ro := false
  quiet := false
def gotZ : Ctr := nilC 1 (fun a => ∃ x, a = [nilO', iO .u32 x]) fun _ => [iO .i64 1]
def cumZ : Ctr := nilC 0 (fun a => a = [nilO']) fun _ => [iO .u32 0]
def aheadZ : Ctr := nilC 0 (fun a => a = [nilO']) fun _ => [.own 22 (.ints .u32 noI)]
def tellZ : Ctr := nilC 1 (fun a => ∃ x, a = [nilO', iO .u32 x]) fun _ => [heaN noHea]
def gotN : Ctr := Ctr.alt isP gotC gotZ
def cumN : Ctr := Ctr.alt isP cumC cumZ
noncomputable def aheadN : Ctr := Ctr.alt isP aheadC aheadZ
noncomputable def tellN : Ctr := Ctr.alt isP tellC tellZ
def nilH : O := .agg [iO .u32 0, iO .u32 0, .d (.recs 2 0 fun _ _ => .v undef), .d (.ints .u32 [])]
def sameZ : Ctr := nC 2 true (fun a => a = [heaO noHea, nilH]) fun _ => [bO true]
def yesC (n : Nat) (pre : List O → Prop) : Ctr := nC n false pre fun _ => [bO true]
def ansTC : Ctr := yesC 0 fun a => a = []
def farC : Ctr := yesC 3 fun a => ∃ f d n, a = [iO .u32 f, iO .u32 d, iO .u8 n] ∧ inU f ∧ inU d ∧ 0 ≤ n ∧ n ≤ 255
def nilsC : Ctr := yesC 2 fun a => ∃ f x, a = [iO .u32 f, iO .u32 x] ∧ inU f ∧ inU x
def tellsC : Ctr := yesC 2 fun a => ∃ f l, a = [iO .u32 f, .d (.ints .u32 l)] ∧ inU f ∧ l.length ≤ 1073741824
def anyC : Ctr := yesC 4 fun a => ∃ f n l s, a = [iO .u32 f, iO .u8 n, .d (.ints .u8 l), iO .u8 s] ∧ inU f ∧ (0 ≤ n ∧ n ≤ 255) ∧ (l.length ≤ 1073741824 ∧ ∀ x ∈ l, 0 ≤ x ∧ x ≤ 255) ∧ 0 ≤ s ∧ s ≤ 255
def blkT (t : Trk) : List OI := [.o (iO .u32 t.c), .o (.map (.ints .u32 t.ks) (.bools (trues t.ks))), .o (.own 22 (.ints .u32 t.du))]
def farA (f d n : Int) : LoopAnn where
  γ := Nat
  pre := fun i => i ≤ (n % 90).toNat
  μ := fun i => (n % 90).toNat - i
  items := fun i => [(10, .c (iO .i64 (i : Int))), (7, .blk (blkT (farT f d i)))]
def gotsA (f : Int) (l : List Int) : LoopAnn where
  γ := Nat
  pre := fun i => i ≤ l.length ∧ i ≤ 60
  μ := fun i => 60 - i
  items := fun i => [(6, .c (iO .i64 (i : Int))), (5, .blk (blkT (gotsT f l i)))]
def gapsA (h : HeaR) : LoopAnn where
  γ := Nat
  pre := fun i => i ≤ h.gaps.length
  μ := fun i => h.gaps.length - i
  items := fun i => [(12, .c (iO .i64 (i : Int))), (11, .c (iO .i64 (upTo h i : Int)))]
def spanA (h : HeaR) (i : Nat) : LoopAnn where
  γ := Nat
  pre := fun j => j ≤ (spanI (gapOf h i)).length
  μ := fun j => (spanI (gapOf h i)).length - j
  items := fun j => [(13, .c (iO .i64 ((gapOf h i).1 + (j : Int)))), (11, .c (iO .i64 ((upTo h i + j : Nat) : Int)))]
def fillA (f : Int) (k : Nat) : LoopAnn where
  γ := Nat
  pre := fun i => i ≤ k
  μ := fun i => k - i
  items := fun i => [(11, .c (iO .i64 (i : Int))), (10, .c (.own 22 (.ints .u32 (fillL f k i))))]
def swapA (f : Int) (k : Nat) (l : List Int) : LoopAnn where
  γ := Nat × List Nat
  pre := fun g => g.1 ≤ l.length ∧ g.1 ≤ k ∧ okA k g.2
  μ := fun g => k - g.1
  items := fun g => [(12, .c (iO .i64 (g.1 : Int))), (10, .c (.own 22 (.ints .u32 (g.2.map (off f)))))]
def comeA (f : Int) (k lost : Nat) : LoopAnn where
  γ := Nat × List Nat × Trk
  pre := fun g => g.1 ≤ k ∧ okA k g.2.1 ∧ anyAt f g.2.1 lost g.1 g.2.2 ∧ okS g.2.2
  μ := fun g => k - g.1
  items := fun g => [(17, .c (iO .i64 (g.1 : Int))), (10, .c (.own 22 (.ints .u32 (g.2.1.map (off f))))), (15, .blk (blkT g.2.2))]
noncomputable def s4 : List (Nat × Ctr) := [(17, newC), (19, gotC), (20, cumC), (21, aheadC)]
theorem s4_ok : COk Try.prog (ctrs s4) := cok_cons ok17 (cok_cons ok19 (cok_cons ok20 (cok_cons ok21 cok_nil)))
def trD (t : Trk) : D := ptrD 127 [.v (.int .u32 t.c), .map (.ints .u32 t.ks) (.bools (trues t.ks)), .ints .u32 t.du]
def trDc : D → Int
  | .ptr _ _ f => match f 0 with
    | .v (.int _ n) => n
    | _ => 0
  | _ => 0
def cumQ : Ctr := nC 1 true (fun a => ∃ t, a = [.d (trD t)]) fun a => [iO .u32 (trDc (dO (at_ a 0)))]
noncomputable def s7 : List (Nat × Ctr) := [(17, newC), (18, ansTC), (19, gotC), (20, cumQ), (21, aheadC), (22, tellC), (23, fromHeaC)]
noncomputable def s5 : List (Nat × Ctr) := [(17, newC), (18, ansTC), (19, gotC), (20, cumC), (21, aheadC), (22, tellC), (23, fromHeaC)]
noncomputable def s6 : List (Nat × Ctr) := [(17, newC), (18, ansTC), (19, gotN), (20, cumN), (21, aheadN), (22, tellN), (24, sameZ)]
end Go.ZR
namespace Go.ZR
open Go.Z Go.ZM Go.Proofs
end Go.ZR

/- Walked. -/
namespace Go.ZR
open Go.Proofs
open Go.Z Go.ZM Go.RowKit
set_option maxRecDepth 100000
noncomputable def i21nc62 : Code := match Try.f62.body with | some c => c | none => .skip
noncomputable def i21n_62 : InlF := ⟨i21nc62, Try.f62.ntmps, Try.f62.results.toList, anns []⟩
noncomputable def i21n : List (Nat × InlF) := [(62, i21n_62)]
theorem i21n_ok : InlsOk Try.prog i21n := ⟨inlOk Try.func62 (by kernel_rfl) (by kernel_rfl), trivial⟩
noncomputable def code18 : Code := match Try.f18.body with | some c => c | none => .skip
set_option maxHeartbeats 4000000 in
theorem vc18 : (∃ (f : Int), [O.d (D.v (Value.int IntKind.u32 (10 : Int)))] = [O.d (D.v (Value.int IntKind.u32 f))]) ∧ (∃ (t : Trk), ∃ (x : Int), [O.ptr (127 : Nat) [O.d (D.v (Value.int IntKind.u32 (newF (10 : Int)).c)), O.map (Col.ints IntKind.u32 (newF (10 : Int)).ks) (Col.bools (trues (newF (10 : Int)).ks)), O.own (22 : Nat) (D.ints IntKind.u32 (newF (10 : Int)).du)], O.d (D.v (Value.int IntKind.u32 (10 : Int)))] = [O.ptr (127 : Nat) [O.d (D.v (Value.int IntKind.u32 t.c)), O.map (Col.ints IntKind.u32 t.ks) (Col.bools (trues t.ks)), O.own (22 : Nat) (D.ints IntKind.u32 t.du)], O.d (D.v (Value.int IntKind.u32 x))] ∧
  okT t ∧ inU x) ∧ True ∧ (∃ (t : Trk), ∃ (x : Int), [O.ptr (127 : Nat) [O.d (D.v (Value.int IntKind.u32 (gotF (Trk.mk (newF (10 : Int)).c (newF (10 : Int)).ks (newF (10 : Int)).du) (10 : Int)).fst.c)), O.map (Col.ints IntKind.u32 (gotF (Trk.mk (newF (10 : Int)).c (newF (10 : Int)).ks (newF (10 : Int)).du) (10 : Int)).fst.ks) (Col.bools (trues (gotF (Trk.mk (newF (10 : Int)).c (newF (10 : Int)).ks (newF (10 : Int)).du) (10 : Int)).fst.ks)), O.own (22 : Nat) (D.ints IntKind.u32 (gotF (Trk.mk (newF (10 : Int)).c (newF (10 : Int)).ks (newF (10 : Int)).du) (10 : Int)).fst.du)], O.d (D.v (Value.int IntKind.u32 (12 : Int)))] = [O.ptr (127 : Nat) [O.d (D.v (Value.int IntKind.u32 t.c)), O.map (Col.ints IntKind.u32 t.ks) (Col.bools (trues t.ks)), O.own (22 : Nat) (D.ints IntKind.u32 t.du)], O.d (D.v (Value.int IntKind.u32 x))] ∧
  okT t ∧ inU x) ∧ True ∧ (∃ (t : Trk), [O.ptr (127 : Nat) [O.d (D.v (Value.int IntKind.u32 (gotF (Trk.mk (gotF (Trk.mk (newF (10 : Int)).c (newF (10 : Int)).ks (newF (10 : Int)).du) (10 : Int)).fst.c (gotF (Trk.mk (newF (10 : Int)).c (newF (10 : Int)).ks (newF (10 : Int)).du) (10 : Int)).fst.ks (gotF (Trk.mk (newF (10 : Int)).c (newF (10 : Int)).ks (newF (10 : Int)).du) (10 : Int)).fst.du) (12 : Int)).fst.c)), O.map (Col.ints IntKind.u32 (gotF (Trk.mk (gotF (Trk.mk (newF (10 : Int)).c (newF (10 : Int)).ks (newF (10 : Int)).du) (10 : Int)).fst.c (gotF (Trk.mk (newF (10 : Int)).c (newF (10 : Int)).ks (newF (10 : Int)).du) (10 : Int)).fst.ks (gotF (Trk.mk (newF (10 : Int)).c (newF (10 : Int)).ks (newF (10 : Int)).du) (10 : Int)).fst.du) (12 : Int)).fst.ks) (Col.bools (trues (gotF (Trk.mk (gotF (Trk.mk (newF (10 : Int)).c (newF (10 : Int)).ks (newF (10 : Int)).du) (10 : Int)).fst.c (gotF (Trk.mk (newF (10 : Int)).c (newF (10 : Int)).ks (newF (10 : Int)).du) (10 : Int)).fst.ks (gotF (Trk.mk (newF (10 : Int)).c (newF (10 : Int)).ks (newF (10 : Int)).du) (10 : Int)).fst.du) (12 : Int)).fst.ks)), O.own (22 : Nat) (D.ints IntKind.u32 (gotF (Trk.mk (gotF (Trk.mk (newF (10 : Int)).c (newF (10 : Int)).ks (newF (10 : Int)).du) (10 : Int)).fst.c (gotF (Trk.mk (newF (10 : Int)).c (newF (10 : Int)).ks (newF (10 : Int)).du) (10 : Int)).fst.ks (gotF (Trk.mk (newF (10 : Int)).c (newF (10 : Int)).ks (newF (10 : Int)).du) (10 : Int)).fst.du) (12 : Int)).fst.du)]] = [O.ptr (127 : Nat) [O.d (D.v (Value.int IntKind.u32 t.c)), O.map (Col.ints IntKind.u32 t.ks) (Col.bools (trues t.ks)), O.own (22 : Nat) (D.ints IntKind.u32 t.du)]]) ∧
  True ∧ (∃ (t : Trk), [O.ptr (127 : Nat) [O.d (D.v (Value.int IntKind.u32 (gotF (Trk.mk (gotF (Trk.mk (newF (10 : Int)).c (newF (10 : Int)).ks (newF (10 : Int)).du) (10 : Int)).fst.c (gotF (Trk.mk (newF (10 : Int)).c (newF (10 : Int)).ks (newF (10 : Int)).du) (10 : Int)).fst.ks (gotF (Trk.mk (newF (10 : Int)).c (newF (10 : Int)).ks (newF (10 : Int)).du) (10 : Int)).fst.du) (12 : Int)).fst.c)), O.map (Col.ints IntKind.u32 (gotF (Trk.mk (gotF (Trk.mk (newF (10 : Int)).c (newF (10 : Int)).ks (newF (10 : Int)).du) (10 : Int)).fst.c (gotF (Trk.mk (newF (10 : Int)).c (newF (10 : Int)).ks (newF (10 : Int)).du) (10 : Int)).fst.ks (gotF (Trk.mk (newF (10 : Int)).c (newF (10 : Int)).ks (newF (10 : Int)).du) (10 : Int)).fst.du) (12 : Int)).fst.ks) (Col.bools (trues (gotF (Trk.mk (gotF (Trk.mk (newF (10 : Int)).c (newF (10 : Int)).ks (newF (10 : Int)).du) (10 : Int)).fst.c (gotF (Trk.mk (newF (10 : Int)).c (newF (10 : Int)).ks (newF (10 : Int)).du) (10 : Int)).fst.ks (gotF (Trk.mk (newF (10 : Int)).c (newF (10 : Int)).ks (newF (10 : Int)).du) (10 : Int)).fst.du) (12 : Int)).fst.ks)), O.own (22 : Nat) (D.ints IntKind.u32 (gotF (Trk.mk (gotF (Trk.mk (newF (10 : Int)).c (newF (10 : Int)).ks (newF (10 : Int)).du) (10 : Int)).fst.c (gotF (Trk.mk (newF (10 : Int)).c (newF (10 : Int)).ks (newF (10 : Int)).du) (10 : Int)).fst.ks (gotF (Trk.mk (newF (10 : Int)).c (newF (10 : Int)).ks (newF (10 : Int)).du) (10 : Int)).fst.du) (12 : Int)).fst.du)]] = [O.ptr (127 : Nat) [O.d (D.v (Value.int IntKind.u32 t.c)), O.map (Col.ints IntKind.u32 t.ks) (Col.bools (trues t.ks)), O.own (22 : Nat) (D.ints IntKind.u32 t.du)]] ∧
  okT t) ∧ True ∧ decide ((↑(1 : Nat) : Int) = (1 : Int)) = true ∧ (true && true) = true := by
  simp only [↓Bool.and_eq_true, ↓decide_eq_true_eq, true_and, and_true, trk_eta]
  have i10 : inU 10 := by unfold inU; omega
  have i12 : inU 12 := by unfold inU; omega
  have h1 := got_okS (new_ok 10) i10
  exact ⟨⟨10, rfl⟩, ⟨_, _, rfl, (new_ok 10).1, i10⟩, ⟨_, _, rfl, h1.1, i12⟩, ⟨_, rfl⟩, ⟨_, rfl, (got_okS h1 i12).1⟩, rfl⟩
set_option maxRecDepth 100000 in
theorem ok18 : FnIs Try.prog 18 ansTC := by
  refine fnIs (C := (ctrs s4)) (by kernel_rfl) s4_ok Try.func18 (code := code18) (by kernel_rfl) (by kernel_rfl) ?_
  rintro a rfl
  exact ⟨anns [] [2], kcast (vc18) (by kernel_rfl)⟩

noncomputable def code19n : Code := match Try.f19.body with | some c => c | none => .skip
set_option maxHeartbeats 4000000 in
theorem vc19n : ∀ (_x : Int), (1 : Int) = (1 : Int) ∧ (true && true) = true := by
  simp only [↓Bool.and_eq_true, and_true, implies_true]
set_option maxRecDepth 100000 in
theorem ok19n : FnIs Try.prog 19 gotZ := by
  refine fnIs (C := (ctrs s2)) (by kernel_rfl) s2_ok Try.func19 (code := code19n) (by kernel_rfl) (by kernel_rfl) ?_
  rintro a ⟨x, rfl⟩
  exact ⟨anns [(9, gotA noTrk)] [4] (dr := [(9, [1, 5, 6, 7, 8, 9, 10, 11, 12, 13, 14, 15, 16, 17, 18, 19, 20, 21, 22, 23, 24, 25, 26, 27, 28, 29, 30, 31, 32, 33, 34, 35, 36, 37, 38, 39])]), kcast (vc19n x) (by kernel_rfl)⟩

noncomputable def code20n : Code := match Try.f20.body with | some c => c | none => .skip
set_option maxHeartbeats 4000000 in
theorem vc20n : (0 : Int) = (0 : Int) ∧ (true && true) = true := by
  simp only [↓Bool.and_eq_true, and_true]
set_option maxRecDepth 100000 in
theorem ok20n : FnIs Try.prog 20 cumZ := by
  refine fnIs (C := (ctrs c0)) (by kernel_rfl) c0_ok Try.func20 (code := code20n) (by kernel_rfl) (by kernel_rfl) ?_
  rintro a rfl
  exact ⟨anns [], kcast (vc20n) (by kernel_rfl)⟩

noncomputable def code20q : Code := match Try.f20.body with | some c => c | none => .skip
set_option maxHeartbeats 4000000 in
theorem vc20q : ∀ (t : Trk), t.c = t.c ∧ (true && true) = true := by
  simp only [↓Bool.and_eq_true, and_true, implies_true]
set_option maxRecDepth 100000 in
theorem ok20q : FnIs Try.prog 20 cumQ := by
  refine fnIs (C := (ctrs c0)) (by kernel_rfl) c0_ok Try.func20 (code := code20q) (by kernel_rfl) (by kernel_rfl) ?_
  rintro a ⟨t, rfl⟩
  exact ⟨anns [], kcast (vc20q t) (by kernel_rfl)⟩

noncomputable def code21n : Code := match Try.f21.body with | some c => c | none => .skip
set_option maxHeartbeats 4000000 in
theorem vc21n : noI = [] ∧ (true && true) = true := by
  simp only [↓Bool.and_eq_true, and_true]
  rfl
set_option maxRecDepth 100000 in
theorem ok21n : FnIs Try.prog 21 aheadZ := by
  refine fnIs (C := (ctrsJ Try.prog s1 i21n 1)) (by kernel_rfl) (cokJ (by kernel_rfl) s1_ok i21n_ok) Try.func21 (code := code21n) (by kernel_rfl) (by kernel_rfl) ?_
  rintro a rfl
  exact ⟨anns [], kcast (vc21n) (by kernel_rfl)⟩

noncomputable def code22n : Code := match Try.f22.body with | some c => c | none => .skip
set_option maxHeartbeats 4000000 in
theorem vc22n : ∀ (_x : Int), (0 : Int) = noHea.cum ∧ (0 : Int) = noHea.win ∧ (0 : Nat) = (0 : Nat) ∧ noHea.dups = [] ∧ (true && true) = true := by
  simp only [↓Bool.and_eq_true, true_and, and_true]
  exact fun _ => ⟨rfl, rfl, rfl⟩
set_option maxRecDepth 100000 in
theorem ok22n : FnIs Try.prog 22 tellZ := by
  refine fnIs (C := (ctrs s3)) (by kernel_rfl) s3_ok Try.func22 (code := code22n) (by kernel_rfl) (by kernel_rfl) ?_
  rintro a ⟨x, rfl⟩
  exact ⟨anns [(6, tellA noTrk)] [10] (dr := [(6, [1, 10, 11, 12, 13, 14, 15, 16, 17, 18, 19, 20, 21, 22, 23, 24, 25, 26])]), kcast (vc22n x) (by kernel_rfl)⟩

theorem ok24z : FnIs Try.prog 24 sameZ := ok24.weak fun a ha => by
  subst ha
  exact ⟨[heaO noHea, heaO noHea], ⟨noHea, noHea, rfl, by simp [okHea, noHea, okGs, okDs], by simp [okHea, noHea, okGs, okDs]⟩,
    toL_cons (toO_refl _) (toL_cons (toO_agg (toL_cons (toO_refl _) (toL_cons (toO_refl _) (toL_cons (toO_d (reads_recs fun i hi => absurd hi (Nat.not_lt_zero _))) (toL_refl _))))) (toL_refl _)), rfl, rfl⟩
theorem s5_ok : COk Try.prog (ctrs s5) := cok_cons ok17 (cok_cons ok18 (cok_cons ok19 (cok_cons ok20 (cok_cons ok21 (cok_cons ok22 (cok_cons ok23 cok_nil))))))
theorem s7_ok : COk Try.prog (ctrs s7) := cok_cons ok17 (cok_cons ok18 (cok_cons ok19 (cok_cons ok20q (cok_cons ok21 (cok_cons ok22 (cok_cons ok23 cok_nil))))))
theorem s6_ok : COk Try.prog (ctrs s6) := cok_cons ok17 (cok_cons ok18 (cok_cons (ok19.alt ok19n) (cok_cons (ok20.alt ok20n) (cok_cons (ok21.alt ok21n) (cok_cons (ok22.alt ok22n) (cok_cons ok24z cok_nil))))))
end Go.ZR

/- Walked. -/
namespace Go.ZR
open Go.Proofs
open Go.Z Go.ZM Go.RowKit
set_option maxRecDepth 100000
noncomputable def code5 : Code := match Try.f5.body with | some c => c | none => .skip
set_option maxHeartbeats 4000000 in
theorem vc5 : ∀ (f d : Int), let y := gotF (Trk.mk (newF f).c (newF f).ks (newF f).du) (IntKind.u32.wrap (f + d)); ∀ (n : Int), inU f → inU d → (0 : Int) ≤ n ∧ n ≤ (255 : Int) →
  (∃ (f_1 : Int), [O.d (D.v (Value.int IntKind.u32 f))] = [O.d (D.v (Value.int IntKind.u32 f_1))]) ∧ ([] : List O) = [] ∧ True ∧ (∃ (t : Trk), ∃ (x : Int), [O.ptr (127 : Nat) [O.d (D.v (Value.int IntKind.u32 (newF f).c)), O.map (Col.ints IntKind.u32 (newF f).ks) (Col.bools (trues (newF f).ks)), O.own (22 : Nat) (D.ints IntKind.u32 (newF f).du)], O.d (D.v (Value.int IntKind.u32 (IntKind.u32.wrap (f + d))))] = [O.ptr (127 : Nat) [O.d (D.v (Value.int IntKind.u32 t.c)), O.map (Col.ints IntKind.u32 t.ks) (Col.bools (trues t.ks)), O.own (22 : Nat) (D.ints IntKind.u32 t.du)], O.d (D.v (Value.int IntKind.u32 x))] ∧
  okT t ∧ inU x) ∧ True ∧ sw (decide (d < (512 : Int))) (True ∧ sw (!decide (y.snd = (0 : Int))) (false = true ∧ (true && true) = true) (∃ (g0 : Nat), g0 ≤ (n % (90 : Int)).toNat ∧
  (0 : Int) = (↑g0 : Int) ∧ y.fst.c = (farT f d g0).c ∧ y.fst.ks = (farT f d g0).ks ∧ trues y.fst.ks = trues (farT f d g0).ks ∧ y.fst.du = (farT f d g0).du ∧
  (!(Nat.beq (3 : Nat) (2 : Nat) || (Nat.beq (4 : Nat) (2 : Nat) || false)) && (!(Nat.beq (4 : Nat) (3 : Nat) || false) && (!false && true)) && true) = true ∧
  ∀ (g : Nat), g ≤ (n % (90 : Int)).toNat → (90 : Int) ≠ (0 : Int) ∧ True ∧ sw (decide ((↑g : Int) < IntKind.i64.wrap (n.tmod (90 : Int)))) ((∃ (t : Trk), ∃ (x : Int), [O.ptr (127 : Nat) [O.d (D.v (Value.int IntKind.u32 (farT f d g).c)), O.map (Col.ints IntKind.u32 (farT f d g).ks) (Col.bools (trues (farT f d g).ks)), O.own (22 : Nat) (D.ints IntKind.u32 (farT f d g).du)], O.d (D.v (Value.int IntKind.u32 (IntKind.u32.wrap (f + d))))] = [O.ptr (127 : Nat) [O.d (D.v (Value.int IntKind.u32 t.c)), O.map (Col.ints IntKind.u32 t.ks) (Col.bools (trues t.ks)), O.own (22 : Nat) (D.ints IntKind.u32 t.du)], O.d (D.v (Value.int IntKind.u32 x))] ∧
  okT t ∧ inU x) ∧ True ∧ sw (decide (y.snd = (0 : Int))) (True ∧ sw (!decide ((gotF (Trk.mk (farT f d g).c (farT f d g).ks (farT f d g).du) (IntKind.u32.wrap (f + d))).snd = (9 : Int))) (false = true ∧
  (true && true) = true) (True ∧ sw (!decide (y.snd = (0 : Int))) (True ∧ sw (!decide ((gotF (Trk.mk (farT f d g).c (farT f d g).ks (farT f d g).du) (IntKind.u32.wrap (f + d))).snd = y.snd)) (false = true ∧
  (true && true) = true) (True ∧ ∃ (g' : Nat), g' ≤ (n % (90 : Int)).toNat ∧ (n % (90 : Int)).toNat - g' < (n % (90 : Int)).toNat - g ∧ (IntKind.i64.wrap ((↑g : Int) + (1 : Int)) = (↑g' : Int) ∧
  (gotF (Trk.mk (farT f d g).c (farT f d g).ks (farT f d g).du) (IntKind.u32.wrap (f + d))).fst.c = (farT f d g').c ∧ (gotF (Trk.mk (farT f d g).c (farT f d g).ks (farT f d g).du) (IntKind.u32.wrap (f + d))).fst.ks = (farT f d g').ks ∧
  trues (gotF (Trk.mk (farT f d g).c (farT f d g).ks (farT f d g).du) (IntKind.u32.wrap (f + d))).fst.ks = trues (farT f d g').ks ∧ (gotF (Trk.mk (farT f d g).c (farT f d g).ks (farT f d g).du) (IntKind.u32.wrap (f + d))).fst.du = (farT f d g').du ∧
  (!(Nat.beq (7 : Nat) (2 : Nat) || (Nat.beq (8 : Nat) (2 : Nat) || false)) && (!(Nat.beq (8 : Nat) (7 : Nat) || false) && (!false && true)) && true && ((Nat.ble (5 : Nat) (2 : Nat) || (Nat.beq (2 : Nat) (2 : Nat) || (Nat.beq (3 : Nat) (2 : Nat) || (Nat.beq (4 : Nat) (2 : Nat) || false)))) && ((Nat.ble (5 : Nat) (7 : Nat) || (Nat.beq (2 : Nat) (7 : Nat) || (Nat.beq (3 : Nat) (7 : Nat) || (Nat.beq (4 : Nat) (7 : Nat) || false)))) && ((Nat.ble (5 : Nat) (8 : Nat) || (Nat.beq (2 : Nat) (8 : Nat) || (Nat.beq (3 : Nat) (8 : Nat) || (Nat.beq (4 : Nat) (8 : Nat) || false)))) && true)))) = true) ∧
  (some (SV.c (Value.int IntKind.i64 y.snd)) = some (SV.c (Value.int IntKind.i64 y.snd)) ∧ some (SV.c (Value.int IntKind.u32 (IntKind.u32.wrap (f + d)))) = some (SV.c (Value.int IntKind.u32 (IntKind.u32.wrap (f + d)))) ∧
  some (SV.p (2 : Nat) (0 : Nat)) = some (SV.p (2 : Nat) (0 : Nat)) ∧ some (SV.c (Value.int IntKind.u8 n)) = some (SV.c (Value.int IntKind.u8 n)) ∧ True) ∧
  some R.dead = some R.dead ∧ some R.dead = some R.dead ∧ True)) (True ∧ ∃ (g' : Nat), g' ≤ (n % (90 : Int)).toNat ∧ (n % (90 : Int)).toNat - g' < (n % (90 : Int)).toNat - g ∧
  (IntKind.i64.wrap ((↑g : Int) + (1 : Int)) = (↑g' : Int) ∧ (gotF (Trk.mk (farT f d g).c (farT f d g).ks (farT f d g).du) (IntKind.u32.wrap (f + d))).fst.c = (farT f d g').c ∧
  (gotF (Trk.mk (farT f d g).c (farT f d g).ks (farT f d g).du) (IntKind.u32.wrap (f + d))).fst.ks = (farT f d g').ks ∧ trues (gotF (Trk.mk (farT f d g).c (farT f d g).ks (farT f d g).du) (IntKind.u32.wrap (f + d))).fst.ks = trues (farT f d g').ks ∧
  (gotF (Trk.mk (farT f d g).c (farT f d g).ks (farT f d g).du) (IntKind.u32.wrap (f + d))).fst.du = (farT f d g').du ∧ (!(Nat.beq (7 : Nat) (2 : Nat) || (Nat.beq (8 : Nat) (2 : Nat) || false)) && (!(Nat.beq (8 : Nat) (7 : Nat) || false) && (!false && true)) && true && ((Nat.ble (5 : Nat) (2 : Nat) || (Nat.beq (2 : Nat) (2 : Nat) || (Nat.beq (3 : Nat) (2 : Nat) || (Nat.beq (4 : Nat) (2 : Nat) || false)))) && ((Nat.ble (5 : Nat) (7 : Nat) || (Nat.beq (2 : Nat) (7 : Nat) || (Nat.beq (3 : Nat) (7 : Nat) || (Nat.beq (4 : Nat) (7 : Nat) || false)))) && ((Nat.ble (5 : Nat) (8 : Nat) || (Nat.beq (2 : Nat) (8 : Nat) || (Nat.beq (3 : Nat) (8 : Nat) || (Nat.beq (4 : Nat) (8 : Nat) || false)))) && true)))) = true) ∧
  (some (SV.c (Value.int IntKind.i64 y.snd)) = some (SV.c (Value.int IntKind.i64 y.snd)) ∧ some (SV.c (Value.int IntKind.u32 (IntKind.u32.wrap (f + d)))) = some (SV.c (Value.int IntKind.u32 (IntKind.u32.wrap (f + d)))) ∧
  some (SV.p (2 : Nat) (0 : Nat)) = some (SV.p (2 : Nat) (0 : Nat)) ∧ some (SV.c (Value.int IntKind.u8 n)) = some (SV.c (Value.int IntKind.u8 n)) ∧ True) ∧
  some R.dead = some R.dead ∧ some R.dead = some R.dead ∧ True))) (True ∧ sw (!decide (y.snd = (0 : Int))) (True ∧ sw (!decide ((gotF (Trk.mk (farT f d g).c (farT f d g).ks (farT f d g).du) (IntKind.u32.wrap (f + d))).snd = y.snd)) (false = true ∧
  (true && true) = true) (True ∧ ∃ (g' : Nat), g' ≤ (n % (90 : Int)).toNat ∧ (n % (90 : Int)).toNat - g' < (n % (90 : Int)).toNat - g ∧ (IntKind.i64.wrap ((↑g : Int) + (1 : Int)) = (↑g' : Int) ∧
  (gotF (Trk.mk (farT f d g).c (farT f d g).ks (farT f d g).du) (IntKind.u32.wrap (f + d))).fst.c = (farT f d g').c ∧ (gotF (Trk.mk (farT f d g).c (farT f d g).ks (farT f d g).du) (IntKind.u32.wrap (f + d))).fst.ks = (farT f d g').ks ∧
  trues (gotF (Trk.mk (farT f d g).c (farT f d g).ks (farT f d g).du) (IntKind.u32.wrap (f + d))).fst.ks = trues (farT f d g').ks ∧ (gotF (Trk.mk (farT f d g).c (farT f d g).ks (farT f d g).du) (IntKind.u32.wrap (f + d))).fst.du = (farT f d g').du ∧
  (!(Nat.beq (7 : Nat) (2 : Nat) || (Nat.beq (8 : Nat) (2 : Nat) || false)) && (!(Nat.beq (8 : Nat) (7 : Nat) || false) && (!false && true)) && true && ((Nat.ble (5 : Nat) (2 : Nat) || (Nat.beq (2 : Nat) (2 : Nat) || (Nat.beq (3 : Nat) (2 : Nat) || (Nat.beq (4 : Nat) (2 : Nat) || false)))) && ((Nat.ble (5 : Nat) (7 : Nat) || (Nat.beq (2 : Nat) (7 : Nat) || (Nat.beq (3 : Nat) (7 : Nat) || (Nat.beq (4 : Nat) (7 : Nat) || false)))) && ((Nat.ble (5 : Nat) (8 : Nat) || (Nat.beq (2 : Nat) (8 : Nat) || (Nat.beq (3 : Nat) (8 : Nat) || (Nat.beq (4 : Nat) (8 : Nat) || false)))) && true)))) = true) ∧
  (some (SV.c (Value.int IntKind.i64 y.snd)) = some (SV.c (Value.int IntKind.i64 y.snd)) ∧ some (SV.c (Value.int IntKind.u32 (IntKind.u32.wrap (f + d)))) = some (SV.c (Value.int IntKind.u32 (IntKind.u32.wrap (f + d)))) ∧
  some (SV.p (2 : Nat) (0 : Nat)) = some (SV.p (2 : Nat) (0 : Nat)) ∧ some (SV.c (Value.int IntKind.u8 n)) = some (SV.c (Value.int IntKind.u8 n)) ∧ True) ∧
  some R.dead = some R.dead ∧ some R.dead = some R.dead ∧ True)) (True ∧ ∃ (g' : Nat), g' ≤ (n % (90 : Int)).toNat ∧ (n % (90 : Int)).toNat - g' < (n % (90 : Int)).toNat - g ∧
  (IntKind.i64.wrap ((↑g : Int) + (1 : Int)) = (↑g' : Int) ∧ (gotF (Trk.mk (farT f d g).c (farT f d g).ks (farT f d g).du) (IntKind.u32.wrap (f + d))).fst.c = (farT f d g').c ∧
  (gotF (Trk.mk (farT f d g).c (farT f d g).ks (farT f d g).du) (IntKind.u32.wrap (f + d))).fst.ks = (farT f d g').ks ∧ trues (gotF (Trk.mk (farT f d g).c (farT f d g).ks (farT f d g).du) (IntKind.u32.wrap (f + d))).fst.ks = trues (farT f d g').ks ∧
  (gotF (Trk.mk (farT f d g).c (farT f d g).ks (farT f d g).du) (IntKind.u32.wrap (f + d))).fst.du = (farT f d g').du ∧ (!(Nat.beq (7 : Nat) (2 : Nat) || (Nat.beq (8 : Nat) (2 : Nat) || false)) && (!(Nat.beq (8 : Nat) (7 : Nat) || false) && (!false && true)) && true && ((Nat.ble (5 : Nat) (2 : Nat) || (Nat.beq (2 : Nat) (2 : Nat) || (Nat.beq (3 : Nat) (2 : Nat) || (Nat.beq (4 : Nat) (2 : Nat) || false)))) && ((Nat.ble (5 : Nat) (7 : Nat) || (Nat.beq (2 : Nat) (7 : Nat) || (Nat.beq (3 : Nat) (7 : Nat) || (Nat.beq (4 : Nat) (7 : Nat) || false)))) && ((Nat.ble (5 : Nat) (8 : Nat) || (Nat.beq (2 : Nat) (8 : Nat) || (Nat.beq (3 : Nat) (8 : Nat) || (Nat.beq (4 : Nat) (8 : Nat) || false)))) && true)))) = true) ∧
  (some (SV.c (Value.int IntKind.i64 y.snd)) = some (SV.c (Value.int IntKind.i64 y.snd)) ∧ some (SV.c (Value.int IntKind.u32 (IntKind.u32.wrap (f + d)))) = some (SV.c (Value.int IntKind.u32 (IntKind.u32.wrap (f + d)))) ∧
  some (SV.p (2 : Nat) (0 : Nat)) = some (SV.p (2 : Nat) (0 : Nat)) ∧ some (SV.c (Value.int IntKind.u8 n)) = some (SV.c (Value.int IntKind.u8 n)) ∧ True) ∧
  some R.dead = some R.dead ∧ some R.dead = some R.dead ∧ True))) ((∃ (t : Trk), ∃ (w : Int), [O.ptr (127 : Nat) [O.d (D.v (Value.int IntKind.u32 (farT f d g).c)), O.map (Col.ints IntKind.u32 (farT f d g).ks) (Col.bools (trues (farT f d g).ks)), O.own (22 : Nat) (D.ints IntKind.u32 (farT f d g).du)], O.d (D.v (Value.int IntKind.u32 (0 : Int)))] = [O.ptr (127 : Nat) [O.d (D.v (Value.int IntKind.u32 t.c)), O.map (Col.ints IntKind.u32 t.ks) (Col.bools (trues t.ks)), O.own (22 : Nat) (D.ints IntKind.u32 t.du)], O.d (D.v (Value.int IntKind.u32 w))] ∧
  okT t) ∧ (90 : Int) ≠ (0 : Int) ∧ True ∧ sw (decide (y.snd = (9 : Int))) (True ∧ True ∧ sw (decide (y.snd = (10 : Int))) (True ∧ True ∧ decide ((↑(tellF (Trk.mk (farT f d g).c (farT f d g).ks (farT f d g).du) (0 : Int)).dups.length : Int) = (0 : Int)) = true ∧
  (true && true) = true) (True ∧ sw (decide ((64 : Int) < IntKind.i64.wrap (IntKind.i64.wrap (n.tmod (90 : Int)) + (1 : Int)))) (True ∧ decide ((↑(tellF (Trk.mk (farT f d g).c (farT f d g).ks (farT f d g).du) (0 : Int)).dups.length : Int) = (64 : Int)) = true ∧
  (true && true) = true) (True ∧ decide ((↑(tellF (Trk.mk (farT f d g).c (farT f d g).ks (farT f d g).du) (0 : Int)).dups.length : Int) = IntKind.i64.wrap (IntKind.i64.wrap (n.tmod (90 : Int)) + (1 : Int))) = true ∧
  (true && true) = true))) (True ∧ sw (decide (y.snd = (10 : Int))) (True ∧ True ∧ decide ((↑(tellF (Trk.mk (farT f d g).c (farT f d g).ks (farT f d g).du) (0 : Int)).dups.length : Int) = (0 : Int)) = true ∧
  (true && true) = true) (True ∧ sw (decide ((64 : Int) < IntKind.i64.wrap (n.tmod (90 : Int)))) (True ∧ decide ((↑(tellF (Trk.mk (farT f d g).c (farT f d g).ks (farT f d g).du) (0 : Int)).dups.length : Int) = (64 : Int)) = true ∧
  (true && true) = true) (True ∧ decide ((↑(tellF (Trk.mk (farT f d g).c (farT f d g).ks (farT f d g).du) (0 : Int)).dups.length : Int) = IntKind.i64.wrap (n.tmod (90 : Int))) = true ∧
  (true && true) = true)))))) (True ∧ sw (!decide (d = (4294967295 : Int))) (SV.c (Value.int IntKind.u32 d) = SV.c (Value.int IntKind.u32 d)) True ∧ sw (!decide (d = (4294967295 : Int))) ([!decide (d = (4294967295 : Int))] = [!decide (d = (4294967295 : Int))] ∧
  True ∧ SV.c (Value.bool (decide ((2147483647 : Int) ≤ d))) = SV.c (Value.bool (decide ((2147483647 : Int) ≤ d)))) True ∧ [!decide (d = (4294967295 : Int))] = [!decide (d = (4294967295 : Int))] ∧
  sw (decide (d = (4294967295 : Int)) || decide ((2147483647 : Int) ≤ d)) (True ∧ sw (!decide (y.snd = (9 : Int))) (false = true ∧ (true && true) = true) (∃ (g0 : Nat), g0 ≤ (n % (90 : Int)).toNat ∧
  (0 : Int) = (↑g0 : Int) ∧ y.fst.c = (farT f d g0).c ∧ y.fst.ks = (farT f d g0).ks ∧ trues y.fst.ks = trues (farT f d g0).ks ∧ y.fst.du = (farT f d g0).du ∧
  (!(Nat.beq (3 : Nat) (2 : Nat) || (Nat.beq (4 : Nat) (2 : Nat) || false)) && (!(Nat.beq (4 : Nat) (3 : Nat) || false) && (!false && true)) && true) = true ∧
  ∀ (g : Nat), g ≤ (n % (90 : Int)).toNat → (90 : Int) ≠ (0 : Int) ∧ True ∧ sw (decide ((↑g : Int) < IntKind.i64.wrap (n.tmod (90 : Int)))) ((∃ (t : Trk), ∃ (x : Int), [O.ptr (127 : Nat) [O.d (D.v (Value.int IntKind.u32 (farT f d g).c)), O.map (Col.ints IntKind.u32 (farT f d g).ks) (Col.bools (trues (farT f d g).ks)), O.own (22 : Nat) (D.ints IntKind.u32 (farT f d g).du)], O.d (D.v (Value.int IntKind.u32 (IntKind.u32.wrap (f + d))))] = [O.ptr (127 : Nat) [O.d (D.v (Value.int IntKind.u32 t.c)), O.map (Col.ints IntKind.u32 t.ks) (Col.bools (trues t.ks)), O.own (22 : Nat) (D.ints IntKind.u32 t.du)], O.d (D.v (Value.int IntKind.u32 x))] ∧
  okT t ∧ inU x) ∧ True ∧ sw (decide (y.snd = (0 : Int))) (True ∧ sw (!decide ((gotF (Trk.mk (farT f d g).c (farT f d g).ks (farT f d g).du) (IntKind.u32.wrap (f + d))).snd = (9 : Int))) (false = true ∧
  (true && true) = true) (True ∧ sw (!decide (y.snd = (0 : Int))) (True ∧ sw (!decide ((gotF (Trk.mk (farT f d g).c (farT f d g).ks (farT f d g).du) (IntKind.u32.wrap (f + d))).snd = y.snd)) (false = true ∧
  (true && true) = true) (True ∧ ∃ (g' : Nat), g' ≤ (n % (90 : Int)).toNat ∧ (n % (90 : Int)).toNat - g' < (n % (90 : Int)).toNat - g ∧ (IntKind.i64.wrap ((↑g : Int) + (1 : Int)) = (↑g' : Int) ∧
  (gotF (Trk.mk (farT f d g).c (farT f d g).ks (farT f d g).du) (IntKind.u32.wrap (f + d))).fst.c = (farT f d g').c ∧ (gotF (Trk.mk (farT f d g).c (farT f d g).ks (farT f d g).du) (IntKind.u32.wrap (f + d))).fst.ks = (farT f d g').ks ∧
  trues (gotF (Trk.mk (farT f d g).c (farT f d g).ks (farT f d g).du) (IntKind.u32.wrap (f + d))).fst.ks = trues (farT f d g').ks ∧ (gotF (Trk.mk (farT f d g).c (farT f d g).ks (farT f d g).du) (IntKind.u32.wrap (f + d))).fst.du = (farT f d g').du ∧
  (!(Nat.beq (7 : Nat) (2 : Nat) || (Nat.beq (8 : Nat) (2 : Nat) || false)) && (!(Nat.beq (8 : Nat) (7 : Nat) || false) && (!false && true)) && true && ((Nat.ble (5 : Nat) (2 : Nat) || (Nat.beq (2 : Nat) (2 : Nat) || (Nat.beq (3 : Nat) (2 : Nat) || (Nat.beq (4 : Nat) (2 : Nat) || false)))) && ((Nat.ble (5 : Nat) (7 : Nat) || (Nat.beq (2 : Nat) (7 : Nat) || (Nat.beq (3 : Nat) (7 : Nat) || (Nat.beq (4 : Nat) (7 : Nat) || false)))) && ((Nat.ble (5 : Nat) (8 : Nat) || (Nat.beq (2 : Nat) (8 : Nat) || (Nat.beq (3 : Nat) (8 : Nat) || (Nat.beq (4 : Nat) (8 : Nat) || false)))) && true)))) = true) ∧
  (some (SV.c (Value.int IntKind.i64 y.snd)) = some (SV.c (Value.int IntKind.i64 y.snd)) ∧ some (SV.c (Value.int IntKind.u32 (IntKind.u32.wrap (f + d)))) = some (SV.c (Value.int IntKind.u32 (IntKind.u32.wrap (f + d)))) ∧
  some (SV.p (2 : Nat) (0 : Nat)) = some (SV.p (2 : Nat) (0 : Nat)) ∧ some (SV.c (Value.int IntKind.u8 n)) = some (SV.c (Value.int IntKind.u8 n)) ∧ True) ∧
  some R.dead = some R.dead ∧ some R.dead = some R.dead ∧ True)) (True ∧ ∃ (g' : Nat), g' ≤ (n % (90 : Int)).toNat ∧ (n % (90 : Int)).toNat - g' < (n % (90 : Int)).toNat - g ∧
  (IntKind.i64.wrap ((↑g : Int) + (1 : Int)) = (↑g' : Int) ∧ (gotF (Trk.mk (farT f d g).c (farT f d g).ks (farT f d g).du) (IntKind.u32.wrap (f + d))).fst.c = (farT f d g').c ∧
  (gotF (Trk.mk (farT f d g).c (farT f d g).ks (farT f d g).du) (IntKind.u32.wrap (f + d))).fst.ks = (farT f d g').ks ∧ trues (gotF (Trk.mk (farT f d g).c (farT f d g).ks (farT f d g).du) (IntKind.u32.wrap (f + d))).fst.ks = trues (farT f d g').ks ∧
  (gotF (Trk.mk (farT f d g).c (farT f d g).ks (farT f d g).du) (IntKind.u32.wrap (f + d))).fst.du = (farT f d g').du ∧ (!(Nat.beq (7 : Nat) (2 : Nat) || (Nat.beq (8 : Nat) (2 : Nat) || false)) && (!(Nat.beq (8 : Nat) (7 : Nat) || false) && (!false && true)) && true && ((Nat.ble (5 : Nat) (2 : Nat) || (Nat.beq (2 : Nat) (2 : Nat) || (Nat.beq (3 : Nat) (2 : Nat) || (Nat.beq (4 : Nat) (2 : Nat) || false)))) && ((Nat.ble (5 : Nat) (7 : Nat) || (Nat.beq (2 : Nat) (7 : Nat) || (Nat.beq (3 : Nat) (7 : Nat) || (Nat.beq (4 : Nat) (7 : Nat) || false)))) && ((Nat.ble (5 : Nat) (8 : Nat) || (Nat.beq (2 : Nat) (8 : Nat) || (Nat.beq (3 : Nat) (8 : Nat) || (Nat.beq (4 : Nat) (8 : Nat) || false)))) && true)))) = true) ∧
  (some (SV.c (Value.int IntKind.i64 y.snd)) = some (SV.c (Value.int IntKind.i64 y.snd)) ∧ some (SV.c (Value.int IntKind.u32 (IntKind.u32.wrap (f + d)))) = some (SV.c (Value.int IntKind.u32 (IntKind.u32.wrap (f + d)))) ∧
  some (SV.p (2 : Nat) (0 : Nat)) = some (SV.p (2 : Nat) (0 : Nat)) ∧ some (SV.c (Value.int IntKind.u8 n)) = some (SV.c (Value.int IntKind.u8 n)) ∧ True) ∧
  some R.dead = some R.dead ∧ some R.dead = some R.dead ∧ True))) (True ∧ sw (!decide (y.snd = (0 : Int))) (True ∧ sw (!decide ((gotF (Trk.mk (farT f d g).c (farT f d g).ks (farT f d g).du) (IntKind.u32.wrap (f + d))).snd = y.snd)) (false = true ∧
  (true && true) = true) (True ∧ ∃ (g' : Nat), g' ≤ (n % (90 : Int)).toNat ∧ (n % (90 : Int)).toNat - g' < (n % (90 : Int)).toNat - g ∧ (IntKind.i64.wrap ((↑g : Int) + (1 : Int)) = (↑g' : Int) ∧
  (gotF (Trk.mk (farT f d g).c (farT f d g).ks (farT f d g).du) (IntKind.u32.wrap (f + d))).fst.c = (farT f d g').c ∧ (gotF (Trk.mk (farT f d g).c (farT f d g).ks (farT f d g).du) (IntKind.u32.wrap (f + d))).fst.ks = (farT f d g').ks ∧
  trues (gotF (Trk.mk (farT f d g).c (farT f d g).ks (farT f d g).du) (IntKind.u32.wrap (f + d))).fst.ks = trues (farT f d g').ks ∧ (gotF (Trk.mk (farT f d g).c (farT f d g).ks (farT f d g).du) (IntKind.u32.wrap (f + d))).fst.du = (farT f d g').du ∧
  (!(Nat.beq (7 : Nat) (2 : Nat) || (Nat.beq (8 : Nat) (2 : Nat) || false)) && (!(Nat.beq (8 : Nat) (7 : Nat) || false) && (!false && true)) && true && ((Nat.ble (5 : Nat) (2 : Nat) || (Nat.beq (2 : Nat) (2 : Nat) || (Nat.beq (3 : Nat) (2 : Nat) || (Nat.beq (4 : Nat) (2 : Nat) || false)))) && ((Nat.ble (5 : Nat) (7 : Nat) || (Nat.beq (2 : Nat) (7 : Nat) || (Nat.beq (3 : Nat) (7 : Nat) || (Nat.beq (4 : Nat) (7 : Nat) || false)))) && ((Nat.ble (5 : Nat) (8 : Nat) || (Nat.beq (2 : Nat) (8 : Nat) || (Nat.beq (3 : Nat) (8 : Nat) || (Nat.beq (4 : Nat) (8 : Nat) || false)))) && true)))) = true) ∧
  (some (SV.c (Value.int IntKind.i64 y.snd)) = some (SV.c (Value.int IntKind.i64 y.snd)) ∧ some (SV.c (Value.int IntKind.u32 (IntKind.u32.wrap (f + d)))) = some (SV.c (Value.int IntKind.u32 (IntKind.u32.wrap (f + d)))) ∧
  some (SV.p (2 : Nat) (0 : Nat)) = some (SV.p (2 : Nat) (0 : Nat)) ∧ some (SV.c (Value.int IntKind.u8 n)) = some (SV.c (Value.int IntKind.u8 n)) ∧ True) ∧
  some R.dead = some R.dead ∧ some R.dead = some R.dead ∧ True)) (True ∧ ∃ (g' : Nat), g' ≤ (n % (90 : Int)).toNat ∧ (n % (90 : Int)).toNat - g' < (n % (90 : Int)).toNat - g ∧
  (IntKind.i64.wrap ((↑g : Int) + (1 : Int)) = (↑g' : Int) ∧ (gotF (Trk.mk (farT f d g).c (farT f d g).ks (farT f d g).du) (IntKind.u32.wrap (f + d))).fst.c = (farT f d g').c ∧
  (gotF (Trk.mk (farT f d g).c (farT f d g).ks (farT f d g).du) (IntKind.u32.wrap (f + d))).fst.ks = (farT f d g').ks ∧ trues (gotF (Trk.mk (farT f d g).c (farT f d g).ks (farT f d g).du) (IntKind.u32.wrap (f + d))).fst.ks = trues (farT f d g').ks ∧
  (gotF (Trk.mk (farT f d g).c (farT f d g).ks (farT f d g).du) (IntKind.u32.wrap (f + d))).fst.du = (farT f d g').du ∧ (!(Nat.beq (7 : Nat) (2 : Nat) || (Nat.beq (8 : Nat) (2 : Nat) || false)) && (!(Nat.beq (8 : Nat) (7 : Nat) || false) && (!false && true)) && true && ((Nat.ble (5 : Nat) (2 : Nat) || (Nat.beq (2 : Nat) (2 : Nat) || (Nat.beq (3 : Nat) (2 : Nat) || (Nat.beq (4 : Nat) (2 : Nat) || false)))) && ((Nat.ble (5 : Nat) (7 : Nat) || (Nat.beq (2 : Nat) (7 : Nat) || (Nat.beq (3 : Nat) (7 : Nat) || (Nat.beq (4 : Nat) (7 : Nat) || false)))) && ((Nat.ble (5 : Nat) (8 : Nat) || (Nat.beq (2 : Nat) (8 : Nat) || (Nat.beq (3 : Nat) (8 : Nat) || (Nat.beq (4 : Nat) (8 : Nat) || false)))) && true)))) = true) ∧
  (some (SV.c (Value.int IntKind.i64 y.snd)) = some (SV.c (Value.int IntKind.i64 y.snd)) ∧ some (SV.c (Value.int IntKind.u32 (IntKind.u32.wrap (f + d)))) = some (SV.c (Value.int IntKind.u32 (IntKind.u32.wrap (f + d)))) ∧
  some (SV.p (2 : Nat) (0 : Nat)) = some (SV.p (2 : Nat) (0 : Nat)) ∧ some (SV.c (Value.int IntKind.u8 n)) = some (SV.c (Value.int IntKind.u8 n)) ∧ True) ∧
  some R.dead = some R.dead ∧ some R.dead = some R.dead ∧ True))) ((∃ (t : Trk), ∃ (w : Int), [O.ptr (127 : Nat) [O.d (D.v (Value.int IntKind.u32 (farT f d g).c)), O.map (Col.ints IntKind.u32 (farT f d g).ks) (Col.bools (trues (farT f d g).ks)), O.own (22 : Nat) (D.ints IntKind.u32 (farT f d g).du)], O.d (D.v (Value.int IntKind.u32 (0 : Int)))] = [O.ptr (127 : Nat) [O.d (D.v (Value.int IntKind.u32 t.c)), O.map (Col.ints IntKind.u32 t.ks) (Col.bools (trues t.ks)), O.own (22 : Nat) (D.ints IntKind.u32 t.du)], O.d (D.v (Value.int IntKind.u32 w))] ∧
  okT t) ∧ (90 : Int) ≠ (0 : Int) ∧ True ∧ sw (decide (y.snd = (9 : Int))) (True ∧ True ∧ sw (decide (y.snd = (10 : Int))) (True ∧ True ∧ decide ((↑(tellF (Trk.mk (farT f d g).c (farT f d g).ks (farT f d g).du) (0 : Int)).dups.length : Int) = (0 : Int)) = true ∧
  (true && true) = true) (True ∧ sw (decide ((64 : Int) < IntKind.i64.wrap (IntKind.i64.wrap (n.tmod (90 : Int)) + (1 : Int)))) (True ∧ decide ((↑(tellF (Trk.mk (farT f d g).c (farT f d g).ks (farT f d g).du) (0 : Int)).dups.length : Int) = (64 : Int)) = true ∧
  (true && true) = true) (True ∧ decide ((↑(tellF (Trk.mk (farT f d g).c (farT f d g).ks (farT f d g).du) (0 : Int)).dups.length : Int) = IntKind.i64.wrap (IntKind.i64.wrap (n.tmod (90 : Int)) + (1 : Int))) = true ∧
  (true && true) = true))) (True ∧ sw (decide (y.snd = (10 : Int))) (True ∧ True ∧ decide ((↑(tellF (Trk.mk (farT f d g).c (farT f d g).ks (farT f d g).du) (0 : Int)).dups.length : Int) = (0 : Int)) = true ∧
  (true && true) = true) (True ∧ sw (decide ((64 : Int) < IntKind.i64.wrap (n.tmod (90 : Int)))) (True ∧ decide ((↑(tellF (Trk.mk (farT f d g).c (farT f d g).ks (farT f d g).du) (0 : Int)).dups.length : Int) = (64 : Int)) = true ∧
  (true && true) = true) (True ∧ decide ((↑(tellF (Trk.mk (farT f d g).c (farT f d g).ks (farT f d g).du) (0 : Int)).dups.length : Int) = IntKind.i64.wrap (n.tmod (90 : Int))) = true ∧
  (true && true) = true)))))) (True ∧ sw (!decide (y.snd = (10 : Int))) (false = true ∧ (true && true) = true) ((∃ (t : Trk), [O.ptr (127 : Nat) [O.d (D.v (Value.int IntKind.u32 y.fst.c)), O.map (Col.ints IntKind.u32 y.fst.ks) (Col.bools (trues y.fst.ks)), O.own (22 : Nat) (D.ints IntKind.u32 y.fst.du)]] = [O.ptr (127 : Nat) [O.d (D.v (Value.int IntKind.u32 t.c)), O.map (Col.ints IntKind.u32 t.ks) (Col.bools (trues t.ks)), O.own (22 : Nat) (D.ints IntKind.u32 t.du)]] ∧
  okT t) ∧ True ∧ sw (!decide ((↑(byFar' y.fst.c y.fst.ks).length : Int) = (0 : Int))) (false = true ∧ (true && true) = true) (∃ (g0 : Nat), g0 ≤ (n % (90 : Int)).toNat ∧
  (0 : Int) = (↑g0 : Int) ∧ y.fst.c = (farT f d g0).c ∧ y.fst.ks = (farT f d g0).ks ∧ trues y.fst.ks = trues (farT f d g0).ks ∧ y.fst.du = (farT f d g0).du ∧
  (!(Nat.beq (5 : Nat) (2 : Nat) || (Nat.beq (6 : Nat) (2 : Nat) || false)) && (!(Nat.beq (6 : Nat) (5 : Nat) || false) && (!false && true)) && true) = true ∧
  ∀ (g : Nat), g ≤ (n % (90 : Int)).toNat → (90 : Int) ≠ (0 : Int) ∧ True ∧ sw (decide ((↑g : Int) < IntKind.i64.wrap (n.tmod (90 : Int)))) ((∃ (t : Trk), ∃ (x : Int), [O.ptr (127 : Nat) [O.d (D.v (Value.int IntKind.u32 (farT f d g).c)), O.map (Col.ints IntKind.u32 (farT f d g).ks) (Col.bools (trues (farT f d g).ks)), O.own (22 : Nat) (D.ints IntKind.u32 (farT f d g).du)], O.d (D.v (Value.int IntKind.u32 (IntKind.u32.wrap (f + d))))] = [O.ptr (127 : Nat) [O.d (D.v (Value.int IntKind.u32 t.c)), O.map (Col.ints IntKind.u32 t.ks) (Col.bools (trues t.ks)), O.own (22 : Nat) (D.ints IntKind.u32 t.du)], O.d (D.v (Value.int IntKind.u32 x))] ∧
  okT t ∧ inU x) ∧ True ∧ sw (decide (y.snd = (0 : Int))) (True ∧ sw (!decide ((gotF (Trk.mk (farT f d g).c (farT f d g).ks (farT f d g).du) (IntKind.u32.wrap (f + d))).snd = (9 : Int))) (false = true ∧
  (true && true) = true) (True ∧ sw (!decide (y.snd = (0 : Int))) (True ∧ sw (!decide ((gotF (Trk.mk (farT f d g).c (farT f d g).ks (farT f d g).du) (IntKind.u32.wrap (f + d))).snd = y.snd)) (false = true ∧
  (true && true) = true) (True ∧ ∃ (g' : Nat), g' ≤ (n % (90 : Int)).toNat ∧ (n % (90 : Int)).toNat - g' < (n % (90 : Int)).toNat - g ∧ (IntKind.i64.wrap ((↑g : Int) + (1 : Int)) = (↑g' : Int) ∧
  (gotF (Trk.mk (farT f d g).c (farT f d g).ks (farT f d g).du) (IntKind.u32.wrap (f + d))).fst.c = (farT f d g').c ∧ (gotF (Trk.mk (farT f d g).c (farT f d g).ks (farT f d g).du) (IntKind.u32.wrap (f + d))).fst.ks = (farT f d g').ks ∧
  trues (gotF (Trk.mk (farT f d g).c (farT f d g).ks (farT f d g).du) (IntKind.u32.wrap (f + d))).fst.ks = trues (farT f d g').ks ∧ (gotF (Trk.mk (farT f d g).c (farT f d g).ks (farT f d g).du) (IntKind.u32.wrap (f + d))).fst.du = (farT f d g').du ∧
  (!(Nat.beq (10 : Nat) (2 : Nat) || (Nat.beq (11 : Nat) (2 : Nat) || false)) && (!(Nat.beq (11 : Nat) (10 : Nat) || false) && (!false && true)) && true && ((Nat.ble (8 : Nat) (2 : Nat) || (Nat.beq (2 : Nat) (2 : Nat) || (Nat.beq (5 : Nat) (2 : Nat) || (Nat.beq (6 : Nat) (2 : Nat) || false)))) && ((Nat.ble (8 : Nat) (10 : Nat) || (Nat.beq (2 : Nat) (10 : Nat) || (Nat.beq (5 : Nat) (10 : Nat) || (Nat.beq (6 : Nat) (10 : Nat) || false)))) && ((Nat.ble (8 : Nat) (11 : Nat) || (Nat.beq (2 : Nat) (11 : Nat) || (Nat.beq (5 : Nat) (11 : Nat) || (Nat.beq (6 : Nat) (11 : Nat) || false)))) && true)))) = true) ∧
  (some (SV.c (Value.int IntKind.i64 y.snd)) = some (SV.c (Value.int IntKind.i64 y.snd)) ∧ some (SV.c (Value.int IntKind.u32 (IntKind.u32.wrap (f + d)))) = some (SV.c (Value.int IntKind.u32 (IntKind.u32.wrap (f + d)))) ∧
  some (SV.p (2 : Nat) (0 : Nat)) = some (SV.p (2 : Nat) (0 : Nat)) ∧ some (SV.c (Value.int IntKind.u8 n)) = some (SV.c (Value.int IntKind.u8 n)) ∧ True) ∧
  some (R.own (22 : Nat) (D.ints IntKind.u32 (byFar' y.fst.c y.fst.ks))) = some (R.own (22 : Nat) (D.ints IntKind.u32 (byFar' y.fst.c y.fst.ks))) ∧ some R.dead = some R.dead ∧
  some R.dead = some R.dead ∧ some R.dead = some R.dead ∧ some R.dead = some R.dead ∧ True)) (True ∧ ∃ (g' : Nat), g' ≤ (n % (90 : Int)).toNat ∧ (n % (90 : Int)).toNat - g' < (n % (90 : Int)).toNat - g ∧
  (IntKind.i64.wrap ((↑g : Int) + (1 : Int)) = (↑g' : Int) ∧ (gotF (Trk.mk (farT f d g).c (farT f d g).ks (farT f d g).du) (IntKind.u32.wrap (f + d))).fst.c = (farT f d g').c ∧
  (gotF (Trk.mk (farT f d g).c (farT f d g).ks (farT f d g).du) (IntKind.u32.wrap (f + d))).fst.ks = (farT f d g').ks ∧ trues (gotF (Trk.mk (farT f d g).c (farT f d g).ks (farT f d g).du) (IntKind.u32.wrap (f + d))).fst.ks = trues (farT f d g').ks ∧
  (gotF (Trk.mk (farT f d g).c (farT f d g).ks (farT f d g).du) (IntKind.u32.wrap (f + d))).fst.du = (farT f d g').du ∧ (!(Nat.beq (10 : Nat) (2 : Nat) || (Nat.beq (11 : Nat) (2 : Nat) || false)) && (!(Nat.beq (11 : Nat) (10 : Nat) || false) && (!false && true)) && true && ((Nat.ble (8 : Nat) (2 : Nat) || (Nat.beq (2 : Nat) (2 : Nat) || (Nat.beq (5 : Nat) (2 : Nat) || (Nat.beq (6 : Nat) (2 : Nat) || false)))) && ((Nat.ble (8 : Nat) (10 : Nat) || (Nat.beq (2 : Nat) (10 : Nat) || (Nat.beq (5 : Nat) (10 : Nat) || (Nat.beq (6 : Nat) (10 : Nat) || false)))) && ((Nat.ble (8 : Nat) (11 : Nat) || (Nat.beq (2 : Nat) (11 : Nat) || (Nat.beq (5 : Nat) (11 : Nat) || (Nat.beq (6 : Nat) (11 : Nat) || false)))) && true)))) = true) ∧
  (some (SV.c (Value.int IntKind.i64 y.snd)) = some (SV.c (Value.int IntKind.i64 y.snd)) ∧ some (SV.c (Value.int IntKind.u32 (IntKind.u32.wrap (f + d)))) = some (SV.c (Value.int IntKind.u32 (IntKind.u32.wrap (f + d)))) ∧
  some (SV.p (2 : Nat) (0 : Nat)) = some (SV.p (2 : Nat) (0 : Nat)) ∧ some (SV.c (Value.int IntKind.u8 n)) = some (SV.c (Value.int IntKind.u8 n)) ∧ True) ∧
  some (R.own (22 : Nat) (D.ints IntKind.u32 (byFar' y.fst.c y.fst.ks))) = some (R.own (22 : Nat) (D.ints IntKind.u32 (byFar' y.fst.c y.fst.ks))) ∧ some R.dead = some R.dead ∧
  some R.dead = some R.dead ∧ some R.dead = some R.dead ∧ some R.dead = some R.dead ∧ True))) (True ∧ sw (!decide (y.snd = (0 : Int))) (True ∧ sw (!decide ((gotF (Trk.mk (farT f d g).c (farT f d g).ks (farT f d g).du) (IntKind.u32.wrap (f + d))).snd = y.snd)) (false = true ∧
  (true && true) = true) (True ∧ ∃ (g' : Nat), g' ≤ (n % (90 : Int)).toNat ∧ (n % (90 : Int)).toNat - g' < (n % (90 : Int)).toNat - g ∧ (IntKind.i64.wrap ((↑g : Int) + (1 : Int)) = (↑g' : Int) ∧
  (gotF (Trk.mk (farT f d g).c (farT f d g).ks (farT f d g).du) (IntKind.u32.wrap (f + d))).fst.c = (farT f d g').c ∧ (gotF (Trk.mk (farT f d g).c (farT f d g).ks (farT f d g).du) (IntKind.u32.wrap (f + d))).fst.ks = (farT f d g').ks ∧
  trues (gotF (Trk.mk (farT f d g).c (farT f d g).ks (farT f d g).du) (IntKind.u32.wrap (f + d))).fst.ks = trues (farT f d g').ks ∧ (gotF (Trk.mk (farT f d g).c (farT f d g).ks (farT f d g).du) (IntKind.u32.wrap (f + d))).fst.du = (farT f d g').du ∧
  (!(Nat.beq (10 : Nat) (2 : Nat) || (Nat.beq (11 : Nat) (2 : Nat) || false)) && (!(Nat.beq (11 : Nat) (10 : Nat) || false) && (!false && true)) && true && ((Nat.ble (8 : Nat) (2 : Nat) || (Nat.beq (2 : Nat) (2 : Nat) || (Nat.beq (5 : Nat) (2 : Nat) || (Nat.beq (6 : Nat) (2 : Nat) || false)))) && ((Nat.ble (8 : Nat) (10 : Nat) || (Nat.beq (2 : Nat) (10 : Nat) || (Nat.beq (5 : Nat) (10 : Nat) || (Nat.beq (6 : Nat) (10 : Nat) || false)))) && ((Nat.ble (8 : Nat) (11 : Nat) || (Nat.beq (2 : Nat) (11 : Nat) || (Nat.beq (5 : Nat) (11 : Nat) || (Nat.beq (6 : Nat) (11 : Nat) || false)))) && true)))) = true) ∧
  (some (SV.c (Value.int IntKind.i64 y.snd)) = some (SV.c (Value.int IntKind.i64 y.snd)) ∧ some (SV.c (Value.int IntKind.u32 (IntKind.u32.wrap (f + d)))) = some (SV.c (Value.int IntKind.u32 (IntKind.u32.wrap (f + d)))) ∧
  some (SV.p (2 : Nat) (0 : Nat)) = some (SV.p (2 : Nat) (0 : Nat)) ∧ some (SV.c (Value.int IntKind.u8 n)) = some (SV.c (Value.int IntKind.u8 n)) ∧ True) ∧
  some (R.own (22 : Nat) (D.ints IntKind.u32 (byFar' y.fst.c y.fst.ks))) = some (R.own (22 : Nat) (D.ints IntKind.u32 (byFar' y.fst.c y.fst.ks))) ∧ some R.dead = some R.dead ∧
  some R.dead = some R.dead ∧ some R.dead = some R.dead ∧ some R.dead = some R.dead ∧ True)) (True ∧ ∃ (g' : Nat), g' ≤ (n % (90 : Int)).toNat ∧ (n % (90 : Int)).toNat - g' < (n % (90 : Int)).toNat - g ∧
  (IntKind.i64.wrap ((↑g : Int) + (1 : Int)) = (↑g' : Int) ∧ (gotF (Trk.mk (farT f d g).c (farT f d g).ks (farT f d g).du) (IntKind.u32.wrap (f + d))).fst.c = (farT f d g').c ∧
  (gotF (Trk.mk (farT f d g).c (farT f d g).ks (farT f d g).du) (IntKind.u32.wrap (f + d))).fst.ks = (farT f d g').ks ∧ trues (gotF (Trk.mk (farT f d g).c (farT f d g).ks (farT f d g).du) (IntKind.u32.wrap (f + d))).fst.ks = trues (farT f d g').ks ∧
  (gotF (Trk.mk (farT f d g).c (farT f d g).ks (farT f d g).du) (IntKind.u32.wrap (f + d))).fst.du = (farT f d g').du ∧ (!(Nat.beq (10 : Nat) (2 : Nat) || (Nat.beq (11 : Nat) (2 : Nat) || false)) && (!(Nat.beq (11 : Nat) (10 : Nat) || false) && (!false && true)) && true && ((Nat.ble (8 : Nat) (2 : Nat) || (Nat.beq (2 : Nat) (2 : Nat) || (Nat.beq (5 : Nat) (2 : Nat) || (Nat.beq (6 : Nat) (2 : Nat) || false)))) && ((Nat.ble (8 : Nat) (10 : Nat) || (Nat.beq (2 : Nat) (10 : Nat) || (Nat.beq (5 : Nat) (10 : Nat) || (Nat.beq (6 : Nat) (10 : Nat) || false)))) && ((Nat.ble (8 : Nat) (11 : Nat) || (Nat.beq (2 : Nat) (11 : Nat) || (Nat.beq (5 : Nat) (11 : Nat) || (Nat.beq (6 : Nat) (11 : Nat) || false)))) && true)))) = true) ∧
  (some (SV.c (Value.int IntKind.i64 y.snd)) = some (SV.c (Value.int IntKind.i64 y.snd)) ∧ some (SV.c (Value.int IntKind.u32 (IntKind.u32.wrap (f + d)))) = some (SV.c (Value.int IntKind.u32 (IntKind.u32.wrap (f + d)))) ∧
  some (SV.p (2 : Nat) (0 : Nat)) = some (SV.p (2 : Nat) (0 : Nat)) ∧ some (SV.c (Value.int IntKind.u8 n)) = some (SV.c (Value.int IntKind.u8 n)) ∧ True) ∧
  some (R.own (22 : Nat) (D.ints IntKind.u32 (byFar' y.fst.c y.fst.ks))) = some (R.own (22 : Nat) (D.ints IntKind.u32 (byFar' y.fst.c y.fst.ks))) ∧ some R.dead = some R.dead ∧
  some R.dead = some R.dead ∧ some R.dead = some R.dead ∧ some R.dead = some R.dead ∧ True))) ((∃ (t : Trk), ∃ (w : Int), [O.ptr (127 : Nat) [O.d (D.v (Value.int IntKind.u32 (farT f d g).c)), O.map (Col.ints IntKind.u32 (farT f d g).ks) (Col.bools (trues (farT f d g).ks)), O.own (22 : Nat) (D.ints IntKind.u32 (farT f d g).du)], O.d (D.v (Value.int IntKind.u32 (0 : Int)))] = [O.ptr (127 : Nat) [O.d (D.v (Value.int IntKind.u32 t.c)), O.map (Col.ints IntKind.u32 t.ks) (Col.bools (trues t.ks)), O.own (22 : Nat) (D.ints IntKind.u32 t.du)], O.d (D.v (Value.int IntKind.u32 w))] ∧
  okT t) ∧ (90 : Int) ≠ (0 : Int) ∧ True ∧ sw (decide (y.snd = (9 : Int))) (True ∧ True ∧ sw (decide (y.snd = (10 : Int))) (True ∧ True ∧ decide ((↑(tellF (Trk.mk (farT f d g).c (farT f d g).ks (farT f d g).du) (0 : Int)).dups.length : Int) = (0 : Int)) = true ∧
  (true && true) = true) (True ∧ sw (decide ((64 : Int) < IntKind.i64.wrap (IntKind.i64.wrap (n.tmod (90 : Int)) + (1 : Int)))) (True ∧ decide ((↑(tellF (Trk.mk (farT f d g).c (farT f d g).ks (farT f d g).du) (0 : Int)).dups.length : Int) = (64 : Int)) = true ∧
  (true && true) = true) (True ∧ decide ((↑(tellF (Trk.mk (farT f d g).c (farT f d g).ks (farT f d g).du) (0 : Int)).dups.length : Int) = IntKind.i64.wrap (IntKind.i64.wrap (n.tmod (90 : Int)) + (1 : Int))) = true ∧
  (true && true) = true))) (True ∧ sw (decide (y.snd = (10 : Int))) (True ∧ True ∧ decide ((↑(tellF (Trk.mk (farT f d g).c (farT f d g).ks (farT f d g).du) (0 : Int)).dups.length : Int) = (0 : Int)) = true ∧
  (true && true) = true) (True ∧ sw (decide ((64 : Int) < IntKind.i64.wrap (n.tmod (90 : Int)))) (True ∧ decide ((↑(tellF (Trk.mk (farT f d g).c (farT f d g).ks (farT f d g).du) (0 : Int)).dups.length : Int) = (64 : Int)) = true ∧
  (true && true) = true) (True ∧ decide ((↑(tellF (Trk.mk (farT f d g).c (farT f d g).ks (farT f d g).du) (0 : Int)).dups.length : Int) = IntKind.i64.wrap (n.tmod (90 : Int))) = true ∧
  (true && true) = true)))))))) := by
  simp only [↓sw_iff, ↓Bool.and_eq_true, ↓decide_eq_true_eq, ↓decide_eq_false_iff_not, ↓Bool.not_eq_true', ↓Bool.not_eq_false', true_and, and_true, implies_true, Bool.or_false, Bool.false_or, Nat.ble, Nat.beq, trk_eta, wrap_w32, byFar_len]
  intro f d n hf hd hn
  have hx := w32_in (f + d)
  have e90 : IntKind.i64.wrap (n.tmod 90) = ((n % 90).toNat : Int) := by rw [Int.tmod_eq_emod_of_nonneg hn.1, wrap_i64_id (by omega) (by omega)]; omega
  generalize hN' : (n % 90).toNat = N at *
  have hN : N < 90 := by omega
  have e91 : IntKind.i64.wrap ((N : Int) + 1) = (N : Int) + 1 := wrap_i64_id (by omega) (by omega)
  have hf1 := far_first hf hd
  have hf2 := fun g => far_next hf hd g
  have hlen : ∀ g, ((tellF (farT f d g) 0).dups.length : Int) = (farN d g : Int) := fun g => congrArg (fun x : Nat => (x : Int)) (far_len hf hd g)
  have hok := fun g => (farT_ok (f := f) (d := d) g).1
  simp only [e90, hf1, hf2, hlen, e91]
  have pre : ∀ g, ∃ (t : Trk) (x : Int), [O.ptr 127 [O.d (D.v (Value.int IntKind.u32 (farT f d g).c)), O.map (Col.ints IntKind.u32 (farT f d g).ks) (Col.bools (trues (farT f d g).ks)), O.own 22 (D.ints IntKind.u32 (farT f d g).du)], O.d (D.v (Value.int IntKind.u32 (w32 (f + d))))] = [O.ptr 127 [O.d (D.v (Value.int IntKind.u32 t.c)), O.map (Col.ints IntKind.u32 t.ks) (Col.bools (trues t.ks)), O.own 22 (D.ints IntKind.u32 t.du)], O.d (D.v (Value.int IntKind.u32 x))] ∧ okT t ∧ inU x := fun g => ⟨_, _, rfl, hok g, hx⟩
  have pre2 : ∀ g, ∃ (t : Trk) (w : Int), [O.ptr 127 [O.d (D.v (Value.int IntKind.u32 (farT f d g).c)), O.map (Col.ints IntKind.u32 (farT f d g).ks) (Col.bools (trues (farT f d g).ks)), O.own 22 (D.ints IntKind.u32 (farT f d g).du)], O.d (D.v (Value.int IntKind.u32 0))] = [O.ptr 127 [O.d (D.v (Value.int IntKind.u32 t.c)), O.map (Col.ints IntKind.u32 t.ks) (Col.bools (trues t.ks)), O.own 22 (D.ints IntKind.u32 t.du)], O.d (D.v (Value.int IntKind.u32 w))] ∧ okT t := fun g => ⟨_, _, rfl, hok g⟩
  have nxt : ∀ g : Nat, ((g : Int) < (N : Int)) → ∃ g', g' ≤ N ∧ N - g' < N - g ∧ IntKind.i64.wrap (↑g + 1) = (g' : Int) ∧ (gotF (farT f d g) (w32 (f + d))).fst.c = (farT f d g').c ∧ (gotF (farT f d g) (w32 (f + d))).fst.ks = (farT f d g').ks ∧ trues (gotF (farT f d g) (w32 (f + d))).fst.ks = trues (farT f d g').ks ∧ (gotF (farT f d g) (w32 (f + d))).fst.du = (farT f d g').du := fun g h => ⟨g + 1, by omega, by omega, by rw [wrap_i64_id (by omega) (by omega)]; rfl, rfl, rfl, rfl, rfl⟩
  have fin : ∀ g : Nat, g ≤ N → ¬ (g : Int) < (N : Int) → g = N := fun g h1 h2 => by omega
  refine ⟨⟨f, rfl⟩, ⟨_, _, rfl, (new_ok f).1, hx⟩, fun h1 => ?_, fun h1 => ⟨fun h2 => ?_, fun h2 => ?_⟩⟩
  · simp only [farN, h1, if_true]
    repeat' (first
      | exact pre _
      | exact pre2 _
      | exact nxt _ (by omega)
      | (refine ⟨0, Nat.zero_le _, rfl, rfl, rfl, rfl, rfl, ?_⟩)
      | apply And.intro
      | (intro hh; first | omega | exact absurd trivial hh | skip))
    all_goals omega
  · have h3 : 2147483647 ≤ d := by simp at h2; omega
    simp only [farN, h1, h3, if_true, if_false]
    repeat' (first
      | exact pre _
      | exact pre2 _
      | exact nxt _ (by omega)
      | (refine ⟨0, Nat.zero_le _, rfl, rfl, rfl, rfl, rfl, ?_⟩)
      | apply And.intro
      | (intro hh; first | omega | exact absurd trivial hh | skip))
    all_goals omega
  · have h3 : ¬ 2147483647 ≤ d := by simp at h2; omega
    have hk := (far_full hf hd h1 h3).1
    simp only [farN, h1, h3, if_false]
    refine ⟨fun hh => absurd trivial hh, fun _ => ⟨⟨_, rfl, hok 0⟩, ?_, fun _ => ?_⟩⟩
    · rw [hk]; exact fun hh => absurd rfl hh
    repeat' (first
      | exact pre _
      | exact pre2 _
      | exact nxt _ (by omega)
      | (refine ⟨0, Nat.zero_le _, rfl, rfl, rfl, rfl, rfl, ?_⟩)
      | apply And.intro
      | (intro hh; first | omega | exact absurd trivial hh | skip))
    all_goals omega
set_option maxRecDepth 100000 in
theorem ok5 : FnIs Try.prog 5 farC := by
  refine fnIs (C := (ctrs s5)) (by kernel_rfl) s5_ok Try.func5 (code := code5) (by kernel_rfl) (by kernel_rfl) ?_
  rintro a ⟨f, d, n, rfl, hf, hd, hn⟩
  exact ⟨anns [(15, farA f d n)] [2, 6, 18] (dr := [(15, [0, 1, 14, 15, 16, 17, 18, 19, 20, 21, 22, 23, 24, 25, 26, 27, 28, 29, 30, 31, 32, 33, 34, 35, 36, 37, 38, 39, 40, 41, 42, 43, 44, 45, 46, 47, 48, 49])]), kcast (vc5 f d n hf hd hn) (by kernel_rfl)⟩

end Go.ZR

/- Arguments of any depth (numbers, tests, texts, slices, structs), opened as data; how long they are at most. -/
namespace Go.Z
open Go.ChangeShapes Go.WideShapes Go.ChangeAt Go.RowKit
open Go.Proofs.Ytlbfenfepmmihaa.Rows (uptoBulk uptoBulkAll)

/-- A cell's shape. -/
inductive Sh where
  | int (k : IntKind)
  | bool
  | str
  | ints (k : IntKind)
  | recs (l : List Sh)

def flatFs (f : Nat → Option (List Sh)) (co : Nat → Nat) : List Field → Nat → Option (List Sh)
  | [], _ => some []
  | x :: l, o => cond (Nat.beq x.offset o) (match f x.type with
    | some a => cond (Nat.beq (co x.type) a.length) (match flatFs f co l (o + a.length) with
      | some b => some (a ++ b)
      | none => none) none
    | none => none) none

/-- A type's cells. -/
def flat (P : Program) : Nat → Nat → Option (List Sh)
  | 0, _ => none
  | n + 1, t => match P.underlying t with
    | some (.int k) => some [.int k]
    | some .bool => some [.bool]
    | some .string => some [.str]
    | some (.slice e) => match P.underlying e with
      | some (.int k) => cond (Nat.beq (P.cellsOf e) 1) (some [.ints k]) none
      | _ => match flat P n e with
        | some (s :: l) => cond (Nat.beq (P.cellsOf e) (l.length + 1)) (some [.recs (s :: l)]) none
        | _ => none
    | some (.struct fs) => match flatFs (flat P n) P.cellsOf fs.toList 0 with
      | some l => cond (Nat.beq (P.cellsOf t) l.length) (some l) none
      | none => none
    | _ => none

mutual
/-- Data of a shape, nothing longer than N. -/
def fits (N : Nat) : Sh → D → Prop
  | .int k, d => ∃ n, d = .v (.int k n) ∧ k.min ≤ n ∧ n ≤ k.max
  | .bool, d => ∃ b, d = .v (.bool b)
  | .str, d => ∃ s : ByteArray, d = .v (.string s) ∧ s.size ≤ N
  | .ints k, d => ∃ xs, d = .ints k xs ∧ (∀ x, x ∈ xs → k.min ≤ x ∧ x ≤ k.max) ∧ xs.length ≤ N
  | .recs l, d => ∃ n f, d = .recs l.length n f ∧ n ≤ N ∧ ∀ i, i < n → fitsL N l (f i)
def fitsL (N : Nat) : List Sh → (Nat → D) → Prop
  | [], _ => True
  | s :: l, g => fits N s (g 0) ∧ fitsL N l fun j => g (j + 1)
end

theorem DL.append {X : Nat → Prop} {w : World} : ∀ {a b : List D} {u v : List Value}, DL.holds X w a u → DL.holds X w b v → DL.holds X w (a ++ b) (u ++ v)
  | [], _, [], _, _, hb => hb
  | [], _, _ :: _, _, ha, _ => ha.elim
  | _ :: _, _, [], _, ha, _ => ha.elim
  | _ :: _, _, _ :: _, _, ha, hb => ⟨ha.1, DL.append ha.2 hb⟩
theorem fitsL_congr {N : Nat} : ∀ {l : List Sh} {f g : Nat → D}, (∀ j, j < l.length → f j = g j) → fitsL N l f → fitsL N l g
  | [], _, _, _, _ => by simp [fitsL]
  | s :: l, f, g, h, hf => by
    simp only [fitsL] at hf ⊢
    exact ⟨by rw [← h 0 (by simp)]; exact hf.1, fitsL_congr (fun j hj => h (j + 1) (by simpa using hj)) hf.2⟩
theorem fitsL_append {N : Nat} : ∀ {l m : List Sh} {a b : List D}, a.length = l.length → fitsL N l (fun j => a.getD j (.v undef)) → fitsL N m (fun j => b.getD j (.v undef)) → fitsL N (l ++ m) (fun j => (a ++ b).getD j (.v undef))
  | [], m, [], b, _, _, hb => by simpa using hb
  | [], _, _ :: _, _, h, _, _ => by simp at h
  | _ :: _, _, [], _, h, _, _ => by simp at h
  | s :: l, m, x :: a, b, h, ha, hb => by
    simp only [List.cons_append, fitsL, List.getD_cons_zero, List.getD_cons_succ] at ha ⊢
    exact ⟨ha.1, fitsL_append (by simpa using h) ha.2 hb⟩

section
variable {H : Type} {enc : TypeId × Value → H} {P : Program} {w : World} {base : Nat} {held : Bool}

theorem bulk_pos (d : DataW H) : 1 ≤ uptoBulk d := by
  cases d with
  | lit l => cases l <;> simp [uptoBulk]
  | _ => simp [uptoBulk]
theorem bulk_mem : ∀ {l : List (DataW H)} {d : DataW H}, d ∈ l → uptoBulk d ≤ uptoBulkAll l
  | [], _, h => by cases h
  | x :: l, d, h => by
    simp only [uptoBulkAll]
    rcases List.mem_cons.1 h with rfl | h
    · omega
    · have := bulk_mem h; omega
theorem bulk_len : ∀ (l : List (DataW H)), l.length ≤ uptoBulkAll l
  | [] => by simp
  | x :: l => by
    have := bulk_len l
    have := bulk_pos x
    simp only [uptoBulkAll, List.length_cons]; omega

/-- It is no longer than N: as a whole; or no slice is. -/
def Bnd (N : Nat) (d : DataW H) : Prop := uptoBulk d ≤ N ∨ maxLen ≤ N

theorem ints_trod {t e : TypeId} {k : IntKind} {fuel : Nat} {cs : List Value} {x : DataW H × List MemPlace} (ht : P.underlying t = some (.slice e)) (he : P.underlying e = some (.int k)) (hc : P.cellsOf e = 1)
    (hf : DataW.trod enc P w base (fun _ => true) held fuel t cs = some x) {N : Nat} (hb : Bnd N x.1) :
    ∃ v xs, cs = [v] ∧ (D.ints k xs).holds (fun _ => True) w v ∧ (∀ y, y ∈ xs → k.min ≤ y ∧ y ≤ k.max) ∧ xs.length ≤ N := by
  rcases open_ints ht he hc hf with ⟨rfl, _⟩ | ⟨a, len, cap, zs, rfl, _, hl, hm, hz, hx, hcell, hwz⟩
  · exact ⟨_, [], rfl, D.holds_ints.2 ⟨nilLoc, rfl, .inl rfl, fun h => absurd rfl h, rfl, Nat.le_refl _, fun i z hi => by simp at hi⟩, by simp, by simp⟩
  · simp at hz
    have hlen : (zs.take len).length = len := by simp; omega
    have hxs : ∀ y, y ∈ zs.take len → k.min ≤ y ∧ y ≤ k.max := fun y hy => by
      have := hwz y (List.mem_of_mem_take hy)
      simpa [Lit.wf] using this
    have hN : (zs.take len).length ≤ N := by
      rcases hb with hb | hb
      · rw [hx] at hb
        simp only [uptoBulk] at hb
        have := bulk_len (lits (H := H) k (zs.take len))
        have h2 : (lits (H := H) k (zs.take len)).length = (zs.take len).length := by simp [lits]
        omega
      · omega
    by_cases hcap : cap = 0
    · refine ⟨_, zs.take len, rfl, D.holds_ints.2 ⟨⟨some a, len, cap⟩, rfl, .inl hcap, fun hne => absurd hne (by show ¬ len ≠ 0; omega), hlen.symm, hl, fun i z hi => ?_⟩, hxs, hN⟩
      have := (List.getElem?_eq_some_iff.1 hi).1
      omega
    · have h0 := hcell 0 (by omega)
      have ha := spot_none h0
      have ha' : a = ⟨a.block, a.off, none⟩ := by simpa [Addr.add] using ha
      generalize hbb : a.block = b at *
      generalize ho : a.off = o at *
      subst ha'
      refine ⟨_, zs.take len, rfl, D.holds_ints.2 ⟨⟨some ⟨b, o, none⟩, len, cap⟩, rfl, .inr rfl, fun hne => ⟨trivial, lt_of_cell (b := b) (o := o) (by rw [add_spot] at h0; exact h0)⟩, hlen.symm, hl, fun i z hi => ?_⟩, hxs, hN⟩
      have hi1 := (List.getElem?_eq_some_iff.1 hi).1
      have hc := hcell i (by omega)
      rw [add_spot] at hc
      have : zs.getD i 0 = z := by
        rw [List.getElem?_take] at hi
        split at hi
        · simp [List.getD_eq_getElem?_getD, hi]
        · cases hi
      rw [this] at hc
      exact hc

/-- What an opening yields. -/
def Opens (w : World) (N : Nat) (shs : List Sh) (cs : List Value) : Prop :=
  ∃ ds : List D, ds.length = shs.length ∧ fitsL N shs (fun j => ds.getD j (.v undef)) ∧ DL.holds (fun _ => True) w ds cs

theorem flds_open {fuel : Nat} {f : Nat → Option (List Sh)} {N : Nat} {cs : List Value}
    (ih : ∀ t c (x : DataW H × List MemPlace) shs, DataW.trod enc P w base (fun _ => true) held fuel t c = some x → f t = some shs → Bnd N x.1 → Opens w N shs c) :
    ∀ (l : List Field) (o : Nat) (shs : List Sh) (xs : List (DataW H × List MemPlace)), flatFs f P.cellsOf l o = some shs → xs.length = l.length →
      (∀ (i : Nat) (fl : Field), l[i]? = some fl → DataW.trod enc P w base (fun _ => true) held fuel fl.type ((cs.drop fl.offset).take (P.cellsOf fl.type)) = xs[i]?) → (∀ x, x ∈ xs → Bnd N x.1) →
      Opens w N shs ((cs.drop o).take shs.length)
  | [], o, shs, xs, hf, _, _, _ => by
    simp [flatFs] at hf; subst hf
    exact ⟨[], rfl, by simp [fitsL], by simp; trivial⟩
  | fl :: l, o, shs, [], _, hl, _, _ => by simp at hl
  | fl :: l, o, shs, x :: xs, hf, hl, hx, hb => by
    unfold flatFs at hf
    cases ho : Nat.beq fl.offset o with
    | false => rw [ho] at hf; cases hf
    | true =>
      rw [ho] at hf
      simp only [_root_.cond_true] at hf
      split at hf <;> try (cases hf; done)
      rename_i a ha
      cases hc : Nat.beq (P.cellsOf fl.type) a.length with
      | false => rw [hc] at hf; cases hf
      | true =>
        rw [hc] at hf
        simp only [_root_.cond_true] at hf
        split at hf <;> cases hf
        rename_i b hb'
        have ho := Nat.eq_of_beq_eq_true ho
        have hc := Nat.eq_of_beq_eq_true hc
        have h0 := hx 0 fl rfl
        rw [ho, hc] at h0
        obtain ⟨d1, a1, a2, a3⟩ := ih _ _ _ _ h0 ha (hb x (by simp))
        obtain ⟨d2, b1, b2, b3⟩ := flds_open ih l (o + a.length) b xs hb' (by simpa using hl) (fun i g hg => hx (i + 1) g (by simpa using hg)) (fun y hy => hb y (by simp [hy]))
        refine ⟨d1 ++ d2, by simp [a1, b1], fitsL_append a1 a2 b2, ?_⟩
        rw [List.length_append, List.take_add, List.drop_drop]
        exact DL.append a3 b3

theorem deep : ∀ (m : Nat) (t : TypeId) (fuel : Nat) (cs : List Value) (x : DataW H × List MemPlace) (shs : List Sh) (N : Nat),
    DataW.trod enc P w base (fun _ => true) held fuel t cs = some x → flat P m t = some shs → Bnd N x.1 → Opens w N shs cs
  | 0, _, _, _, _, _, _, _, hs, _ => by simp [flat] at hs
  | m + 1, t, fuel, cs, x, shs, N, hf, hs, hb => by
    unfold flat at hs
    split at hs
    · rename_i k ht
      cases hs
      obtain ⟨n, rfl, rfl, hw⟩ := DataW.trod_int ht hf
      exact ⟨[.v (.int k n)], rfl, by simp only [fitsL, fits, and_true]; exact ⟨n, rfl, by simpa [Lit.wf] using hw⟩, ⟨rfl, rfl⟩, trivial⟩
    · rename_i ht
      cases hs
      obtain ⟨b, rfl, rfl⟩ := DataW.trod_bool ht hf
      exact ⟨[.v (.bool b)], rfl, by simp only [fitsL, fits, and_true]; exact ⟨b, rfl⟩, ⟨rfl, rfl⟩, trivial⟩
    · rename_i ht
      cases hs
      obtain ⟨s, rfl, rfl, hm⟩ := DataW.trod_string ht hf
      refine ⟨[.v (.string s)], rfl, ?_, ⟨rfl, rfl⟩, trivial⟩
      simp only [fitsL, fits, and_true]
      refine ⟨s, rfl, ?_⟩
      rcases hb with hb | hb
      · simp only [uptoBulk] at hb
        have : s.data.toList.length = s.size := Array.length_toList
        omega
      · omega
    · rename_i e ht
      split at hs
      · rename_i k he
        cases hc : Nat.beq (P.cellsOf e) 1 with
        | false => rw [hc] at hs; cases hs
        | true =>
          rw [hc] at hs
          cases hs
          obtain ⟨v, xs, rfl, h1, h2, h3⟩ := ints_trod ht he (Nat.eq_of_beq_eq_true hc) hf hb
          exact ⟨[.ints k xs], rfl, by simp only [fitsL, fits, and_true]; exact ⟨xs, rfl, h2, h3⟩, h1, trivial⟩
      · split at hs
        · rename_i s l hfl
          cases hc : Nat.beq (P.cellsOf e) (l.length + 1) with
          | false => rw [hc] at hs; cases hs
          | true =>
            rw [hc] at hs
            cases hs
            have hc := Nat.eq_of_beq_eq_true hc
            rcases DataW.trod_slice ht hf with ⟨rfl, rfl⟩ | ⟨a, len, cap, elems, rest, n, rfl, rfl, rfl, hbs, hl, hm, hlen, hel, hsp, -⟩
            · refine ⟨[.recs (l.length + 1) 0 fun _ _ => .v undef], rfl, ?_, D.holds_recs.2 ⟨nilLoc, rfl, .inl rfl, fun h => absurd rfl h, rfl, Nat.le_refl _, fun i hi => by omega⟩, trivial⟩
              simp only [fitsL, fits, and_true]
              exact ⟨0, fun _ _ => .v undef, rfl, Nat.zero_le _, fun i hi => by omega⟩
            · have hN : len ≤ N := by
                rcases hb with hb | hb
                · simp only [uptoBulk] at hb
                  have := bulk_len (elems.map (·.1))
                  simp at this
                  omega
                · omega
              have each : ∀ i, i < len → ∃ c, w.cells? base (a.add (i * P.cellsOf e)) (P.cellsOf e) = some c ∧ Opens w N (s :: l) c := fun i hi => by
                have h1 := hel i hi
                have hy : elems[i]? = some elems[i] := List.getElem?_eq_getElem (by omega)
                rw [hy, Option.bind_eq_some_iff] at h1
                obtain ⟨c, h1, h2⟩ := h1
                refine ⟨c, h1, deep m e n c _ _ N h2 hfl ?_⟩
                rcases hb with hb | hb
                · left
                  simp only [uptoBulk] at hb
                  have : uptoBulk (elems[i]).1 ≤ uptoBulkAll (elems.map (·.1)) := bulk_mem (List.mem_map_of_mem (List.getElem_mem _))
                  omega
                · exact .inr hb
              have each' : ∀ i, ∃ ds : List D, i < len → fitsL N (s :: l) (fun j => ds.getD j (.v undef)) ∧ ∃ c, w.cells? base (a.add (i * P.cellsOf e)) (P.cellsOf e) = some c ∧ DL.holds (fun _ => True) w ds c ∧ ds.length = l.length + 1 := fun i => by
                by_cases hi : i < len
                · obtain ⟨c, h1, ds, h2, h3, h4⟩ := each i hi
                  exact ⟨ds, fun _ => ⟨h3, c, h1, h4, h2⟩⟩
                · exact ⟨[], fun h => absurd h hi⟩
              have hF' := fun i => Classical.choose_spec (each' i)
              generalize hFF : (fun i => Classical.choose (each' i)) = F
              have hF : ∀ i, i < len → fitsL N (s :: l) (fun j => (F i).getD j (.v undef)) ∧ ∃ c, w.cells? base (a.add (i * P.cellsOf e)) (P.cellsOf e) = some c ∧ DL.holds (fun _ => True) w (F i) c ∧ (F i).length = l.length + 1 := fun i => by rw [← hFF]; exact hF' i
              clear hF' hFF
              have first : cap ≠ 0 → ∃ c, w.cells? base (a.add (0 * P.cellsOf e)) (P.cellsOf e) = some c := fun hne => by
                by_cases h0 : len = 0
                · obtain ⟨r1, r2⟩ := hsp rfl
                  have h1 := r2 0 (by omega)
                  have hy : rest[0]? = some rest[0] := List.getElem?_eq_getElem (by omega)
                  rw [hy, Option.bind_eq_some_iff] at h1
                  obtain ⟨c, h1, _⟩ := h1
                  exact ⟨c, by rw [show 0 * P.cellsOf e = (len + 0) * P.cellsOf e by rw [h0]]; exact h1⟩
                · obtain ⟨_, c, h1, _⟩ := hF 0 (by omega)
                  exact ⟨c, h1⟩
              have spot : cap ≠ 0 → a = ⟨a.block, a.off, none⟩ ∧ a.block < w.heap.size := fun hne => by
                obtain ⟨c, h1⟩ := first hne
                obtain ⟨_, h4, h5⟩ := World.cells?_some h1
                have h6 := h5 0 (by omega)
                have hc0 : c[0]? = some c[0] := List.getElem?_eq_getElem (by omega)
                rw [hc0, Nat.zero_mul] at h6
                have h7 : w.cell? a = some c[0] := by simpa [Addr.add] using h6
                refine ⟨spot_none h7, ?_⟩
                rw [spot_none h7] at h7
                exact lt_of_cell h7
              refine ⟨[.recs (l.length + 1) len fun i j => (F i).getD j (.v undef)], rfl, ?_, ?_, trivial⟩
              · simp only [fitsL, fits, and_true]
                exact ⟨len, _, rfl, hN, fun i hi => by have := (hF i hi).1; simpa only [fitsL] using this⟩
              · by_cases h0 : cap = 0
                · exact D.holds_recs.2 ⟨⟨some a, len, cap⟩, rfl, .inl h0, fun h => absurd h (by show ¬ len ≠ 0; omega), rfl, hl, fun i hi => by omega⟩
                · obtain ⟨hs1, hs2⟩ := spot h0
                  generalize hbb : a.block = b at *
                  generalize hoo : a.off = o at *
                  subst hs1
                  refine D.holds_recs.2 ⟨⟨some ⟨b, o, none⟩, len, cap⟩, rfl, .inr rfl, fun _ => ⟨trivial, hs2⟩, rfl, hl, fun i hi j hj => ?_⟩
                  obtain ⟨_, c, h1, h2, h3⟩ := hF i hi
                  obtain ⟨c', e1, e2⟩ := DL.getD h2 j (by omega)
                  obtain ⟨_, h4, h5⟩ := World.cells?_some h1
                  refine ⟨c', ?_, e2⟩
                  have := h5 j (by omega)
                  rw [add_spot, add_spot, e1, hc] at this
                  rw [Nat.add_assoc] at this
                  exact this
        · cases hs
    · rename_i fs ht
      split at hs
      · rename_i l hfl
        cases hc : Nat.beq (P.cellsOf t) l.length with
        | false => rw [hc] at hs; cases hs
        | true =>
          rw [hc] at hs
          cases hs
          obtain ⟨xs, n, rfl, rfl, h1, h2, h3⟩ := DataW.trod_struct ht hf
          have := flds_open (cs := cs) (N := N) (fun t c x shs a1 a2 a3 => deep m t n c x shs N a1 a2 a3) fs.toList 0 _ xs hfl (by simpa using h2) (fun i fl hi => h3 i fl (by simpa using hi)) (fun y hy => by
            rcases hb with hb | hb
            · left
              simp only [uptoBulk] at hb
              have : uptoBulk y.1 ≤ uptoBulkAll (xs.map (·.1)) := bulk_mem (List.mem_map_of_mem hy)
              omega
            · exact .inr hb)
          rw [List.drop_zero, List.take_of_length_le (by rw [h1, Nat.eq_of_beq_eq_true hc]; exact Nat.le_refl _)] at this
          exact this
      · cases hs
    · cases hs
end
end Go.Z
