import Derived.Test.YtadafplbgophfaaPA0
import Derived.Test.YtadafplbgophfaaH139
import Derived.Test.YtadafplbgophfaaH140
import Derived.Test.YtadafplbgophfaaH141
import Derived.Outline
namespace Go.Proofs.Ytadafplbgophfaa.PA
open Go.RowKit Go.Proofs.YtadafplbgophfaaW.PrintWords Go.Proofs.YtadafplbgophfaaW.PrintLast Go.Proofs.YtadafplbgophfaaW.PrintMore

/-- do both ways meet, behind a step forth? -/
def hitF (delta d c o t n : Int) (L : List Int) : Option Bool :=
  if delta.tmod 2 = 0 then some false
  else if c < -(d - 1) then some false
  else if d - 1 < c then some false
  else if 0 ≤ o + c ∧ o + c < (L.length : Int) ∧ -10000000000 ≤ rd L (o + c) ∧ rd L (o + c) ≤ 100000000000 then
    if rd L (o + c) = -1 then some false else some (decide (n ≤ t + rd L (o + c)))
  else none
/-- behind a step back? -/
def hitB (delta d c o t n : Int) (L : List Int) : Option Bool :=
  if ¬ delta.tmod 2 = 0 then some false
  else if c < -d then some false
  else if d < c then some false
  else if 0 ≤ o + c ∧ o + c < (L.length : Int) ∧ -10000000000 ≤ rd L (o + c) ∧ rd L (o + c) ≤ 100000000000 then
    if rd L (o + c) = -1 then some false else some (decide (n ≤ t + rd L (o + c)))
  else none

mutual
def lcs_finder_middle.l0 : Nat → List Int → List Int → Int → Int → Int → Int → Int → Int → List Int → List Int → Int → Option (Int × Int × Int × Int)
  | 0, _, _, _, _, _, _, _, _, _, _, _ => none
  | K + 1, a, b, a0, a1, b0, b1, o1, o2, fo, re, d => if 0 ≤ d ∧ d ≤ 3000000000 then lcs_finder_middle.l1 K a b a0 a1 b0 b1 o1 o2 fo re d (-d) else none
def lcs_finder_middle.l1 : Nat → List Int → List Int → Int → Int → Int → Int → Int → Int → List Int → List Int → Int → Int → Option (Int × Int × Int × Int)
  | 0, _, _, _, _, _, _, _, _, _, _, _, _ => none
  | K + 1, a, b, a0, a1, b0, b1, o1, o2, fo, re, d, k =>
    if k ≤ d then
      (lcs_finder_forth.f a b a0 a1 b0 b1 fo o1 k d).bind fun p =>
        (hitF ((a1 - a0) - (b1 - b0)) d (((a1 - a0) - (b1 - b0)) - k) o2 p.2 (a1 - a0) re).bind fun h =>
          if h = true then some (a0 + p.1, b0 + p.1 - k, p.2 - p.1, 2 * d - 1)
          else lcs_finder_middle.l1 K a b a0 a1 b0 b1 o1 o2 (fo.set (o1 + k).toNat p.2) re d (k + 2)
    else lcs_finder_middle.l2 K a b a0 a1 b0 b1 o1 o2 fo re d (-d)
def lcs_finder_middle.l2 : Nat → List Int → List Int → Int → Int → Int → Int → Int → Int → List Int → List Int → Int → Int → Option (Int × Int × Int × Int)
  | 0, _, _, _, _, _, _, _, _, _, _, _, _ => none
  | K + 1, a, b, a0, a1, b0, b1, o1, o2, fo, re, d, k =>
    if k ≤ d then
      (lcs_finder_back.f a b a0 a1 b0 b1 re o2 k d).bind fun p =>
        (hitB ((a1 - a0) - (b1 - b0)) d (((a1 - a0) - (b1 - b0)) - k) o1 p.2 (a1 - a0) fo).bind fun h =>
          if h = true then some (a1 - p.2, b1 - (p.2 - k), p.2 - p.1, 2 * d)
          else lcs_finder_middle.l2 K a b a0 a1 b0 b1 o1 o2 fo (re.set (o2 + k).toNat p.2) d (k + 2)
    else lcs_finder_middle.l0 K a b a0 a1 b0 b1 o1 o2 fo re (d + 1)
end
def lcs_finder_middle.f (K : Nat) (a b : List Int) (a0 a1 b0 b1 : Int) : Option (Int × Int × Int × Int) :=
  if 0 ≤ a0 ∧ a0 ≤ a1 ∧ a1 ≤ a.length ∧ 0 ≤ b0 ∧ b0 ≤ b1 ∧ b1 ≤ b.length ∧ a.length ≤ 1000000000 ∧ b.length ≤ 1000000000 then
    lcs_finder_middle.l0 K a b a0 a1 b0 b1 ((a1 - a0) + (b1 - b0) + 1) ((a1 - a0) + (b1 - b0) + 1) (newL ((a1 - a0) + (b1 - b0)).toNat) (newL ((a1 - a0) + (b1 - b0)).toNat) 0
  else none

/-- where middle is -/
structure Mid (w wr : World) (bx bz gf gr p q N capF capR : Nat) (a0 a1 b0 b1 : Int) (fo re : List Int) : Prop where
  below : Below w.heap.size w wr
  X : wr.heap[bx]? = some (.cells #[.int .i64 a0, .int .i64 a1, .int .i64 b0, .int .i64 b1] 133 (0, 0))
  Z : wr.heap[bz]? = some (.cells #[.int .i64 0, .int .i64 0, .int .i64 0, .int .i64 0] 192 (0, 0))
  F : wr.heap[gf]? = some (.cells #[.slice (some ⟨p, 0, none⟩) (2 * N + 3) capF, .int .i64 ((N : Int) + 1)] 206 (0, 0))
  G : wr.heap[gr]? = some (.cells #[.slice (some ⟨q, 0, none⟩) (2 * N + 3) capR, .int .i64 ((N : Int) + 1)] 206 (0, 0))
  Rf : Kd.R (Kd.int .i64) 3 wr w.heap.size (fun k => k ≠ q) (.slice (some ⟨p, 0, none⟩) (2 * N + 3) capF) fo
  Rr : Kd.R (Kd.int .i64) 3 wr w.heap.size (fun k => k ≠ p) (.slice (some ⟨q, 0, none⟩) (2 * N + 3) capR) re
  lf : fo.length = 2 * N + 3
  lr : re.length = 2 * N + 3
  ge : w.heap.size ≤ bx ∧ w.heap.size ≤ bz ∧ w.heap.size ≤ gf ∧ w.heap.size ≤ gr

theorem Mid.fore {w wr w2 : World} {bx bz gf gr p q N capF capR : Nat} {a0 a1 b0 b1 : Int} {fo re fo' : List Int} (h : Mid w wr bx bz gf gr p q N capF capR a0 a1 b0 b1 fo re)
    (hR : Kd.R (Kd.int .i64) 3 w2 w.heap.size (fun k => k ≠ q) (.slice (some ⟨p, 0, none⟩) (2 * N + 3) capF) fo') (hg : wr.grownBy w2 (some p)) (hl : fo'.length = 2 * N + 3) :
    Mid w w2 bx bz gf gr p q N capF capR a0 a1 b0 b1 fo' re :=
  ⟨h.below.grown hg h.below.size (fun k hk => by injection hk with hk; subst hk; exact Kd.R_base h.Rf _ rfl),
   blk_grown h.X hg (Kd.R_ne h.Rf h.X (by decide)), blk_grown h.Z hg (Kd.R_ne h.Rf h.Z (by decide)), blk_grown h.F hg (Kd.R_ne h.Rf h.F (by decide)), blk_grown h.G hg (Kd.R_ne h.Rf h.G (by decide)),
   hR, Kd.R_grown h.Rr hg (fun k hk e => hk (by injection e)), hl, h.lr, h.ge⟩
theorem Mid.rear {w wr w2 : World} {bx bz gf gr p q N capF capR : Nat} {a0 a1 b0 b1 : Int} {fo re re' : List Int} (h : Mid w wr bx bz gf gr p q N capF capR a0 a1 b0 b1 fo re)
    (hR : Kd.R (Kd.int .i64) 3 w2 w.heap.size (fun k => k ≠ p) (.slice (some ⟨q, 0, none⟩) (2 * N + 3) capR) re') (hg : wr.grownBy w2 (some q)) (hl : re'.length = 2 * N + 3) :
    Mid w w2 bx bz gf gr p q N capF capR a0 a1 b0 b1 fo re' :=
  ⟨h.below.grown hg h.below.size (fun k hk => by injection hk with hk; subst hk; exact Kd.R_base h.Rr _ rfl),
   blk_grown h.X hg (Kd.R_ne h.Rr h.X (by decide)), blk_grown h.Z hg (Kd.R_ne h.Rr h.Z (by decide)), blk_grown h.F hg (Kd.R_ne h.Rr h.F (by decide)), blk_grown h.G hg (Kd.R_ne h.Rr h.G (by decide)),
   Kd.R_grown h.Rf hg (fun k hk e => hk (by injection e)), hR, h.lf, hl, h.ge⟩

theorem forth_n (n g p cap A0 c0 A1 c1 : _) (v : Value) (a b : List Int) (a0 a1 b0 b1 : Int) (L : List Int) (off k d u0 u : Int) (base : Nat) (ok : Nat → Prop) (w : World) (hn : L.length = n)
    (hblk : w.heap[g]? = some (.cells #[.slice A0 a.length c0, .slice A1 b.length c1, v] 130 (0, 0))) (hr0 : Kd.C (Kd.int .i64) w A0 a.length a) (hr1 : Kd.C (Kd.int .i64) w A1 b.length b)
    (hL : Kd.R (Kd.int .i64) 3 w base ok (.slice (some ⟨p, 0, none⟩) n cap) L) (h : lcs_finder_forth.f a b a0 a1 b0 b1 L off k d = some (u0, u)) :
    Calls Try.prog 140 #[.pointer (some ⟨g, 0, none⟩), .agg #[.int .i64 a0, .int .i64 a1, .int .i64 b0, .int .i64 b1], .agg #[.slice (some ⟨p, 0, none⟩) n cap, .int .i64 off], .int .i64 k, .int .i64 d] w fun e w' =>
      e = .returned (.tuple #[.int .i64 u0, .int .i64 u]) ∧ Kd.R (Kd.int .i64) 3 w' base ok (.slice (some ⟨p, 0, none⟩) n cap) (L.set (off + k).toNat u) ∧ w.grownBy w' (some p) := by
  subst hn
  exact lcs_finder_forth.calls g p cap A0 c0 A1 c1 v a b a0 a1 b0 b1 L off k d u0 u base ok w hblk hr0 hr1 hL h
theorem back_n (n g p cap A0 c0 A1 c1 : _) (v : Value) (a b : List Int) (a0 a1 b0 b1 : Int) (L : List Int) (off k d u0 u : Int) (base : Nat) (ok : Nat → Prop) (w : World) (hn : L.length = n)
    (hblk : w.heap[g]? = some (.cells #[.slice A0 a.length c0, .slice A1 b.length c1, v] 130 (0, 0))) (hr0 : Kd.C (Kd.int .i64) w A0 a.length a) (hr1 : Kd.C (Kd.int .i64) w A1 b.length b)
    (hL : Kd.R (Kd.int .i64) 3 w base ok (.slice (some ⟨p, 0, none⟩) n cap) L) (h : lcs_finder_back.f a b a0 a1 b0 b1 L off k d = some (u0, u)) :
    Calls Try.prog 141 #[.pointer (some ⟨g, 0, none⟩), .agg #[.int .i64 a0, .int .i64 a1, .int .i64 b0, .int .i64 b1], .agg #[.slice (some ⟨p, 0, none⟩) n cap, .int .i64 off], .int .i64 k, .int .i64 d] w fun e w' =>
      e = .returned (.tuple #[.int .i64 u0, .int .i64 u]) ∧ Kd.R (Kd.int .i64) 3 w' base ok (.slice (some ⟨p, 0, none⟩) n cap) (L.set (off + k).toNat u) ∧ w.grownBy w' (some p) := by
  subst hn
  exact lcs_finder_back.calls g p cap A0 c0 A1 c1 v a b a0 a1 b0 b1 L off k d u0 u base ok w hblk hr0 hr1 hL h

theorem upto_le (p : Nat → Bool) : ∀ (f i : Nat), i ≤ upto p f i ∧ upto p f i ≤ i + f := by
  intro f
  induction f with
  | zero => intro i; simp [upto]
  | succ f ih =>
    intro i
    unfold upto
    have := ih (i + 1)
    split <;> omega
theorem forth_bounds {a b : List Int} {a0 a1 b0 b1 : Int} {L : List Int} {off k d u0 u : Int} (h : lcs_finder_forth.f a b a0 a1 b0 b1 L off k d = some (u0, u)) :
    (0 ≤ u0 ∧ u0 ≤ 10000000000 ∧ u0 ≤ u ∧ u ≤ 20000000000 ∧ 0 ≤ u0 - k) ∧ -10000000000 ≤ k ∧ k ≤ 10000000000 := by
  unfold lcs_finder_forth.f at h
  split at h
  case isFalse => cases h
  rename_i hG
  obtain ⟨⟨g1, g2, g3, g4, g5, g6, g7, g8⟩, ⟨g9, g10, g11, g12⟩, g13, g14⟩ := hG
  obtain ⟨u0', hu, h2⟩ := Option.bind_eq_some_iff.1 h
  split at h2
  case isFalse => cases h2
  rename_i hG
  obtain ⟨g15, g16, g17⟩ := hG
  simp only [Option.some.injEq, Prod.mk.injEq] at h2
  obtain ⟨rfl, h3⟩ := h2
  have := upto_le (fp a b a0 a1 b0 b1 k) (a1 - a0).toNat u0'.toNat
  omega
theorem back_bounds {a b : List Int} {a0 a1 b0 b1 : Int} {L : List Int} {off k d u0 u : Int} (h : lcs_finder_back.f a b a0 a1 b0 b1 L off k d = some (u0, u)) :
    (0 ≤ u0 ∧ u0 ≤ 10000000000 ∧ u0 ≤ u ∧ u ≤ 20000000000 ∧ 0 ≤ u0 - k) ∧ -10000000000 ≤ k ∧ k ≤ 10000000000 := by
  unfold lcs_finder_back.f at h
  split at h
  case isFalse => cases h
  rename_i hG
  obtain ⟨⟨g1, g2, g3, g4, g5, g6, g7, g8⟩, ⟨g9, g10, g11, g12⟩, g13, g14⟩ := hG
  obtain ⟨u0', hu, h2⟩ := Option.bind_eq_some_iff.1 h
  split at h2
  case isFalse => cases h2
  rename_i hG
  obtain ⟨g15, g16, g17⟩ := hG
  simp only [Option.some.injEq, Prod.mk.injEq] at h2
  obtain ⟨rfl, h3⟩ := h2
  have := upto_le (bp a b a0 a1 b0 b1 k) (a1 - a0).toNat u0'.toNat
  omega
theorem hitF_true {dl d c o t n : Int} {L : List Int} (h : hitF dl d c o t n L = some true) : ¬ dl.tmod 2 = 0 ∧ -(d - 1) ≤ c ∧ c ≤ d - 1 ∧ (0 ≤ o + c ∧ o + c < (L.length : Int) ∧ -10000000000 ≤ rd L (o + c) ∧ rd L (o + c) ≤ 100000000000) ∧ ¬ rd L (o + c) = -1 ∧ n ≤ t + rd L (o + c) := by
  unfold hitF at h
  split at h
  · cases h
  split at h
  · cases h
  split at h
  · cases h
  split at h
  · split at h
    · cases h
    · rename_i h1 h2 h3 h4 h5
      refine ⟨h1, by omega, by omega, h4, h5, ?_⟩
      exact of_decide_eq_true (Option.some.inj h)
  · cases h
theorem hitF_false {dl d c o t n : Int} {L : List Int} (h : hitF dl d c o t n L = some false) : dl.tmod 2 = 0 ∨ (¬ dl.tmod 2 = 0 ∧ c < -(d - 1)) ∨ (¬ dl.tmod 2 = 0 ∧ -(d - 1) ≤ c ∧ d - 1 < c) ∨
    (¬ dl.tmod 2 = 0 ∧ -(d - 1) ≤ c ∧ c ≤ d - 1 ∧ (0 ≤ o + c ∧ o + c < (L.length : Int) ∧ -10000000000 ≤ rd L (o + c) ∧ rd L (o + c) ≤ 100000000000) ∧ (rd L (o + c) = -1 ∨ (¬ rd L (o + c) = -1 ∧ ¬ n ≤ t + rd L (o + c)))) := by
  unfold hitF at h
  split at h
  · rename_i h1; exact .inl h1
  split at h
  · rename_i h1 h2; exact .inr (.inl ⟨h1, h2⟩)
  split at h
  · rename_i h1 h2 h3; exact .inr (.inr (.inl ⟨h1, by omega, h3⟩))
  split at h
  · rename_i h1 h2 h3 h4
    split at h
    · rename_i h5; exact .inr (.inr (.inr ⟨h1, by omega, by omega, h4, .inl h5⟩))
    · rename_i h5
      exact .inr (.inr (.inr ⟨h1, by omega, by omega, h4, .inr ⟨h5, of_decide_eq_false (Option.some.inj h)⟩⟩))
  · cases h

theorem hitB_true {dl d c o t n : Int} {L : List Int} (h : hitB dl d c o t n L = some true) : dl.tmod 2 = 0 ∧ -d ≤ c ∧ c ≤ d ∧ (0 ≤ o + c ∧ o + c < (L.length : Int) ∧ -10000000000 ≤ rd L (o + c) ∧ rd L (o + c) ≤ 100000000000) ∧ ¬ rd L (o + c) = -1 ∧ n ≤ t + rd L (o + c) := by
  unfold hitB at h
  split at h
  · cases h
  split at h
  · cases h
  split at h
  · cases h
  split at h
  · split at h
    · cases h
    · rename_i h1 h2 h3 h4 h5
      refine ⟨by simpa using h1, by omega, by omega, h4, h5, ?_⟩
      exact of_decide_eq_true (Option.some.inj h)
  · cases h
theorem hitB_false {dl d c o t n : Int} {L : List Int} (h : hitB dl d c o t n L = some false) : ¬ dl.tmod 2 = 0 ∨ (dl.tmod 2 = 0 ∧ c < -d) ∨ (dl.tmod 2 = 0 ∧ -d ≤ c ∧ d < c) ∨
    (dl.tmod 2 = 0 ∧ -d ≤ c ∧ c ≤ d ∧ (0 ≤ o + c ∧ o + c < (L.length : Int) ∧ -10000000000 ≤ rd L (o + c) ∧ rd L (o + c) ≤ 100000000000) ∧ (rd L (o + c) = -1 ∨ (¬ rd L (o + c) = -1 ∧ ¬ n ≤ t + rd L (o + c)))) := by
  unfold hitB at h
  split at h
  · rename_i h1; exact .inl h1
  split at h
  · rename_i h1 h2; exact .inr (.inl ⟨by simpa using h1, h2⟩)
  split at h
  · rename_i h1 h2 h3; exact .inr (.inr (.inl ⟨by simpa using h1, by omega, h3⟩))
  split at h
  · rename_i h1 h2 h3 h4
    split at h
    · rename_i h5; exact .inr (.inr (.inr ⟨by simpa using h1, by omega, by omega, h4, .inl h5⟩))
    · rename_i h5
      exact .inr (.inr (.inr ⟨by simpa using h1, by omega, by omega, h4, .inr ⟨h5, of_decide_eq_false (Option.some.inj h)⟩⟩))
  · cases h
theorem mid_ret {w w3 : World} {bx bz gf gr p q N capF capR : Nat} {a0 a1 b0 b1 : Int} {fo re : List Int} (h : Mid w w3 bx bz gf gr p q N capF capR a0 a1 b0 b1 fo re) (x y z t : Int) :
    ((((w3.setCell ⟨bz, 0, none⟩ (.int .i64 x)).setCell ⟨bz, 1, none⟩ (.int .i64 y)).setCell ⟨bz, 2, none⟩ (.int .i64 z)).setCell ⟨bz, 3, none⟩ (.int .i64 t)).heap[bz]? = some (.cells #[.int .i64 x, .int .i64 y, .int .i64 z, .int .i64 t] 192 (0, 0)) ∧
    Below w.heap.size w ((((w3.setCell ⟨bz, 0, none⟩ (.int .i64 x)).setCell ⟨bz, 1, none⟩ (.int .i64 y)).setCell ⟨bz, 2, none⟩ (.int .i64 z)).setCell ⟨bz, 3, none⟩ (.int .i64 t)) :=
  ⟨blk_set (blk_set (blk_set (blk_set h.Z 0 _) 1 _) 2 _) 3 _, below_set (below_set (below_set (below_set h.below h.ge.2.1) h.ge.2.1) h.ge.2.1) h.ge.2.1⟩

set_option maxHeartbeats 16000000 in
set_option maxRecDepth 100000 in
theorem lcs_finder_middle.calls (K g A0 c0 A1 c1 : _) (v : Value) (a b : List Int) (a0 a1 b0 b1 : Int) (r1 r2 r3 r4 : Int) (w : World)
    (hblk : w.heap[g]? = some (.cells #[.slice A0 a.length c0, .slice A1 b.length c1, v] 130 (0, 0))) (hr0 : Kd.C (Kd.int .i64) w A0 a.length a) (hr1 : Kd.C (Kd.int .i64) w A1 b.length b)
    (h : lcs_finder_middle.f K a b a0 a1 b0 b1 = some (r1, r2, r3, r4)) :
    Calls Try.prog 126 #[.pointer (some ⟨g, 0, none⟩), .agg #[.int .i64 a0, .int .i64 a1, .int .i64 b0, .int .i64 b1]] w fun e w' =>
      e = .returned (.agg #[.int .i64 r1, .int .i64 r2, .int .i64 r3, .int .i64 r4]) ∧ Below w.heap.size w w' := by
  unfold lcs_finder_middle.f at h
  split at h
  case isFalse => cases h
  rename_i hG
  obtain ⟨g1, g2, g3, g4, g5, g6, g7, g8⟩ := hG
  have HM := Aside0.mk h
  have HBLK := Aside0.mk hblk
  have HR0 := Aside0.mk hr0
  have HR1 := Aside0.mk hr1
  clear h hblk hr0 hr1
  have hu206 := Try.underlying206
  have hu133 := Try.underlying133
  have hu192 := Try.underlying192
  obtain ⟨N, hN⟩ : ∃ N : Nat, a1 - a0 + (b1 - b0) = (N : Int) := ⟨(a1 - a0 + (b1 - b0)).toNat, by omega⟩
  have hNb : N ≤ 2000000000 := by omega
  rw [hN, Int.toNat_natCast] at HM
  obtain ⟨dl, hdl⟩ : ∃ dl : Int, a1 - a0 - (b1 - b0) = dl := ⟨_, rfl⟩
  have hdl0 : -1000000000 ≤ dl := by omega
  have hdl1 : dl ≤ 1000000000 := by omega
  have HDL := Aside0.mk hdl
  go_enter Try.func126, Try.ntmps126
  go_wp2_with fail
  go_quiet (fail)
  go_wp2_with fail
  refine (lcs_newRun.hcalls N _ hNb).mono ?_
  rintro e w1 ⟨p, capF, rfl, ho1, hb1⟩
  have HO1 := Aside0.mk ho1
  have HB1 := Aside0.mk hb1
  clear ho1 hb1
  go_wp2_with fail
  refine (lcs_newRun.hcalls N _ hNb).mono ?_
  rintro e w2 ⟨q, capR, rfl, ho2, hb2⟩
  have HO2 := Aside0.mk ho2
  have HB2 := Aside0.mk hb2
  clear ho2 hb2
  go_wp2_with fail
  have HM0 : Aside0 (Mid w ((w2.alloc (.cells #[.slice (some ⟨p, 0, none⟩) (2 * N + 3) capF, .int .i64 ((N : Int) + 1)] 206 (0, 0))).alloc (.cells #[.slice (some ⟨q, 0, none⟩) (2 * N + 3) capR, .int .i64 ((N : Int) + 1)] 206 (0, 0)))
      w.heap.size (w.heap.size + 1) w2.heap.size (w2.heap.size + 1) p q N capF capR a0 a1 b0 b1 (newL N) (newL N)) := by
    have hp := Kd.R_base HO1.out p rfl
    have hq := Kd.R_base HO2.out q rfl
    have hpl := Kd.R_lt HO1.out p rfl
    have hx : w1.heap[w.heap.size]? = some (.cells #[.int .i64 a0, .int .i64 a1, .int .i64 b0, .int .i64 b1] 133 (0, 0)) := blk_below (blk_drewN (blk_alloc (blk_new w _) _) nq) HB1.out
    have hz : w1.heap[w.heap.size + 1]? = some (.cells #[.int .i64 0, .int .i64 0, .int .i64 0, .int .i64 0] 192 (0, 0)) := by
      have := blk_below (blk_drewN (blk_new (w.alloc (.cells #[.int .i64 a0, .int .i64 a1, .int .i64 b0, .int .i64 b1] 133 (0, 0))) (.cells #[.int .i64 0, .int .i64 0, .int .i64 0, .int .i64 0] 192 (0, 0))) nq) HB1.out
      simpa using this
    have hb1 : Below w.heap.size w w1 := below_step (pw_below_drewN (below_alloc (below_alloc (Below.refl _ _) _) _) nq) HB1.out
    have hb2 : Below w.heap.size w w2 := below_step hb1 HB2.out
    have hs1 : w.heap.size ≤ w1.heap.size := hb1.size
    have hs2 : w.heap.size ≤ w2.heap.size := hb2.size
    have hp : w.heap.size + 1 + 1 ≤ p := by simpa using hp
    refine ⟨below_alloc (below_alloc hb2 _) _, blk_alloc (blk_alloc (blk_below hx HB2.out) _) _, blk_alloc (blk_alloc (blk_below hz HB2.out) _) _, blk_alloc (blk_new w2 _) _, ?_, ?_, ?_, newL_length N, newL_length N, ⟨Nat.le_refl _, by omega, hs2, by omega⟩⟩
    · have := blk_new (w2.alloc (.cells #[.slice (some ⟨p, 0, none⟩) (2 * N + 3) capF, .int .i64 ((N : Int) + 1)] 206 (0, 0))) (.cells #[.slice (some ⟨q, 0, none⟩) (2 * N + 3) capR, .int .i64 ((N : Int) + 1)] 206 (0, 0))
      simpa using this
    · exact Kd.R_alloc (Kd.R_alloc (Kd.R_mono (Kd.R_lower (Kd.R_below HO1.out HB2.out) (by simp; omega)) (fun k hk => by omega)) _) _
    · exact Kd.R_alloc (Kd.R_alloc (Kd.R_mono (Kd.R_lower HO2.out (by omega)) (fun k hk => by omega)) _) _
  clear HO1 HO2 HB1 HB2
  go_loopg [10] K (fun kq v10 wr => ∃ (d : Int) (fo re : List Int), v10 = .int .i64 d ∧ Aside0 (lcs_finder_middle.l0 kq a b a0 a1 b0 b1 ((N : Int) + 1) ((N : Int) + 1) fo re d = some (r1, r2, r3, r4)) ∧ Aside0 (kq ≤ K) ∧ Aside0 (Mid w wr w.heap.size (w.heap.size + 1) w2.heap.size (w2.heap.size + 1) p q N capF capR a0 a1 b0 b1 fo re))
  case atStart => exact ⟨0, newL N, newL N, rfl, HM, ⟨Nat.le_refl _⟩, HM0⟩
  case round =>
    clear HM0 HM hN hdl
    obtain ⟨d, fo, re, rfl, HA, HK1, HD⟩ := hrel
    cases gk with
    | zero => exact absurd HA.out (by simp [lcs_finder_middle.l0])
    | succ k1 =>
      have H := HA.out
      clear HA
      simp only [lcs_finder_middle.l0] at H
      split at H
      case isFalse => cases H
      rename_i hd
      obtain ⟨hd0, hd1⟩ := hd
      have H' := Aside0.mk H
      clear H
      go_wp2
      go_loopg [11] k1 (fun kq v11 wr => ∃ (k : Int) (fo : List Int), v11 = .int .i64 k ∧ Aside0 (lcs_finder_middle.l1 kq a b a0 a1 b0 b1 ((N : Int) + 1) ((N : Int) + 1) fo re d k = some (r1, r2, r3, r4)) ∧ Aside0 (kq ≤ k1) ∧ Aside0 (Mid w wr w.heap.size (w.heap.size + 1) w2.heap.size (w2.heap.size + 1) p q N capF capR a0 a1 b0 b1 fo re))
      case atStart => exact ⟨-d, fo, rfl, H', ⟨Nat.le_refl _⟩, HD⟩
      case round =>
        clear H' HD
        obtain ⟨k, fo, rfl, HA, HK2, HD⟩ := hrel
        cases gk with
        | zero => exact absurd HA.out (by simp [lcs_finder_middle.l1])
        | succ k2 =>
          have H := HA.out
          clear HA
          simp only [lcs_finder_middle.l1] at H
          by_cases hk : k ≤ d
          · rw [if_pos hk, HDL.out] at H
            obtain ⟨⟨u0, u⟩, hF, H⟩ := Option.bind_eq_some_iff.1 H
            obtain ⟨hh, hH, H⟩ := Option.bind_eq_some_iff.1 H
            simp only at hH H
            obtain ⟨⟨bu0, bu1, bu2, bu3, bu4⟩, bk0, bk1⟩ := forth_bounds hF
            have HF := Aside0.mk hF
            have HX := Aside0.mk HD.out.X
            have HFF := Aside0.mk HD.out.F
            have HBG := Aside0.mk (blk_below HBLK.out HD.out.below)
            have HC0 := Aside0.mk (Kd.C_below HR0.out HD.out.below)
            have HC1 := Aside0.mk (Kd.C_below HR1.out HD.out.below)
            clear hF
            have hx0 := (blk_cell HX.out 0).trans (show _ = some (Value.int .i64 a0) from rfl)
            have hx1 := (blk_cell HX.out 1).trans (show _ = some (Value.int .i64 a1) from rfl)
            have hx2 := (blk_cell HX.out 2).trans (show _ = some (Value.int .i64 b0) from rfl)
            have hx3 := (blk_cell HX.out 3).trans (show _ = some (Value.int .i64 b1) from rfl)
            have hy0 := (blk_cell HFF.out 0).trans (show _ = some (Value.slice (some ⟨p, 0, none⟩) (2 * N + 3) capF) from rfl)
            have hy1 := (blk_cell HFF.out 1).trans (show _ = some (Value.int .i64 ((N : Int) + 1)) from rfl)
            have hkd : decide (k ≤ d) = true := decide_eq_true hk
            obtain ⟨c, hc⟩ : ∃ c : Int, dl - k = c := ⟨_, rfl⟩
            rw [hc] at hH
            have HH := Aside0.mk hH
            have HHH := Aside0.mk H
            clear hH H
            go_wp2_with fail
            refine (forth_n (2 * N + 3) g p capF A0 c0 A1 c1 v a b a0 a1 b0 b1 fo ((N : Int) + 1) k d u0 u w.heap.size _ _ HD.out.lf HBG.out HC0.out HC1.out HD.out.Rf HF.out).mono ?_
            rintro e w3 ⟨rfl, hR3, hg3⟩
            have HD3 := Aside0.mk (Mid.fore HD.out hR3 hg3 (by rw [List.length_set]; exact HD.out.lf))
            clear hR3 hg3 hx0 hx1 hx2 hx3 hy0 hy1 HD HX HFF HBG HC0 HC1
            have hG0 := (blk_cell HD3.out.G 0).trans (show _ = some (Value.slice (some ⟨q, 0, none⟩) (2 * N + 3) capR) from rfl)
            have hG1 := (blk_cell HD3.out.G 1).trans (show _ = some (Value.int .i64 ((N : Int) + 1)) from rfl)
            cases hh with
            | true =>
              obtain ⟨m1, m2, m3, m4, m5, m6⟩ := hitF_true HH.out
              have hr := HHH.out
              rw [if_pos rfl] at hr
              simp only [Option.some.injEq, Prod.mk.injEq] at hr
              obtain ⟨rfl, rfl, rfl, rfl⟩ := hr
              clear HHH HH
              obtain ⟨ix, hix⟩ : ∃ ix : Int, (N : Int) + 1 + c = ix := ⟨_, rfl⟩
              obtain ⟨z, hz⟩ : ∃ z : Int, rd re ix = z := ⟨_, rfl⟩
              simp only [hix, hz] at m4 m5 m6
              obtain ⟨m40, m41, m42, m43⟩ := m4
              have m41' : ix < 2 * (N : Int) + 3 := by have := HD3.out.lr; omega
              have HCE := Aside0.mk (Kd.R_cell 0 (xs := re) (g := q) (cap := capR) (by rw [HD3.out.lr]; exact HD3.out.Rr) ix m40 m41)
              have hce := HCE.out.1.trans (show _ = some (Value.int .i64 z) from by rw [← hz]; rfl)
              clear hz HCE
              have t1 : (dl.tmod 2 != 0) = true := bne_iff_ne.mpr m1
              have t5 : (z != -1) = true := bne_iff_ne.mpr m5
              have hX0 := (blk_cell HD3.out.X 0).trans (show _ = some (Value.int .i64 a0) from rfl)
              have hX2 := (blk_cell HD3.out.X 2).trans (show _ = some (Value.int .i64 b0) from rfl)
              have hZ0 := (blk_cell HD3.out.Z 0).trans (show _ = some (Value.int .i64 0) from rfl)
              have hZ1 := (blk_cell HD3.out.Z 1).trans (show _ = some (Value.int .i64 0) from rfl)
              have hZ2 := (blk_cell HD3.out.Z 2).trans (show _ = some (Value.int .i64 0) from rfl)
              have hZ3 := (blk_cell HD3.out.Z 3).trans (show _ = some (Value.int .i64 0) from rfl)
              have hf0 := blk_frozen HD3.out.Z 0
              have hf1 := blk_frozen HD3.out.Z 1
              have hf2 := blk_frozen HD3.out.Z 2
              have hf3 := blk_frozen HD3.out.Z 3
              clear m1 m5
              go_wp2
              have HE := mid_ret HD3.out (a0 + u0) (b0 + u0 - k) (u - u0) (2 * d - 1)
              refine bodyPost_ret (results_cell_row rfl _ _ (w.heap.size + 1) 192 _ (0, 0) _ rfl HE.1 Try.underlying192 rfl (by kernel_rfl)) rfl ⟨rfl, HE.2⟩
            | false =>
              have hr := HHH.out
              rw [if_neg (by simp)] at hr
              have HM3 := Aside0.mk hr
              clear hr HHH
              have hm := hitF_false HH.out
              clear HH
              rcases hm with m1 | ⟨m1, m2⟩ | ⟨m1, m2, m3⟩ | ⟨m1, m2, m3, m4, m5⟩
              · have t1 : (dl.tmod 2 != 0) = false := bne_eq_false_iff_eq.mpr m1
                clear m1
                go_wp2
                go_roundg k2
                case measure => have := HK2.out; omega
                case rel => exact ⟨k + 2, _, rfl, HM3, ⟨by have := HK2.out; omega⟩, HD3⟩
              · have t1 : (dl.tmod 2 != 0) = true := bne_iff_ne.mpr m1
                have t2 : ¬ (-(d - 1) ≤ c) := by omega
                clear m1
                go_wp2
                go_roundg k2
                case measure => have := HK2.out; omega
                case rel => exact ⟨k + 2, _, rfl, HM3, ⟨by have := HK2.out; omega⟩, HD3⟩
              · have t1 : (dl.tmod 2 != 0) = true := bne_iff_ne.mpr m1
                have t3 : ¬ (c ≤ d - 1) := by omega
                clear m1
                go_wp2
                go_roundg k2
                case measure => have := HK2.out; omega
                case rel => exact ⟨k + 2, _, rfl, HM3, ⟨by have := HK2.out; omega⟩, HD3⟩
              · have t1 : (dl.tmod 2 != 0) = true := bne_iff_ne.mpr m1
                clear m1
                obtain ⟨ix, hix⟩ : ∃ ix : Int, (N : Int) + 1 + c = ix := ⟨_, rfl⟩
                obtain ⟨z, hz⟩ : ∃ z : Int, rd re ix = z := ⟨_, rfl⟩
                simp only [hix, hz] at m4 m5
                obtain ⟨m40, m41, m42, m43⟩ := m4
                have m41' : ix < 2 * (N : Int) + 3 := by have := HD3.out.lr; omega
                have HCE := Aside0.mk (Kd.R_cell 0 (xs := re) (g := q) (cap := capR) (by rw [HD3.out.lr]; exact HD3.out.Rr) ix m40 m41)
                have hce := HCE.out.1.trans (show _ = some (Value.int .i64 z) from by rw [← hz]; rfl)
                clear hz HCE
                rcases m5 with m5 | ⟨m5, m6⟩
                · have t5 : (z != -1) = false := bne_eq_false_iff_eq.mpr m5
                  clear m5
                  go_wp2
                  go_roundg k2
                  case measure => have := HK2.out; omega
                  case rel => exact ⟨k + 2, _, rfl, HM3, ⟨by have := HK2.out; omega⟩, HD3⟩
                · have t5 : (z != -1) = true := bne_iff_ne.mpr m5
                  clear m5
                  go_wp2
                  go_roundg k2
                  case measure => have := HK2.out; omega
                  case rel => exact ⟨k + 2, _, rfl, HM3, ⟨by have := HK2.out; omega⟩, HD3⟩
          · rw [if_neg hk] at H
            have hkd : decide (k ≤ d) = false := decide_eq_false hk
            have H' := Aside0.mk H
            clear H
            go_wp2
            go_loopg [15] k2 (fun kq v15 wr => ∃ (k : Int) (re : List Int), v15 = .int .i64 k ∧ Aside0 (lcs_finder_middle.l2 kq a b a0 a1 b0 b1 ((N : Int) + 1) ((N : Int) + 1) fo re d k = some (r1, r2, r3, r4)) ∧ Aside0 (kq ≤ k2) ∧ Aside0 (Mid w wr w.heap.size (w.heap.size + 1) w2.heap.size (w2.heap.size + 1) p q N capF capR a0 a1 b0 b1 fo re))
            case atStart => exact ⟨-d, re, rfl, H', ⟨Nat.le_refl _⟩, HD⟩
            case round =>
              clear H' HD hkd hk
              obtain ⟨k, re, rfl, HA, HK3, HD⟩ := hrel
              cases gk with
              | zero => exact absurd HA.out (by simp [lcs_finder_middle.l2])
              | succ k3 =>
                have H := HA.out
                clear HA
                simp only [lcs_finder_middle.l2] at H
                by_cases hk : k ≤ d
                · rw [if_pos hk, HDL.out] at H
                  obtain ⟨⟨u0, u⟩, hF, H⟩ := Option.bind_eq_some_iff.1 H
                  obtain ⟨hh, hH, H⟩ := Option.bind_eq_some_iff.1 H
                  simp only at hH H
                  obtain ⟨⟨bu0, bu1, bu2, bu3, bu4⟩, bk0, bk1⟩ := back_bounds hF
                  have HF := Aside0.mk hF
                  have HX := Aside0.mk HD.out.X
                  have HFF := Aside0.mk HD.out.G
                  have HBG := Aside0.mk (blk_below HBLK.out HD.out.below)
                  have HC0 := Aside0.mk (Kd.C_below HR0.out HD.out.below)
                  have HC1 := Aside0.mk (Kd.C_below HR1.out HD.out.below)
                  clear hF
                  have hx0 := (blk_cell HX.out 0).trans (show _ = some (Value.int .i64 a0) from rfl)
                  have hx1 := (blk_cell HX.out 1).trans (show _ = some (Value.int .i64 a1) from rfl)
                  have hx2 := (blk_cell HX.out 2).trans (show _ = some (Value.int .i64 b0) from rfl)
                  have hx3 := (blk_cell HX.out 3).trans (show _ = some (Value.int .i64 b1) from rfl)
                  have hy0 := (blk_cell HFF.out 0).trans (show _ = some (Value.slice (some ⟨q, 0, none⟩) (2 * N + 3) capR) from rfl)
                  have hy1 := (blk_cell HFF.out 1).trans (show _ = some (Value.int .i64 ((N : Int) + 1)) from rfl)
                  have hkd : decide (k ≤ d) = true := decide_eq_true hk
                  obtain ⟨c, hc⟩ : ∃ c : Int, dl - k = c := ⟨_, rfl⟩
                  rw [hc] at hH
                  have HH := Aside0.mk hH
                  have HHH := Aside0.mk H
                  clear hH H
                  go_wp2_with fail
                  refine (back_n (2 * N + 3) g q capR A0 c0 A1 c1 v a b a0 a1 b0 b1 re ((N : Int) + 1) k d u0 u w.heap.size _ _ HD.out.lr HBG.out HC0.out HC1.out HD.out.Rr HF.out).mono ?_
                  rintro e w3 ⟨rfl, hR3, hg3⟩
                  have HD3 := Aside0.mk (Mid.rear HD.out hR3 hg3 (by rw [List.length_set]; exact HD.out.lr))
                  clear hR3 hg3 hx0 hx1 hx2 hx3 hy0 hy1 HD HX HFF HBG HC0 HC1
                  have hG0 := (blk_cell HD3.out.F 0).trans (show _ = some (Value.slice (some ⟨p, 0, none⟩) (2 * N + 3) capF) from rfl)
                  have hG1 := (blk_cell HD3.out.F 1).trans (show _ = some (Value.int .i64 ((N : Int) + 1)) from rfl)
                  cases hh with
                  | true =>
                    obtain ⟨m1, m2, m3, m4, m5, m6⟩ := hitB_true HH.out
                    have hr := HHH.out
                    rw [if_pos rfl] at hr
                    simp only [Option.some.injEq, Prod.mk.injEq] at hr
                    obtain ⟨rfl, rfl, rfl, rfl⟩ := hr
                    clear HHH HH
                    obtain ⟨ix, hix⟩ : ∃ ix : Int, (N : Int) + 1 + c = ix := ⟨_, rfl⟩
                    obtain ⟨z, hz⟩ : ∃ z : Int, rd fo ix = z := ⟨_, rfl⟩
                    simp only [hix, hz] at m4 m5 m6
                    obtain ⟨m40, m41, m42, m43⟩ := m4
                    have m41' : ix < 2 * (N : Int) + 3 := by have := HD3.out.lf; omega
                    have HCE := Aside0.mk (Kd.R_cell 0 (xs := fo) (g := p) (cap := capF) (by rw [HD3.out.lf]; exact HD3.out.Rf) ix m40 m41)
                    have hce := HCE.out.1.trans (show _ = some (Value.int .i64 z) from by rw [← hz]; rfl)
                    clear hz HCE
                    have t1 : (dl.tmod 2 == 0) = true := beq_iff_eq.mpr m1
                    have t5 : (z != -1) = true := bne_iff_ne.mpr m5
                    have hX1 := (blk_cell HD3.out.X 1).trans (show _ = some (Value.int .i64 a1) from rfl)
                    have hX3 := (blk_cell HD3.out.X 3).trans (show _ = some (Value.int .i64 b1) from rfl)
                    have hZ0 := (blk_cell HD3.out.Z 0).trans (show _ = some (Value.int .i64 0) from rfl)
                    have hZ1 := (blk_cell HD3.out.Z 1).trans (show _ = some (Value.int .i64 0) from rfl)
                    have hZ2 := (blk_cell HD3.out.Z 2).trans (show _ = some (Value.int .i64 0) from rfl)
                    have hZ3 := (blk_cell HD3.out.Z 3).trans (show _ = some (Value.int .i64 0) from rfl)
                    have hf0 := blk_frozen HD3.out.Z 0
                    have hf1 := blk_frozen HD3.out.Z 1
                    have hf2 := blk_frozen HD3.out.Z 2
                    have hf3 := blk_frozen HD3.out.Z 3
                    clear m1 m5
                    go_wp2
                    have HE := mid_ret HD3.out (a1 - u) (b1 - (u - k)) (u - u0) (2 * d)
                    refine bodyPost_ret (results_cell_row rfl _ _ (w.heap.size + 1) 192 _ (0, 0) _ rfl HE.1 Try.underlying192 rfl (by kernel_rfl)) rfl ⟨rfl, HE.2⟩
                  | false =>
                    have hr := HHH.out
                    rw [if_neg (by simp)] at hr
                    have HM3 := Aside0.mk hr
                    clear hr HHH
                    have hm := hitB_false HH.out
                    clear HH
                    rcases hm with m1 | ⟨m1, m2⟩ | ⟨m1, m2, m3⟩ | ⟨m1, m2, m3, m4, m5⟩
                    · have t1 : (dl.tmod 2 == 0) = false := beq_eq_false_iff_ne.mpr m1
                      clear m1
                      go_wp2
                      go_roundg k3
                      case measure => have := HK3.out; omega
                      case rel => exact ⟨k + 2, _, rfl, HM3, ⟨by have := HK3.out; omega⟩, HD3⟩
                    · have t1 : (dl.tmod 2 == 0) = true := beq_iff_eq.mpr m1
                      have t2 : ¬ (-d ≤ c) := by omega
                      clear m1
                      go_wp2
                      go_roundg k3
                      case measure => have := HK3.out; omega
                      case rel => exact ⟨k + 2, _, rfl, HM3, ⟨by have := HK3.out; omega⟩, HD3⟩
                    · have t1 : (dl.tmod 2 == 0) = true := beq_iff_eq.mpr m1
                      have t3 : ¬ (c ≤ d) := by omega
                      clear m1
                      go_wp2
                      go_roundg k3
                      case measure => have := HK3.out; omega
                      case rel => exact ⟨k + 2, _, rfl, HM3, ⟨by have := HK3.out; omega⟩, HD3⟩
                    · have t1 : (dl.tmod 2 == 0) = true := beq_iff_eq.mpr m1
                      clear m1
                      obtain ⟨ix, hix⟩ : ∃ ix : Int, (N : Int) + 1 + c = ix := ⟨_, rfl⟩
                      obtain ⟨z, hz⟩ : ∃ z : Int, rd fo ix = z := ⟨_, rfl⟩
                      simp only [hix, hz] at m4 m5
                      obtain ⟨m40, m41, m42, m43⟩ := m4
                      have m41' : ix < 2 * (N : Int) + 3 := by have := HD3.out.lf; omega
                      have HCE := Aside0.mk (Kd.R_cell 0 (xs := fo) (g := p) (cap := capF) (by rw [HD3.out.lf]; exact HD3.out.Rf) ix m40 m41)
                      have hce := HCE.out.1.trans (show _ = some (Value.int .i64 z) from by rw [← hz]; rfl)
                      clear hz HCE
                      rcases m5 with m5 | ⟨m5, m6⟩
                      · have t5 : (z != -1) = false := bne_eq_false_iff_eq.mpr m5
                        clear m5
                        go_wp2
                        go_roundg k3
                        case measure => have := HK3.out; omega
                        case rel => exact ⟨k + 2, _, rfl, HM3, ⟨by have := HK3.out; omega⟩, HD3⟩
                      · have t5 : (z != -1) = true := bne_iff_ne.mpr m5
                        clear m5
                        go_wp2
                        go_roundg k3
                        case measure => have := HK3.out; omega
                        case rel => exact ⟨k + 2, _, rfl, HM3, ⟨by have := HK3.out; omega⟩, HD3⟩
                · rw [if_neg hk] at H
                  have hkd : decide (k ≤ d) = false := decide_eq_false hk
                  have HM3 := Aside0.mk H
                  clear H
                  go_wp2
                  go_roundg k3
                  case measure => have := HK2.out; have := HK3.out; omega
                  case rel => exact ⟨d + 1, fo, re, rfl, HM3, ⟨by have := HK1.out; have := HK2.out; have := HK3.out; omega⟩, HD⟩

end Go.Proofs.Ytadafplbgophfaa.PA
