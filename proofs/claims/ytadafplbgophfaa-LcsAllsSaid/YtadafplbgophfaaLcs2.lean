import Derived.Test.YtadafplbgophfaaH27
import Derived.Test.YtadafplbgophfaaLcs1
namespace Go.Proofs.Ytadafplbgophfaa.PA
set_option linter.unusedVariables false
open Go.RowKit Go.Proofs.YtadafplbgophfaaW.PrintWords Go.Proofs.YtadafplbgophfaaW.PrintLast Go.Proofs.YtadafplbgophfaaW.PrintMore
open Go.Proofs.Ytadafplbgophfaa.TriLcs

theorem w64 {x : Int} (h0 : -9223372036854775808 ≤ x) (h1 : x ≤ 9223372036854775807) : wrap64 x = x := by unfold wrap64; omega
theorem rd_nat (xs : List Int) (i : Nat) : rd xs (i : Int) = xs.getD i 0 := by simp [rd]

/-- from i up to j -/
def seg (a : List Int) (i j : Nat) : List Int := (a.take j).drop i
theorem seg_length (a : List Int) {i j : Nat} (h : j ≤ a.length) : (seg a i j).length = j - i := by unfold seg; rw [List.length_drop, List.length_take]; omega
theorem seg_getD (a : List Int) {i j t : Nat} (ht : i + t < j) : (seg a i j).getD t 0 = a.getD (i + t) 0 := by
  unfold seg
  simp only [List.getD_eq_getElem?_getD, List.getElem?_drop, List.getElem?_take]
  rw [if_pos ht]
/-- both have the same there -/
def M (A B : List Int) (x y : Nat) : Prop := x < A.length ∧ y < B.length ∧ A.getD x 0 = B.getD y 0
theorem M.get {A B : List Int} {x y : Nat} (h : M A B x y) : A[x]'h.1 = B[y]'h.2.1 := by
  have := h.2.2
  simpa [List.getD_eq_getElem?_getD, h.1, h.2.1] using this
theorem M.of {A B : List Int} {x y : Nat} (hx : x < A.length) (hy : y < B.length) (h : A[x] = B[y]) : M A B x y := ⟨hx, hy, by simp [List.getD_eq_getElem?_getD, hx, hy, h]⟩

theorem begin_run {A B : List Int} {d k : Int} {x y : Nat} (h : Begin A B d k x) (hk : (x : Int) - y = k) : ∀ i : Nat, (∀ t, t < i → M A B (x + t) (y + t)) → Begin A B d k ((x + i : Nat) : Int) ∧ f A B (x + i) (y + i) = f A B x y := by
  intro i
  induction i with
  | zero => intro _; exact ⟨h, rfl⟩
  | succ i ih =>
    intro hm
    obtain ⟨h1, h2⟩ := ih (fun t ht => hm t (by omega))
    have hi := hm i (by omega)
    refine ⟨?_, ?_⟩
    · have := begin_on h1 (by omega) hi.1 hi.2.1 hi.get
      rw [show ((x + (i + 1) : Nat) : Int) = ((x + i : Nat) : Int) + 1 from by omega]; exact this
    · have := f_match hi.1 hi.2.1 hi.get
      rw [← h2, ← this]; rfl
theorem begin_stop {A B : List Int} {d k : Int} {x y : Nat} (h : Begin A B d k x) (hk : (x : Int) - y = k) (i : Nat) (hm : ∀ t, t < i → M A B (x + t) (y + t)) (he : ¬ M A B (x + i) (y + i)) : Far A B d k ((x + i : Nat) : Int) :=
  begin_end (begin_run h hk i hm).1 (by omega) (fun hx hy e => he (M.of hx hy e))
theorem far_le {A B : List Int} {d k u : Int} (h : Far A B d k u) : 0 ≤ u ∧ u ≤ A.length + d := by
  obtain ⟨x, y, rfl, _, h1, _⟩ := h
  have h2 := lcs_le_left (A.take x) (B.take y)
  have h3 := lcs_le_right (A.take x) (B.take y)
  have h4 := List.length_take_le x A
  have h5 := List.length_take_le' x A
  have h6 := List.length_take_le y B
  unfold f at h1
  omega

/-- a way of pairs: from (x, y) on, i of them -/
structure Way (A B : List Int) (k u0 u : Int) (x y i : Nat) : Prop where
  e0 : u0 = x
  ek : (x : Int) - y = k
  e1 : u = ((x + i : Nat) : Int)
  run : ∀ t, t < i → M A B (x + t) (y + t)

theorem forth_ok {a b : List Int} {a0 a1 b0 b1 : Nat} (ha : a0 ≤ a1) (ha1 : a1 ≤ a.length) (hb : b0 ≤ b1) (hb1 : b1 ≤ b.length) (hla : a.length ≤ 1000000000) (hlb : b.length ≤ 1000000000)
    {L : List Int} {off k d u0 : Int} (hk : -10000000000 ≤ k ∧ k ≤ 10000000000) (ho : 0 ≤ off ∧ off ≤ 10000000000) (h0 : 0 ≤ off + k) (h1 : off + k < L.length) (hd : d ≤ 3000000000)
    (hbeg : lcs_run_begin.f L off k d = some u0) (hB : Begin (seg a a0 a1) (seg b b0 b1) d k u0) (hu : u0 ≤ 10000000000) :
    ∃ u x y i, lcs_finder_forth.f a b a0 a1 b0 b1 L off k d = some (u0, u) ∧ Far (seg a a0 a1) (seg b b0 b1) d k u ∧ Way (seg a a0 a1) (seg b b0 b1) k u0 u x y i := by
  have hla' := seg_length a (i := a0) ha1
  have hlb' := seg_length b (i := b0) hb1
  obtain ⟨x, y, rfl, hxy, _⟩ := id hB
  have hfp : ∀ t : Nat, fp a b a0 a1 b0 b1 k (x + t) = true ↔ M (seg a a0 a1) (seg b b0 b1) (x + t) (y + t) := by
    intro t
    unfold fp M
    rw [decide_eq_true_iff, hla', hlb']
    constructor
    · rintro ⟨q1, q2, q3⟩
      refine ⟨by omega, by omega, ?_⟩
      rw [seg_getD a (by omega), seg_getD b (by omega), ← rd_nat, ← rd_nat]
      rw [show ((a0 + (x + t) : Nat) : Int) = (a0 : Int) + ((x + t : Nat) : Int) from by omega, show ((b0 + (y + t) : Nat) : Int) = (b0 : Int) + ((x + t : Nat) : Int) - k from by omega]
      exact q3
    · rintro ⟨q1, q2, q3⟩
      refine ⟨by omega, by omega, ?_⟩
      rw [seg_getD a (by omega), seg_getD b (by omega), ← rd_nat, ← rd_nat] at q3
      rw [show ((a0 + (x + t) : Nat) : Int) = (a0 : Int) + ((x + t : Nat) : Int) from by omega, show ((b0 + (y + t) : Nat) : Int) = (b0 : Int) + ((x + t : Nat) : Int) - k from by omega] at q3
      exact q3
  obtain ⟨s1, s2, s3⟩ := upto_spec (fp a b a0 a1 b0 b1 k) ((a1 : Int) - a0).toNat (fun i hi => by unfold fp; exact decide_eq_false (fun h => by have := h.1; omega)) ((a1 : Int) - a0).toNat (x : Int).toNat (by omega)
  rw [Int.toNat_natCast] at s1 s2 s3
  obtain ⟨i, hi⟩ : ∃ i, upto (fp a b a0 a1 b0 b1 k) ((a1 : Int) - a0).toNat x = x + i := ⟨_, by rw [Nat.add_sub_cancel' s1]⟩
  rw [hi] at s2 s3
  have hrun : ∀ t, t < i → M (seg a a0 a1) (seg b b0 b1) (x + t) (y + t) := fun t ht => (hfp t).1 (s2 (x + t) (by omega) (by omega))
  refine ⟨((x + i : Nat) : Int), x, y, i, ?_, begin_stop hB hxy i hrun (fun h => by rw [(hfp i).2 h] at s3; cases s3), ⟨rfl, hxy, rfl, hrun⟩⟩
  unfold lcs_finder_forth.f
  rw [if_pos ⟨⟨by omega, by omega, by omega, by omega, by omega, by omega, hla, hlb⟩, ⟨hk.1, hk.2, ho.1, ho.2⟩, h0, h1⟩, hbeg, Option.bind_some, if_pos ⟨by omega, hu, by omega⟩, Int.toNat_natCast, hi]

theorem back_ok {a b : List Int} {a0 a1 b0 b1 : Nat} (ha : a0 ≤ a1) (ha1 : a1 ≤ a.length) (hb : b0 ≤ b1) (hb1 : b1 ≤ b.length) (hla : a.length ≤ 1000000000) (hlb : b.length ≤ 1000000000)
    {L : List Int} {off k d u0 : Int} (hk : -10000000000 ≤ k ∧ k ≤ 10000000000) (ho : 0 ≤ off ∧ off ≤ 10000000000) (h0 : 0 ≤ off + k) (h1 : off + k < L.length) (hd : d ≤ 3000000000)
    (hbeg : lcs_run_begin.f L off k d = some u0) (hB : Begin (seg a a0 a1).reverse (seg b b0 b1).reverse d k u0) (hu : u0 ≤ 10000000000) :
    ∃ u x y i, lcs_finder_back.f a b a0 a1 b0 b1 L off k d = some (u0, u) ∧ Far (seg a a0 a1).reverse (seg b b0 b1).reverse d k u ∧ Way (seg a a0 a1).reverse (seg b b0 b1).reverse k u0 u x y i := by
  have hla' := seg_length a (i := a0) ha1
  have hlb' := seg_length b (i := b0) hb1
  have rev : ∀ (l : List Int) (t : Nat), t < l.length → l.reverse.getD t 0 = l.getD (l.length - 1 - t) 0 := by
    intro l t ht
    simp [List.getD_eq_getElem?_getD, List.getElem?_reverse ht]
  obtain ⟨x, y, rfl, hxy, _⟩ := id hB
  have hfp : ∀ t : Nat, bp a b a0 a1 b0 b1 k (x + t) = true ↔ M (seg a a0 a1).reverse (seg b b0 b1).reverse (x + t) (y + t) := by
    intro t
    unfold bp M
    rw [decide_eq_true_iff, List.length_reverse, List.length_reverse, hla', hlb']
    constructor
    · rintro ⟨q1, q2, q3⟩
      refine ⟨by omega, by omega, ?_⟩
      rw [rev _ _ (by omega), rev _ _ (by omega), hla', hlb', seg_getD a (by omega), seg_getD b (by omega), ← rd_nat, ← rd_nat]
      rw [show ((a0 + (a1 - a0 - 1 - (x + t)) : Nat) : Int) = (a1 : Int) - 1 - ((x + t : Nat) : Int) from by omega, show ((b0 + (b1 - b0 - 1 - (y + t)) : Nat) : Int) = (b1 : Int) - 1 - (((x + t : Nat) : Int) - k) from by omega]
      exact q3
    · rintro ⟨q1, q2, q3⟩
      refine ⟨by omega, by omega, ?_⟩
      rw [rev _ _ (by omega), rev _ _ (by omega), hla', hlb', seg_getD a (by omega), seg_getD b (by omega), ← rd_nat, ← rd_nat] at q3
      rw [show ((a0 + (a1 - a0 - 1 - (x + t)) : Nat) : Int) = (a1 : Int) - 1 - ((x + t : Nat) : Int) from by omega, show ((b0 + (b1 - b0 - 1 - (y + t)) : Nat) : Int) = (b1 : Int) - 1 - (((x + t : Nat) : Int) - k) from by omega] at q3
      exact q3
  obtain ⟨s1, s2, s3⟩ := upto_spec (bp a b a0 a1 b0 b1 k) ((a1 : Int) - a0).toNat (fun i hi => by unfold bp; exact decide_eq_false (fun h => by have := h.1; omega)) ((a1 : Int) - a0).toNat (x : Int).toNat (by omega)
  rw [Int.toNat_natCast] at s1 s2 s3
  obtain ⟨i, hi⟩ : ∃ i, upto (bp a b a0 a1 b0 b1 k) ((a1 : Int) - a0).toNat x = x + i := ⟨_, by rw [Nat.add_sub_cancel' s1]⟩
  rw [hi] at s2 s3
  have hrun : ∀ t, t < i → M (seg a a0 a1).reverse (seg b b0 b1).reverse (x + t) (y + t) := fun t ht => (hfp t).1 (s2 (x + t) (by omega) (by omega))
  refine ⟨((x + i : Nat) : Int), x, y, i, ?_, begin_stop hB hxy i hrun (fun h => by rw [(hfp i).2 h] at s3; cases s3), ⟨rfl, hxy, rfl, hrun⟩⟩
  unfold lcs_finder_back.f
  rw [if_pos ⟨⟨by omega, by omega, by omega, by omega, by omega, by omega, hla, hlb⟩, ⟨hk.1, hk.2, ho.1, ho.2⟩, h0, h1⟩, hbeg, Option.bind_some, if_pos ⟨by omega, hu, by omega⟩, Int.toNat_natCast, hi]

end Go.Proofs.Ytadafplbgophfaa.PA
