import Derived.Test.YtadafplbgophfaaLcs3
namespace Go.Proofs.Ytadafplbgophfaa.PA
set_option linter.unusedVariables false
open Go.RowKit Go.Proofs.YtadafplbgophfaaW.PrintWords Go.Proofs.YtadafplbgophfaaW.PrintLast Go.Proofs.YtadafplbgophfaaW.PrintMore
open Go.Proofs.Ytadafplbgophfaa.TriLcs

theorem tmod2 (x : Int) : x.tmod 2 = 0 ↔ x % 2 = 0 := (Int.dvd_iff_tmod_eq_zero).symm.trans Int.dvd_iff_emod_eq_zero

/-- what is cut out of both lists, and sizes -/
structure Ctx (a b : List Int) (a0 a1 b0 b1 N : Nat) (A B : List Int) : Prop where
  ha : a0 ≤ a1
  ha1 : a1 ≤ a.length
  hb : b0 ≤ b1
  hb1 : b1 ≤ b.length
  hla : a.length ≤ 1000000000
  hlb : b.length ≤ 1000000000
  hA : seg a a0 a1 = A
  hB : seg b b0 b1 = B
  hN : N = (a1 - a0) + (b1 - b0)
  h2 : 2 ≤ dist A B

def MissF (A B : List Int) (d j : Int) : Prop := ((A.length : Int) - B.length) % 2 ≠ 0 → -(d - 1) ≤ (A.length : Int) - B.length - j → (A.length : Int) - B.length - j ≤ d - 1 →
  ∃ u w, Far A B d j u ∧ Far A.reverse B.reverse (d - 1) ((A.length : Int) - B.length - j) w ∧ ¬ (A.length : Int) ≤ u + w
def MissB (A B : List Int) (d j : Int) : Prop := ((A.length : Int) - B.length) % 2 = 0 → -d ≤ (A.length : Int) - B.length - j → (A.length : Int) - B.length - j ≤ d →
  ∃ u w, Far A.reverse B.reverse d j u ∧ Far A B d ((A.length : Int) - B.length - j) w ∧ ¬ (A.length : Int) ≤ u + w

theorem hitF_eq {A B : List Int} {N : Nat} {d k u : Int} {re : List Int} (hre : Row A.reverse B.reverse N re d) (hd : 0 ≤ d) (hdN : d ≤ N) (hN : N ≤ 2000000000) (hA : A.length ≤ 1000000000) (h0 : -d ≤ k) (h1 : k ≤ d) (hp : (d - k) % 2 = 0)
    (hu : Far A B d k u) : (hitF ((A.length : Int) - B.length) d ((A.length : Int) - B.length - k) ((N : Int) + 1) u A.length re = some true ∧ -(d - 1) ≤ (A.length : Int) - B.length - k ∧ (A.length : Int) - B.length - k ≤ d - 1 ∧
      ∃ w, Far A.reverse B.reverse (d - 1) ((A.length : Int) - B.length - k) w ∧ (A.length : Int) ≤ u + w) ∨
    (hitF ((A.length : Int) - B.length) d ((A.length : Int) - B.length - k) ((N : Int) + 1) u A.length re = some false ∧ MissF A B d k) := by
  unfold hitF
  by_cases m1 : ((A.length : Int) - B.length).tmod 2 = 0
  · rw [if_pos m1]
    exact .inr ⟨rfl, fun h => absurd ((tmod2 _).1 m1) h⟩
  · rw [if_neg m1]
    have m1' : ((A.length : Int) - B.length) % 2 ≠ 0 := fun h => m1 ((tmod2 _).2 h)
    by_cases m2 : (A.length : Int) - B.length - k < -(d - 1)
    · rw [if_pos m2]; exact .inr ⟨rfl, fun _ h => by omega⟩
    · rw [if_neg m2]
      by_cases m3 : d - 1 < (A.length : Int) - B.length - k
      · rw [if_pos m3]; exact .inr ⟨rfl, fun _ _ h => by omega⟩
      · rw [if_neg m3]
        have hw := hre.2.2 (by omega) ((A.length : Int) - B.length - k) (by omega) (by omega) (by omega)
        have bw := far_le hw
        rw [List.length_reverse] at bw
        have hl := hre.1
        rw [if_pos ⟨by omega, by omega, by omega, by omega⟩, if_neg (by omega)]
        by_cases m4 : (A.length : Int) ≤ u + rd re ((N : Int) + 1 + ((A.length : Int) - B.length - k))
        · exact .inl ⟨by rw [decide_eq_true m4], by omega, by omega, _, hw, m4⟩
        · exact .inr ⟨by rw [decide_eq_false m4], fun _ _ _ => ⟨u, _, hu, hw, m4⟩⟩

theorem hitB_eq {A B : List Int} {N : Nat} {d k u kk : Int} {fo : List Int} (hfo : Done A B N fo d kk) (hkk : d < kk) (hl : fo.length = 2 * N + 3) (hd : 0 ≤ d) (hdN : d ≤ N) (hN : N ≤ 2000000000) (hA : A.length ≤ 1000000000) (h0 : -d ≤ k) (h1 : k ≤ d) (hp : (d - k) % 2 = 0)
    (hu : Far A.reverse B.reverse d k u) : (hitB ((A.length : Int) - B.length) d ((A.length : Int) - B.length - k) ((N : Int) + 1) u A.length fo = some true ∧ -d ≤ (A.length : Int) - B.length - k ∧ (A.length : Int) - B.length - k ≤ d ∧
      ∃ w, Far A B d ((A.length : Int) - B.length - k) w ∧ (A.length : Int) ≤ u + w) ∨
    (hitB ((A.length : Int) - B.length) d ((A.length : Int) - B.length - k) ((N : Int) + 1) u A.length fo = some false ∧ MissB A B d k) := by
  unfold hitB
  by_cases m1 : ((A.length : Int) - B.length).tmod 2 = 0
  · rw [if_neg (by simpa using m1)]
    have m1' : ((A.length : Int) - B.length) % 2 = 0 := (tmod2 _).1 m1
    by_cases m2 : (A.length : Int) - B.length - k < -d
    · rw [if_pos m2]; exact .inr ⟨rfl, fun _ h => by omega⟩
    · rw [if_neg m2]
      by_cases m3 : d < (A.length : Int) - B.length - k
      · rw [if_pos m3]; exact .inr ⟨rfl, fun _ _ h => by omega⟩
      · rw [if_neg m3]
        have hw := hfo ((A.length : Int) - B.length - k) (by omega) (by omega) (by omega)
        have bw := far_le hw
        rw [if_pos ⟨by omega, by omega, by omega, by omega⟩, if_neg (by omega)]
        by_cases m4 : (A.length : Int) ≤ u + rd fo ((N : Int) + 1 + ((A.length : Int) - B.length - k))
        · exact .inl ⟨by rw [decide_eq_true m4], by omega, by omega, _, hw, m4⟩
        · exact .inr ⟨by rw [decide_eq_false m4], fun _ _ _ => ⟨u, _, hu, hw, m4⟩⟩
  · rw [if_pos m1]
    exact .inr ⟨rfl, fun h => absurd ((tmod2 _).2 h) m1⟩

theorem fore_loop {a b : List Int} {a0 a1 b0 b1 N : Nat} {A B : List Int} (c : Ctx a b a0 a1 b0 b1 N A B) {d : Int} (hd : 0 ≤ d) (hdN : d ≤ N) (hD : 2 * d - 1 ≤ dist A B) {re : List Int} (hre : Row A.reverse B.reverse N re d) :
    ∀ (t : Nat) (fo : List Int) (k : Int), d + 2 - k ≤ t → Row A B N fo d → Done A B N fo d k → -d ≤ k → (d - k) % 2 = 0 → (∀ j, -d ≤ j → j < k → (d - j) % 2 = 0 → MissF A B d j) →
      (∃ r, Ev (fun K => lcs_finder_middle.l1 K a b a0 a1 b0 b1 ((N : Int) + 1) ((N : Int) + 1) fo re d k) r ∧ Good A B a0 b0 r) ∨
      (∃ (fo' : List Int) (k' : Int), d < k' ∧ Row A B N fo' d ∧ Done A B N fo' d k' ∧ (∀ j, -d ≤ j → j ≤ d → (d - j) % 2 = 0 → MissF A B d j) ∧
        ∀ R, Ev (fun K => lcs_finder_middle.l2 K a b a0 a1 b0 b1 ((N : Int) + 1) ((N : Int) + 1) fo' re d (-d)) R → Ev (fun K => lcs_finder_middle.l1 K a b a0 a1 b0 b1 ((N : Int) + 1) ((N : Int) + 1) fo re d k) R) := by
  have hlA : A.length = a1 - a0 := by rw [← c.hA]; exact seg_length a c.ha1
  have hlB : B.length = b1 - b0 := by rw [← c.hB]; exact seg_length b c.hb1
  have c1 := c.ha; have c2 := c.ha1; have c3 := c.hb; have c4 := c.hb1; have c5 := c.hla; have c6 := c.hlb; have c7 := c.hN
  intro t
  induction t with
  | zero =>
    intro fo k ht hF hDn hk0 hp hM
    refine .inr ⟨fo, k, by omega, hF, hDn, fun j h0 h1 h2 => hM j h0 (by omega) h2, fun R hR => Ev.step (fun K => ?_) hR⟩
    simp only [lcs_finder_middle.l1]
    rw [if_neg (by omega)]
  | succ t ih =>
    intro fo k ht hF hDn hk0 hp hM
    by_cases hk : k ≤ d
    · obtain ⟨u0, e1, hB, bu⟩ := begin_ok hF hd hdN (by omega) (by omega) hk0 hk hp
      have hl := hF.1
      obtain ⟨u, x, y, i, e2, hu, hw⟩ := forth_ok c.ha c.ha1 c.hb c.hb1 c.hla c.hlb (L := fo) (off := (N : Int) + 1) (k := k) (d := d) ⟨by omega, by omega⟩ ⟨by omega, by omega⟩ (by omega) (by omega) (by omega) e1 (by rw [c.hA, c.hB]; exact hB) bu
      rw [c.hA, c.hB] at hu hw
      have en : (a1 : Int) - a0 - ((b1 : Int) - b0) = (A.length : Int) - B.length := by omega
      have en2 : (a1 : Int) - a0 = A.length := by omega
      rcases hitF_eq hre hd hdN (by omega) (by omega) hk0 hk hp hu with ⟨e3, q1, q2, w, hwf, q3⟩ | ⟨e3, hm⟩
      · refine .inl ⟨((a0 : Int) + u0, (b0 : Int) + u0 - k, u - u0, 2 * d - 1), Ev.step (f := fun _ => some ((a0 : Int) + u0, (b0 : Int) + u0 - k, u - u0, 2 * d - 1)) (fun K => ?_) (Ev.now _), good_fore hd c.h2 hD hw hu hwf q1 q2 q3⟩
        simp only [lcs_finder_middle.l1]
        rw [if_pos hk, e2, Option.bind_some, en, en2, e3, Option.bind_some, if_pos rfl]
      · rcases ih (fo.set ((N : Int) + 1 + k).toNat u) (k + 2) (by omega) (hF.set hd hdN hk0 hk hp) (hDn.set hl hd hdN hk0 hk hp hu) (by omega) (by omega) (fun j h0 h1 h2 => by
            by_cases e : j = k
            · rw [e]; exact hm
            · exact hM j h0 (by omega) h2) with ⟨r, hr, hg⟩ | ⟨fo', k', h1, h2, h3, h4, h5⟩
        · refine .inl ⟨r, Ev.step (fun K => ?_) hr, hg⟩
          simp only [lcs_finder_middle.l1]
          rw [if_pos hk, e2, Option.bind_some, en, en2, e3, Option.bind_some, if_neg (by simp)]
        · refine .inr ⟨fo', k', h1, h2, h3, h4, fun R hR => Ev.step (fun K => ?_) (h5 R hR)⟩
          simp only [lcs_finder_middle.l1]
          rw [if_pos hk, e2, Option.bind_some, en, en2, e3, Option.bind_some, if_neg (by simp)]
    · refine .inr ⟨fo, k, by omega, hF, hDn, fun j h0 h1 h2 => hM j h0 (by omega) h2, fun R hR => Ev.step (fun K => ?_) hR⟩
      simp only [lcs_finder_middle.l1]
      rw [if_neg hk]

theorem rear_loop {a b : List Int} {a0 a1 b0 b1 N : Nat} {A B : List Int} (c : Ctx a b a0 a1 b0 b1 N A B) {d kk : Int} (hd : 0 ≤ d) (hdN : d ≤ N) (hD : 2 * d ≤ dist A B) {fo : List Int} (hfo : Done A B N fo d kk) (hkk : d < kk) (hlf : fo.length = 2 * N + 3) :
    ∀ (t : Nat) (re : List Int) (k : Int), d + 2 - k ≤ t → Row A.reverse B.reverse N re d → Done A.reverse B.reverse N re d k → -d ≤ k → (d - k) % 2 = 0 → (∀ j, -d ≤ j → j < k → (d - j) % 2 = 0 → MissB A B d j) →
      (∃ r, Ev (fun K => lcs_finder_middle.l2 K a b a0 a1 b0 b1 ((N : Int) + 1) ((N : Int) + 1) fo re d k) r ∧ Good A B a0 b0 r) ∨
      (∃ (re' : List Int) (k' : Int), d < k' ∧ Row A.reverse B.reverse N re' d ∧ Done A.reverse B.reverse N re' d k' ∧ (∀ j, -d ≤ j → j ≤ d → (d - j) % 2 = 0 → MissB A B d j) ∧
        ∀ R, Ev (fun K => lcs_finder_middle.l0 K a b a0 a1 b0 b1 ((N : Int) + 1) ((N : Int) + 1) fo re' (d + 1)) R → Ev (fun K => lcs_finder_middle.l2 K a b a0 a1 b0 b1 ((N : Int) + 1) ((N : Int) + 1) fo re d k) R) := by
  have hlA : A.length = a1 - a0 := by rw [← c.hA]; exact seg_length a c.ha1
  have hlB : B.length = b1 - b0 := by rw [← c.hB]; exact seg_length b c.hb1
  have c1 := c.ha; have c2 := c.ha1; have c3 := c.hb; have c4 := c.hb1; have c5 := c.hla; have c6 := c.hlb; have c7 := c.hN
  intro t
  induction t with
  | zero =>
    intro re k ht hF hDn hk0 hp hM
    refine .inr ⟨re, k, by omega, hF, hDn, fun j h0 h1 h2 => hM j h0 (by omega) h2, fun R hR => Ev.step (fun K => ?_) hR⟩
    simp only [lcs_finder_middle.l2]
    rw [if_neg (by omega)]
  | succ t ih =>
    intro re k ht hF hDn hk0 hp hM
    by_cases hk : k ≤ d
    · obtain ⟨u0, e1, hB, bu⟩ := begin_ok hF hd hdN (by omega) (by rw [List.length_reverse]; omega) hk0 hk hp
      have hl := hF.1
      obtain ⟨u, x, y, i, e2, hu, hw⟩ := back_ok c.ha c.ha1 c.hb c.hb1 c.hla c.hlb (L := re) (off := (N : Int) + 1) (k := k) (d := d) ⟨by omega, by omega⟩ ⟨by omega, by omega⟩ (by omega) (by omega) (by omega) e1 (by rw [c.hA, c.hB]; exact hB) bu
      rw [c.hA, c.hB] at hu hw
      have en : (a1 : Int) - a0 - ((b1 : Int) - b0) = (A.length : Int) - B.length := by omega
      have en2 : (a1 : Int) - a0 = A.length := by omega
      have ea : (a1 : Int) = (a0 : Int) + A.length := by omega
      have eb : (b1 : Int) = (b0 : Int) + B.length := by omega
      rcases hitB_eq hfo hkk hlf hd hdN (by omega) (by omega) hk0 hk hp hu with ⟨e3, q1, q2, w, hwf, q3⟩ | ⟨e3, hm⟩
      · refine .inl ⟨((a0 : Int) + A.length - u, (b0 : Int) + B.length - (u - k), u - u0, 2 * d), Ev.step (f := fun _ => some ((a0 : Int) + A.length - u, (b0 : Int) + B.length - (u - k), u - u0, 2 * d)) (fun K => ?_) (Ev.now _), good_rear hd c.h2 hD hw hu hwf q1 q2 q3⟩
        simp only [lcs_finder_middle.l2]
        rw [if_pos hk, e2, Option.bind_some, en, en2, e3, Option.bind_some, if_pos rfl, ← ea, ← eb]
      · rcases ih (re.set ((N : Int) + 1 + k).toNat u) (k + 2) (by omega) (hF.set hd hdN hk0 hk hp) (hDn.set hl hd hdN hk0 hk hp hu) (by omega) (by omega) (fun j h0 h1 h2 => by
            by_cases e : j = k
            · rw [e]; exact hm
            · exact hM j h0 (by omega) h2) with ⟨r, hr, hg⟩ | ⟨re', k', h1, h2, h3, h4, h5⟩
        · refine .inl ⟨r, Ev.step (fun K => ?_) hr, hg⟩
          simp only [lcs_finder_middle.l2]
          rw [if_pos hk, e2, Option.bind_some, en, en2, e3, Option.bind_some, if_neg (by simp)]
        · refine .inr ⟨re', k', h1, h2, h3, h4, fun R hR => Ev.step (fun K => ?_) (h5 R hR)⟩
          simp only [lcs_finder_middle.l2]
          rw [if_pos hk, e2, Option.bind_some, en, en2, e3, Option.bind_some, if_neg (by simp)]
    · refine .inr ⟨re, k, by omega, hF, hDn, fun j h0 h1 h2 => hM j h0 (by omega) h2, fun R hR => Ev.step (fun K => ?_) hR⟩
      simp only [lcs_finder_middle.l2]
      rw [if_neg hk]

theorem dist_par (A B : List Int) : (dist A B - ((A.length : Int) - B.length)) % 2 = 0 := by unfold dist; omega
theorem dist_sum (A B : List Int) : dist A B ≤ (A.length : Int) + B.length := by unfold dist; omega

theorem outer_loop {a b : List Int} {a0 a1 b0 b1 N : Nat} {A B : List Int} (c : Ctx a b a0 a1 b0 b1 N A B) : ∀ (t : Nat) (fo re : List Int) (d : Int), 0 ≤ d → dist A B + 2 - 2 * d ≤ t → 2 * d - 1 ≤ dist A B → Row A B N fo d → Row A.reverse B.reverse N re d →
    ∃ r, Ev (fun K => lcs_finder_middle.l0 K a b a0 a1 b0 b1 ((N : Int) + 1) ((N : Int) + 1) fo re d) r ∧ Good A B a0 b0 r := by
  have hlA : A.length = a1 - a0 := by rw [← c.hA]; exact seg_length a c.ha1
  have hlB : B.length = b1 - b0 := by rw [← c.hB]; exact seg_length b c.hb1
  have c1 := c.ha; have c2 := c.ha1; have c3 := c.hb; have c4 := c.hb1; have c5 := c.hla; have c6 := c.hlb; have c7 := c.hN; have c8 := c.h2
  have hs := dist_sum A B
  have hpar := dist_par A B
  intro t
  induction t with
  | zero => intro fo re d h0 h1 h2; omega
  | succ t ih =>
    intro fo re d hd ht hD hF hR
    have hdN : d ≤ N := by omega
    have go : ∀ r, Ev (fun K => lcs_finder_middle.l1 K a b a0 a1 b0 b1 ((N : Int) + 1) ((N : Int) + 1) fo re d (-d)) r → Ev (fun K => lcs_finder_middle.l0 K a b a0 a1 b0 b1 ((N : Int) + 1) ((N : Int) + 1) fo re d) r := by
      intro r hr
      refine Ev.step (fun K => ?_) hr
      simp only [lcs_finder_middle.l0]
      rw [if_pos ⟨hd, by omega⟩]
    rcases fore_loop c hd hdN hD hR (2 * d + 2).toNat fo (-d) (by omega) hF (fun j h0 h1 _ => by omega) (by omega) (by omega) (fun j h0 h1 _ => by omega) with ⟨r, hr, hg⟩ | ⟨fo', k', k1, k2, k3, k4, k5⟩
    · exact ⟨r, go r hr, hg⟩
    · have hD2 : 2 * d ≤ dist A B := by
        by_cases he : dist A B = 2 * d - 1
        · exfalso
          obtain ⟨k, m1, m2, m3, m4, m5, m6⟩ := meet (A := A) (B := B) (d1 := d) (d2 := d - 1) hd (by omega) (by omega)
          obtain ⟨u, w, f1, f2, f3⟩ := k4 k m1 m2 m3 (by omega) (by omega) (by omega)
          exact f3 (m6 u w f1 f2)
        · omega
      rcases rear_loop c hd hdN hD2 k3 k1 k2.1 (2 * d + 2).toNat re (-d) (by omega) hR (fun j h0 h1 _ => by omega) (by omega) (by omega) (fun j h0 h1 _ => by omega) with ⟨r, hr, hg⟩ | ⟨re', k'', l1, l2, l3, l4, l5⟩
      · exact ⟨r, go r (k5 r hr), hg⟩
      · have hD3 : 2 * d + 1 ≤ dist A B := by
          by_cases he : dist A B = 2 * d
          · exfalso
            obtain ⟨k, m1, m2, m3, m4, m5, m6⟩ := meet (A := A) (B := B) (d1 := d) (d2 := d) hd hd (by omega)
            obtain ⟨u, w, f1, f2, f3⟩ := l4 ((A.length : Int) - B.length - k) m4 m5 (by omega) (by omega) (by omega) (by omega)
            rw [show (A.length : Int) - B.length - ((A.length : Int) - B.length - k) = k from by omega] at f2
            have := m6 w u f2 f1
            omega
          · omega
        obtain ⟨r, hr, hg⟩ := ih fo' re' (d + 1) (by omega) (by omega) (by omega) (k3.row k2.1 hd k1) (l3.row l2.1 hd l1)
        exact ⟨r, go r (k5 r (l5 r hr)), hg⟩

theorem row_new (A B : List Int) (N : Nat) (h : 1 ≤ N) : Row A B N (newL N) 0 := by
  refine ⟨newL_length N, fun _ => ?_, fun h => absurd rfl h⟩
  unfold rd newL
  rw [show ((N : Int) + 1 + 1).toNat = N + 2 from by omega]
  simp [List.getD_eq_getElem?_getD]
  rw [List.getElem?_set_self (by simp; omega)]; rfl

/-- middle finds a way in the midst of a shortest one -/
theorem middle_ok {a b : List Int} {a0 a1 b0 b1 : Nat} (ha : a0 < a1) (ha1 : a1 ≤ a.length) (hb : b0 < b1) (hb1 : b1 ≤ b.length) (hla : a.length ≤ 1000000000) (hlb : b.length ≤ 1000000000) (h2 : 2 ≤ dist (seg a a0 a1) (seg b b0 b1)) :
    ∃ r, Ev (fun K => lcs_finder_middle.f K a b a0 a1 b0 b1) r ∧ Good (seg a a0 a1) (seg b b0 b1) a0 b0 r := by
  have c : Ctx a b a0 a1 b0 b1 ((a1 - a0) + (b1 - b0)) (seg a a0 a1) (seg b b0 b1) := ⟨by omega, ha1, by omega, hb1, hla, hlb, rfl, rfl, rfl, h2⟩
  obtain ⟨r, hr, hg⟩ := outer_loop c (dist (seg a a0 a1) (seg b b0 b1) + 2).toNat (newL ((a1 - a0) + (b1 - b0))) (newL ((a1 - a0) + (b1 - b0))) 0 (by omega) (by omega) (by omega) (row_new _ _ _ (by omega)) (row_new _ _ _ (by omega))
  refine ⟨r, Ev.congr (fun K => ?_) hr, hg⟩
  unfold lcs_finder_middle.f
  rw [if_pos ⟨by omega, by omega, by omega, by omega, by omega, by omega, hla, hlb⟩]
  rw [show (a1 : Int) - a0 + ((b1 : Int) - b0) = (((a1 - a0) + (b1 - b0) : Nat) : Int) from by omega, Int.toNat_natCast]

end Go.Proofs.Ytadafplbgophfaa.PA
