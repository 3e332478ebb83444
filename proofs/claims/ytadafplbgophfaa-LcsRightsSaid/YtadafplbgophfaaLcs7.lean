import Derived.Test.YtadafplbgophfaaLcs6
import Derived.Test.YtadafplbgophfaaPAf26
import Derived.Test.YtadafplbgophfaaPAf29
import Derived.Test.YtadafplbgophfaaPAf31
import Derived.Test.YtadafplbgophfaaPAf32
import Derived.Test.YtadafplbgophfaaPAf85
namespace Go.Proofs.Ytadafplbgophfaa.PA
set_option linter.unusedVariables false
open Go.RowKit Go.Proofs.YtadafplbgophfaaW.PrintWords Go.Proofs.YtadafplbgophfaaW.PrintLast Go.Proofs.YtadafplbgophfaaW.PrintMore
open Go.Proofs.Ytadafplbgophfaa.TriLcs

def to37 (p : S39) : S37 := ⟨p.f0, p.f1⟩
def to39 (p : S37) : S39 := ⟨p.f0, p.f1⟩
theorem rdT39_nat (xs : List S39) {i : Nat} (h : i < xs.length) : rd_T39 xs (i : Int) = xs[i] := by simp [rd_T39, List.getD_eq_getElem?_getD, h]
theorem rdT37_nat (xs : List S37) {i : Nat} (h : i < xs.length) : rd_T37 xs (i : Int) = xs[i] := by simp [rd_T37, List.getD_eq_getElem?_getD, h]

theorem from_go (r : List S39) (hr : r.length ≤ 1000000000) : ∀ (d i : Nat), r.length - i ≤ d → i ≤ r.length → Ev (fun k => tripartitelaw03_From.l0 k r ((r.take i).map to37) i) (r.map to37) := by
  intro d
  induction d with
  | zero =>
    intro i h1 h2
    refine Ev.step (f := fun _ => some (r.map to37)) (fun k => ?_) (Ev.now _)
    simp only [tripartitelaw03_From.l0]
    rw [if_neg (by omega), List.take_of_length_le (by omega)]
  | succ d ih =>
    intro i h1 h2
    by_cases hi : i < r.length
    · refine Ev.step (fun k => ?_) (ih (i + 1) (by omega) (by omega))
      simp only [tripartitelaw03_From.l0]
      rw [if_pos (by omega), if_pos (by omega), if_pos (by rw [List.length_map, List.length_take]; omega), w64 (by omega) (by omega), rdT39_nat r hi, List.take_succ_eq_append_getElem hi, List.map_append]
      rfl
    · refine Ev.step (f := fun _ => some (r.map to37)) (fun k => ?_) (Ev.now _)
      simp only [tripartitelaw03_From.l0]
      rw [if_neg (by omega), List.take_of_length_le (by omega)]
theorem from_ok (r : List S39) (hr : r.length ≤ 1000000000) : Ev (fun k => tripartitelaw03_From.f k r) (r.map to37) := by
  have := from_go r hr r.length 0 (by omega) (by omega)
  exact this
theorem to_go (r : List S37) (hr : r.length ≤ 1000000000) : ∀ (d i : Nat), r.length - i ≤ d → i ≤ r.length → Ev (fun k => tripartitelaw03_To.l0 k r ((r.take i).map to39) i) (r.map to39) := by
  intro d
  induction d with
  | zero =>
    intro i h1 h2
    refine Ev.step (f := fun _ => some (r.map to39)) (fun k => ?_) (Ev.now _)
    simp only [tripartitelaw03_To.l0]
    rw [if_neg (by omega), List.take_of_length_le (by omega)]
  | succ d ih =>
    intro i h1 h2
    by_cases hi : i < r.length
    · refine Ev.step (fun k => ?_) (ih (i + 1) (by omega) (by omega))
      simp only [tripartitelaw03_To.l0]
      rw [if_pos (by omega), if_pos (by omega), if_pos (by rw [List.length_map, List.length_take]; omega), w64 (by omega) (by omega), rdT37_nat r hi, List.take_succ_eq_append_getElem hi, List.map_append]
      rfl
    · refine Ev.step (f := fun _ => some (r.map to39)) (fun k => ?_) (Ev.now _)
      simp only [tripartitelaw03_To.l0]
      rw [if_neg (by omega), List.take_of_length_le (by omega)]
theorem to_ok (r : List S37) (hr : r.length ≤ 1000000000) : Ev (fun k => tripartitelaw03_To.f k r) (r.map to39) := by
  have := to_go r hr r.length 0 (by omega) (by omega)
  exact this

/-- pair i of l is one that may be, behind the one ahead of it -/
def OkAt (a b : List Int) (l : List S37) (i : Nat) : Prop := ∀ h : i < l.length, (0 ≤ l[i].f0 ∧ l[i].f0 < a.length ∧ 0 ≤ l[i].f1 ∧ l[i].f1 < b.length ∧ rd a l[i].f0 = rd b l[i].f1) ∧ ∀ h0 : 0 < i, (l[i - 1]'(by omega)).f0 < l[i].f0 ∧ (l[i - 1]'(by omega)).f1 < l[i].f1

theorem refRight_go (a b : List Int) (l : List S37) (hl : l.length ≤ 1000000000) : ∀ (d i : Nat), l.length - i ≤ d → i ≤ l.length → (∀ j, j < i → OkAt a b l j) → ∃ v, Ev (fun k => tripartiteref03_Right.l0 k a b l i) v ∧ (v = true ↔ ∀ j, j < l.length → OkAt a b l j) := by
  intro d
  induction d with
  | zero =>
    intro i h1 h2 h3
    refine ⟨true, Ev.step (f := fun _ => some true) (fun k => ?_) (Ev.now _), ⟨fun _ j hj => h3 j (by omega), fun _ => rfl⟩⟩
    simp only [tripartiteref03_Right.l0]
    rw [if_neg (by omega)]
  | succ d ih =>
    intro i h1 h2 h3
    by_cases hi : i < l.length
    · have f1 : (i : Int) < (l.length : Int) := by omega
      have f2 : (0 : Int) ≤ (i : Int) := by omega
      have f3 : i - 1 < l.length := by omega
      have f4 : 0 < i → wrap64 ((i : Int) - 1) = ((i - 1 : Nat) : Int) := fun h => by rw [w64 (by omega) (by omega)]; omega
      have f5 : (0 : Int) ≤ ((i - 1 : Nat) : Int) := by omega
      have f6 : ((i - 1 : Nat) : Int) < (l.length : Int) := by omega
      have f7 : 0 < i → (i : Int) > 0 := fun h => by omega
      have f8 : ¬ 0 < i → ¬ (i : Int) > 0 := fun h => by omega
      have ew : wrap64 ((i : Int) + 1) = ((i + 1 : Nat) : Int) := by rw [w64 (by omega) (by omega)]; omega
      have next : OkAt a b l i → ∃ v, Ev (fun k => tripartiteref03_Right.l0 k a b l ((i + 1 : Nat) : Int)) v ∧ (v = true ↔ ∀ j, j < l.length → OkAt a b l j) := fun ho =>
        ih (i + 1) (by omega) (by omega) (fun j hj => by
          rcases Nat.lt_succ_iff_lt_or_eq.1 hj with h | rfl
          · exact h3 j h
          · exact ho)
      clear ih h3 h1 h2 hl
      have hnot : ¬ OkAt a b l i → (false = true ↔ ∀ j, j < l.length → OkAt a b l j) := fun h => ⟨(fun e => by cases e), (fun e => absurd (e i hi) h)⟩
      have bad : ∀ x y, ¬ OkAt a b l i → ∃ v, Ev (fun k => tripartiteref03_Right.j1 k a b l i true x y) v ∧ (v = true ↔ ∀ j, j < l.length → OkAt a b l j) := fun x y h =>
        ⟨false, Ev.step (f := fun _ => some false) (fun k => by simp only [tripartiteref03_Right.j1, if_true]) (Ev.now _), hnot h⟩
      have e := rdT37_nat l hi
      by_cases t1 : l[i].f0 < 0
      · obtain ⟨v, hv, hv2⟩ := bad l[i].f0 l[i].f1 (fun h => absurd (h hi).1.1 (Int.not_le.mpr t1))
        refine ⟨v, Ev.step (fun k => ?_) hv, hv2⟩
        simp only [tripartiteref03_Right.l0]; rw [if_pos f1, if_pos f2, e, if_pos t1]
      by_cases t2 : l[i].f0 ≥ (a.length : Int)
      · obtain ⟨v, hv, hv2⟩ := bad l[i].f0 l[i].f1 (fun h => absurd (h hi).1.2.1 (Int.not_lt.mpr t2))
        refine ⟨v, Ev.step (fun k => ?_) hv, hv2⟩
        simp only [tripartiteref03_Right.l0]; rw [if_pos f1, if_pos f2, e, if_neg t1, if_pos t2]
      by_cases t3 : l[i].f1 < 0
      · obtain ⟨v, hv, hv2⟩ := bad l[i].f0 l[i].f1 (fun h => absurd (h hi).1.2.2.1 (Int.not_le.mpr t3))
        refine ⟨v, Ev.step (fun k => ?_) hv, hv2⟩
        simp only [tripartiteref03_Right.l0]; rw [if_pos f1, if_pos f2, e, if_neg t1, if_neg t2, if_pos t3]
      by_cases t4 : l[i].f1 ≥ (b.length : Int)
      · obtain ⟨v, hv, hv2⟩ := bad l[i].f0 l[i].f1 (fun h => absurd (h hi).1.2.2.2.1 (Int.not_lt.mpr t4))
        refine ⟨v, Ev.step (fun k => ?_) hv, hv2⟩
        simp only [tripartiteref03_Right.l0]; rw [if_pos f1, if_pos f2, e, if_neg t1, if_neg t2, if_neg t3, if_pos t4]
      have u1 := Int.not_lt.mp t1
      have u2 := Int.not_le.mp t2
      have u3 := Int.not_lt.mp t3
      have u4 := Int.not_le.mp t4
      by_cases t5 : rd a l[i].f0 = rd b l[i].f1
      · have e5 : (rd a l[i].f0 != rd b l[i].f1) = false := bne_eq_false_iff_eq.mpr t5
        have go1 : ∀ v, Ev (fun k => tripartiteref03_Right.j1 k a b l i false l[i].f0 l[i].f1) v → Ev (fun k => tripartiteref03_Right.l0 k a b l i) v := by
          intro v hv
          refine Ev.step (fun k => ?_) hv
          simp only [tripartiteref03_Right.l0]; rw [if_pos f1, if_pos f2, e, if_neg t1, if_neg t2, if_neg t3, if_neg t4, if_pos u1, if_pos u2, if_pos u3, if_pos u4, e5]
        by_cases h0 : 0 < i
        · have ep := f4 h0
          have e' := rdT37_nat l (i := i - 1) f3
          by_cases t6 : (l[i - 1]'f3).f0 ≥ l[i].f0
          · refine ⟨false, go1 _ (Ev.step (f := fun _ => some false) (fun k => ?_) (Ev.now _)), hnot (fun h => absurd ((h hi).2 h0).1 (Int.not_lt.mpr t6))⟩
            simp only [tripartiteref03_Right.j1, Bool.false_eq_true, if_false]; rw [if_pos (f7 h0), ep, if_pos f5, if_pos f6, e', if_pos t6]
          by_cases t7 : (l[i - 1]'f3).f1 ≥ l[i].f1
          · refine ⟨false, go1 _ (Ev.step (f := fun _ => some false) (fun k => ?_) (Ev.now _)), hnot (fun h => absurd ((h hi).2 h0).2 (Int.not_lt.mpr t7))⟩
            simp only [tripartiteref03_Right.j1, Bool.false_eq_true, if_false]; rw [if_pos (f7 h0), ep, if_pos f5, if_pos f6, e', if_neg t6, if_pos t7]
          · obtain ⟨v, hv, hv2⟩ := next (fun _ => ⟨⟨u1, u2, u3, u4, t5⟩, fun _ => ⟨Int.not_le.mp t6, Int.not_le.mp t7⟩⟩)
            refine ⟨v, go1 _ (Ev.step (fun k => ?_) hv), hv2⟩
            simp only [tripartiteref03_Right.j1, Bool.false_eq_true, if_false]; rw [if_pos (f7 h0), ep, if_pos f5, if_pos f6, e', if_neg t6, if_neg t7, ew]
        · obtain ⟨v, hv, hv2⟩ := next (fun _ => ⟨⟨u1, u2, u3, u4, t5⟩, fun h => absurd h h0⟩)
          refine ⟨v, go1 _ (Ev.step (fun k => ?_) hv), hv2⟩
          simp only [tripartiteref03_Right.j1, Bool.false_eq_true, if_false]; rw [if_neg (f8 h0), ew]
      · obtain ⟨v, hv, hv2⟩ := bad l[i].f0 l[i].f1 (fun h => t5 (h hi).1.2.2.2.2)
        have e5 : (rd a l[i].f0 != rd b l[i].f1) = true := bne_iff_ne.mpr t5
        refine ⟨v, Ev.step (fun k => ?_) hv, hv2⟩
        simp only [tripartiteref03_Right.l0]; rw [if_pos f1, if_pos f2, e, if_neg t1, if_neg t2, if_neg t3, if_neg t4, if_pos u1, if_pos u2, if_pos u3, if_pos u4, e5]
    · refine ⟨true, Ev.step (f := fun _ => some true) (fun k => ?_) (Ev.now _), ⟨fun _ j hj => h3 j (by omega), fun _ => rfl⟩⟩
      simp only [tripartiteref03_Right.l0]
      rw [if_neg (by omega)]
theorem refRight_ok (a b : List Int) (l : List S37) (hl : l.length ≤ 1000000000) : ∃ v, Ev (fun k => tripartiteref03_Right.f k a b l) v ∧ (v = true ↔ ∀ j, j < l.length → OkAt a b l j) :=
  refRight_go a b l hl l.length 0 (by omega) (by omega) (fun j hj => by omega)

theorem lcsRight_go (a b : List Int) (l : List S37) (hl : l.length ≤ 1000000000) : ∀ (d i : Nat) (wa wb : Int), l.length - i ≤ d → i ≤ l.length → (∀ j, j < i → OkAt a b l j) → ((i = 0 ∧ wa = -1 ∧ wb = -1) ∨ ∃ h : 0 < i, ∃ h' : i - 1 < l.length, wa = l[i - 1].f0 ∧ wb = l[i - 1].f1) →
    ∃ v, Ev (fun k => lcs_Right.l0 k a b (l.map to39) (l.length : Int) i wa wb) v ∧ (v = true ↔ ∀ j, j < l.length → OkAt a b l j) := by
  intro d
  induction d with
  | zero =>
    intro i wa wb h1 h2 h3 h4
    refine ⟨true, Ev.step (f := fun _ => some true) (fun k => ?_) (Ev.now _), ⟨fun _ j hj => h3 j (by omega), fun _ => rfl⟩⟩
    simp only [lcs_Right.l0]
    rw [if_neg (by omega)]
  | succ d ih =>
    intro i wa wb h1 h2 h3 h4
    by_cases hi : i < l.length
    · have f1 : (i : Int) < (l.length : Int) := by omega
      have f2 : (0 : Int) ≤ (i : Int) := by omega
      have f3 : (i : Int) < ((l.map to39).length : Int) := by rw [List.length_map]; exact f1
      have ew : wrap64 ((i : Int) + 1) = ((i + 1 : Nat) : Int) := by rw [w64 (by omega) (by omega)]; omega
      have next : OkAt a b l i → ∃ v, Ev (fun k => lcs_Right.l0 k a b (l.map to39) (l.length : Int) ((i + 1 : Nat) : Int) l[i].f0 l[i].f1) v ∧ (v = true ↔ ∀ j, j < l.length → OkAt a b l j) := fun ho =>
        ih (i + 1) l[i].f0 l[i].f1 (by omega) (by omega) (fun j hj => by
          rcases Nat.lt_succ_iff_lt_or_eq.1 hj with h | rfl
          · exact h3 j h
          · exact ho) (.inr ⟨by omega, hi, rfl, rfl⟩)
      have hw : -1 ≤ wa ∧ -1 ≤ wb := by
        rcases h4 with ⟨_, rfl, rfl⟩ | ⟨h, h', rfl, rfl⟩
        · omega
        · have q := (h3 (i - 1) (by omega) h').1
          exact ⟨Int.le_trans (by decide) q.1, Int.le_trans (by decide) q.2.2.1⟩
      have hok : OkAt a b l i ↔ (wa < l[i].f0 ∧ wb < l[i].f1) ∧ l[i].f0 < a.length ∧ l[i].f1 < b.length ∧ rd a l[i].f0 = rd b l[i].f1 := by
        have p1 : ∀ {x y : Int}, -1 ≤ x → x < y → 0 ≤ y := fun h1 h2 => by omega
        have p2 : ∀ {y : Int}, 0 ≤ y → -1 < y := fun h1 => by omega
        clear h1 h2 ih next ew f1 f2 f3
        rcases h4 with ⟨h0, rfl, rfl⟩ | ⟨h, h', rfl, rfl⟩
        · exact ⟨fun q => ⟨⟨p2 (q hi).1.1, p2 (q hi).1.2.2.1⟩, (q hi).1.2.1, (q hi).1.2.2.2.1, (q hi).1.2.2.2.2⟩, fun q _ => ⟨⟨p1 hw.1 q.1.1, q.2.1, p1 hw.2 q.1.2, q.2.2.1, q.2.2.2⟩, fun h => by omega⟩⟩
        · exact ⟨fun q => ⟨(q hi).2 h, (q hi).1.2.1, (q hi).1.2.2.2.1, (q hi).1.2.2.2.2⟩, fun q _ => ⟨⟨p1 hw.1 q.1.1, q.2.1, p1 hw.2 q.1.2, q.2.2.1, q.2.2.2⟩, fun _ => q.1⟩⟩
      have hnot : ¬ OkAt a b l i → (false = true ↔ ∀ j, j < l.length → OkAt a b l j) := fun h => ⟨(fun e => by cases e), (fun e => absurd (e i hi) h)⟩
      have hi' : i < (l.map to39).length := by rw [List.length_map]; exact hi
      have e : rd_T39 (l.map to39) (i : Int) = to39 l[i] := by rw [rdT39_nat _ hi', List.getElem_map]
      have ef0 : (to39 l[i]).f0 = l[i].f0 := rfl
      have ef1 : (to39 l[i]).f1 = l[i].f1 := rfl
      have p1 : ∀ {x y : Int}, -1 ≤ x → ¬ y ≤ x → 0 ≤ y := fun h1 h2 => by omega
      clear ih h3 h4 h1 h2 hl
      by_cases t1 : l[i].f0 ≤ wa
      · refine ⟨false, Ev.step (f := fun _ => some false) (fun k => ?_) (Ev.now _), hnot (fun h => absurd (hok.1 h).1.1 (Int.not_lt.mpr t1))⟩
        simp only [lcs_Right.l0]; rw [if_pos f1, if_pos f2, if_pos f3, e, ef0, if_pos t1]
      by_cases t2 : l[i].f1 ≤ wb
      · refine ⟨false, Ev.step (f := fun _ => some false) (fun k => ?_) (Ev.now _), hnot (fun h => absurd (hok.1 h).1.2 (Int.not_lt.mpr t2))⟩
        simp only [lcs_Right.l0]; rw [if_pos f1, if_pos f2, if_pos f3, e, ef0, ef1, if_neg t1, if_pos t2]
      by_cases t3 : l[i].f0 ≥ (a.length : Int)
      · refine ⟨false, Ev.step (f := fun _ => some false) (fun k => ?_) (Ev.now _), hnot (fun h => absurd (hok.1 h).2.1 (Int.not_lt.mpr t3))⟩
        simp only [lcs_Right.l0]; rw [if_pos f1, if_pos f2, if_pos f3, e, ef0, ef1, if_neg t1, if_neg t2, if_pos t3]
      by_cases t4 : l[i].f1 ≥ (b.length : Int)
      · refine ⟨false, Ev.step (f := fun _ => some false) (fun k => ?_) (Ev.now _), hnot (fun h => absurd (hok.1 h).2.2.1 (Int.not_lt.mpr t4))⟩
        simp only [lcs_Right.l0]; rw [if_pos f1, if_pos f2, if_pos f3, e, ef0, ef1, if_neg t1, if_neg t2, if_neg t3, if_pos t4]
      have u1 := p1 hw.1 t1
      have u2 := Int.not_le.mp t3
      have u3 := p1 hw.2 t2
      have u4 := Int.not_le.mp t4
      by_cases t5 : rd a l[i].f0 = rd b l[i].f1
      · obtain ⟨v, hv, hv2⟩ := next (hok.2 ⟨⟨Int.not_le.mp t1, Int.not_le.mp t2⟩, u2, u4, t5⟩)
        refine ⟨v, Ev.step (fun k => ?_) hv, hv2⟩
        simp only [lcs_Right.l0]; rw [if_pos f1, if_pos f2, if_pos f3, e, ef0, ef1, if_neg t1, if_neg t2, if_neg t3, if_neg t4, if_pos u1, if_pos u2, if_pos u3, if_pos u4, if_pos t5, ew]
      · refine ⟨false, Ev.step (f := fun _ => some false) (fun k => ?_) (Ev.now _), hnot (fun h => t5 (hok.1 h).2.2.2)⟩
        simp only [lcs_Right.l0]; rw [if_pos f1, if_pos f2, if_pos f3, e, ef0, ef1, if_neg t1, if_neg t2, if_neg t3, if_neg t4, if_pos u1, if_pos u2, if_pos u3, if_pos u4, if_neg t5]
    · refine ⟨true, Ev.step (f := fun _ => some true) (fun k => ?_) (Ev.now _), ⟨fun _ j hj => h3 j (by omega), fun _ => rfl⟩⟩
      simp only [lcs_Right.l0]
      rw [if_neg (by omega)]
theorem lcsRight_ok (a b : List Int) (l : List S37) (hl : l.length ≤ 1000000000) : ∃ v, Ev (fun k => lcs_Right.f k a b (l.map to39)) v ∧ (v = true ↔ ∀ j, j < l.length → OkAt a b l j) := by
  obtain ⟨v, hv, h⟩ := lcsRight_go a b l hl l.length 0 (-1) (-1) (by omega) (by omega) (fun j hj => by omega) (.inl ⟨rfl, rfl, rfl⟩)
  refine ⟨v, Ev.congr (fun k => ?_) hv, h⟩
  unfold lcs_Right.f
  rw [List.length_map]; rfl

theorem mtch_ok {a b : List Int} {r : List S39} (h : Mtch a b 0 a.length 0 b.length r) : ∀ j, j < (r.map to37).length → OkAt a b (r.map to37) j := by
  intro j hj _
  rw [List.length_map] at hj
  have e : (r.map to37)[j]'(by rw [List.length_map]; exact hj) = to37 r[j] := List.getElem_map _
  have h1 := h.2 r[j] (List.getElem_mem hj)
  refine ⟨?_, fun h0 => ?_⟩
  · rw [e]
    refine ⟨by show 0 ≤ r[j].f0; omega, by show r[j].f0 < _; omega, by show 0 ≤ r[j].f1; omega, by show r[j].f1 < _; omega, h1.2.2.2.2⟩
  · have e' : (r.map to37)[j - 1]'(by rw [List.length_map]; omega) = to37 (r[j - 1]'(by omega)) := List.getElem_map _
    rw [e, e']
    exact (List.pairwise_iff_getElem.1 h.1) (j - 1) j (by omega) hj (by omega)

theorem len_l1_in {a b row next : List Int} {i j : Nat} (hb : b.length ≤ 1000000000) (hi : i < a.length) (hj : j < b.length) (hr : row.length = b.length + 1) (hn : next.length = b.length + 1) (k : Nat) : tripartiteref03_Length.l1 (k + 1) a b row i next j = if rd a (i : Int) = rd b (j : Int) then tripartiteref03_Length.l1 k a b row i ((next.set (j + 1) (mx (rd row ((j + 1 : Nat) : Int)) (rd next (j : Int)))).set (j + 1) (wrap64 (rd row (j : Int) + 1))) ((j + 1 : Nat) : Int) else tripartiteref03_Length.l1 k a b row i (next.set (j + 1) (mx (rd row ((j + 1 : Nat) : Int)) (rd next (j : Int)))) ((j + 1 : Nat) : Int) := by
  have hw : wrap64 ((j : Int) + 1) = ((j + 1 : Nat) : Int) := by rw [w64 (by omega) (by omega)]; omega
  have c1 : (j : Int) < (b.length : Int) := by omega
  have c2 : (0 : Int) ≤ ((j + 1 : Nat) : Int) := by omega
  have c3 : ((j + 1 : Nat) : Int) < (row.length : Int) := by omega
  have c4 : (0 : Int) ≤ (j : Int) := by omega
  have c5 : (j : Int) < (next.length : Int) := by omega
  have c6 : ((j + 1 : Nat) : Int) < (next.length : Int) := by omega
  have c7 : (0 : Int) ≤ (i : Int) := by omega
  have c8 : (i : Int) < (a.length : Int) := by omega
  have c9 : (j : Int) < (row.length : Int) := by omega
  rw [tripartiteref03_Length.l1, hw, if_pos c1, if_pos c2, if_pos c3, if_pos c4, if_pos c5, if_pos c6, Option.bind_some, if_pos c7, if_pos c8, if_pos c9, Int.toNat_natCast]
theorem len_l1_out {a b row next : List Int} {i j : Nat} (ha : a.length ≤ 1000000000) (hi : i < a.length) (hj : ¬ j < b.length) (k : Nat) : tripartiteref03_Length.l1 (k + 1) a b row i next j = tripartiteref03_Length.l0 k a b next ((i + 1 : Nat) : Int) := by
  have hw : wrap64 ((i : Int) + 1) = ((i + 1 : Nat) : Int) := by rw [w64 (by omega) (by omega)]; omega
  have c1 : ¬ (j : Int) < (b.length : Int) := by omega
  rw [tripartiteref03_Length.l1, hw, if_neg c1]
theorem len_l0_in {a b row : List Int} {i : Nat} (hb : b.length ≤ 1000000000) (hi : i < a.length) (k : Nat) : tripartiteref03_Length.l0 (k + 1) a b row i = tripartiteref03_Length.l1 k a b row i (List.replicate (b.length + 1) 0) ((0 : Nat) : Int) := by
  have hw : wrap64 ((b.length : Int) + 1) = ((b.length + 1 : Nat) : Int) := by rw [w64 (by omega) (by omega)]; omega
  have c1 : (i : Int) < (a.length : Int) := by omega
  have c2 : (0 : Int) ≤ ((b.length + 1 : Nat) : Int) := by omega
  have c3 : b.length + 1 ≤ 35184372088832 := by omega
  rw [tripartiteref03_Length.l0, hw, if_pos c1, if_pos c2, Int.toNat_natCast, if_pos c3, Int.natCast_zero]
theorem len_l0_out {a b row : List Int} {i : Nat} (hi : ¬ i < a.length) (hr : row.length = b.length + 1) (k : Nat) : tripartiteref03_Length.l0 (k + 1) a b row i = some (rd row (b.length : Int)) := by
  have c1 : ¬ (i : Int) < (a.length : Int) := by omega
  have c2 : (0 : Int) ≤ (b.length : Int) := by omega
  have c3 : (b.length : Int) < (row.length : Int) := by omega
  rw [tripartiteref03_Length.l0, if_neg c1, if_pos c2, if_pos c3]
theorem len_f {a b : List Int} (hb : b.length ≤ 1000000000) (k : Nat) : tripartiteref03_Length.f k a b = tripartiteref03_Length.l0 k a b (List.replicate (b.length + 1) 0) ((0 : Nat) : Int) := by
  have hw : wrap64 ((b.length : Int) + 1) = ((b.length + 1 : Nat) : Int) := by rw [w64 (by omega) (by omega)]; omega
  have c2 : (0 : Int) ≤ ((b.length + 1 : Nat) : Int) := by omega
  have c3 : b.length + 1 ≤ 35184372088832 := by omega
  rw [tripartiteref03_Length.f, hw, if_pos c2, Int.toNat_natCast, if_pos c3, Int.natCast_zero]
/-- the table of all lengths, row by row -/
def LRow (a b : List Int) (i : Nat) (L : List Int) (j : Nat) : Prop := L.length = b.length + 1 ∧ ∀ k : Nat, k ≤ j → rd L (k : Int) = (lcs (a.take i) (b.take k) : Nat)

theorem lrow_step {a b row next : List Int} {i j : Nat} {v : Int} {L : List Int} (g3 : LRow a b (i + 1) next j) (hj : j < b.length) (hv : v = (lcs (a.take (i + 1)) (b.take (j + 1)) : Nat)) (hL : L.length = b.length + 1) (hk : ∀ k : Nat, k ≤ j → rd L (k : Int) = rd next k) : LRow a b (i + 1) (L.set (j + 1) v) (j + 1) := by
  refine ⟨by rw [List.length_set]; exact hL, fun k hkj => ?_⟩
  have e : rd (L.set (j + 1) v) (k : Int) = if k = j + 1 then v else rd L (k : Int) := by
    have hl : j + 1 < L.length := by omega
    unfold rd
    rw [Int.toNat_natCast, List.getD_eq_getElem?_getD, List.getD_eq_getElem?_getD, List.getElem?_set]
    by_cases ek : k = j + 1
    · subst ek; simp [hl]
    · rw [if_neg (fun h => ek h.symm), if_neg ek]
  rw [e]
  by_cases ek : k = j + 1
  · subst ek; rw [if_pos rfl, hv]
  · have : k ≤ j := by omega
    rw [if_neg ek, hk k this, g3.2 k this]
theorem rd_set_low (next : List Int) (j : Nat) (v : Int) {k : Nat} (hk : k ≤ j) : rd (next.set (j + 1) v) (k : Int) = rd next k := by
  have : j + 1 ≠ k := by omega
  unfold rd
  rw [Int.toNat_natCast, List.getD_eq_getElem?_getD, List.getD_eq_getElem?_getD, List.getElem?_set, if_neg this]

theorem len_cell_eq {a b row : List Int} {i j : Nat} (ha : a.length ≤ 1000000000) (hi : i < a.length) (hj : j < b.length) (hrow : LRow a b i row b.length) (hab : a[i] = b[j]) : wrap64 (rd row (j : Int) + 1) = (lcs (a.take (i + 1)) (b.take (j + 1)) : Nat) := by
  have sA := List.take_succ_eq_append_getElem hi
  have sB := List.take_succ_eq_append_getElem hj
  have hbd := lcs_le_left (a.take i) (b.take j)
  have hbd2 := List.length_take_le' i a
  rw [hrow.2 j (by omega), sA, sB, hab, lcs_snoc_eq, w64 (by omega) (by omega)]
  omega
theorem len_cell_ne {a b row next : List Int} {i j : Nat} (hi : i < a.length) (hj : j < b.length) (hrow : LRow a b i row b.length) (g3 : LRow a b (i + 1) next j) (hab : ¬ a[i] = b[j]) : mx (rd row ((j + 1 : Nat) : Int)) (rd next (j : Int)) = (lcs (a.take (i + 1)) (b.take (j + 1)) : Nat) := by
  have sA := List.take_succ_eq_append_getElem hi
  have sB := List.take_succ_eq_append_getElem hj
  have h := lcs_snoc_ne (a.take i) (b.take j) hab
  rw [← sA, ← sB] at h
  rw [hrow.2 (j + 1) (by omega), g3.2 j (Nat.le_refl _), h]
  unfold mx
  generalize lcs (a.take i) (b.take (j + 1)) = p
  generalize lcs (a.take (i + 1)) (b.take j) = q
  split <;> omega
theorem len_inner {a b : List Int} {i : Nat} {row : List Int} (ha : a.length ≤ 1000000000) (hb : b.length ≤ 1000000000) (hi : i < a.length) (hrow : LRow a b i row b.length) (ih : ∀ next, LRow a b (i + 1) next b.length → Ev (fun k => tripartiteref03_Length.l0 k a b next ((i + 1 : Nat) : Int)) (lcs a b : Nat)) : ∀ (e j : Nat) (next : List Int), b.length - j ≤ e → j ≤ b.length → LRow a b (i + 1) next j → Ev (fun k => tripartiteref03_Length.l1 k a b row i next j) (lcs a b : Nat) := by
  intro e
  induction e with
  | zero =>
    intro j next g1 g2 g3
    obtain rfl : j = b.length := by omega
    exact Ev.step (fun k => len_l1_out ha hi (by omega) k) (ih next g3)
  | succ e ihe =>
    intro j next g1 g2 g3
    by_cases hj : j < b.length
    · have ga : rd a (i : Int) = a[i] := by simp [rd, List.getD_eq_getElem?_getD, hi]
      have gb : rd b (j : Int) = b[j] := by simp [rd, List.getD_eq_getElem?_getD, hj]
      have d1 : b.length - (j + 1) ≤ e := by omega
      by_cases hab : a[i] = b[j]
      · have hn := lrow_step (row := row) g3 hj (len_cell_eq ha hi hj hrow hab) (L := next.set (j + 1) (mx (rd row ((j + 1 : Nat) : Int)) (rd next (j : Int)))) (by rw [List.length_set]; exact g3.1) (fun k hk => rd_set_low next j _ hk)
        refine Ev.step (fun k => ?_) (ihe (j + 1) _ d1 hj hn)
        rw [len_l1_in hb hi hj hrow.1 g3.1, ga, gb, if_pos hab]
      · have hn := lrow_step (row := row) g3 hj (len_cell_ne hi hj hrow g3 hab) g3.1 (fun k hk => rfl)
        refine Ev.step (fun k => ?_) (ihe (j + 1) _ d1 hj hn)
        rw [len_l1_in hb hi hj hrow.1 g3.1, ga, gb, if_neg hab]
    · obtain rfl : j = b.length := by omega
      exact Ev.step (fun k => len_l1_out ha hi (by omega) k) (ih next g3)
theorem lrow_zero (a b : List Int) : LRow a b 0 (List.replicate (b.length + 1) 0) b.length := by
  refine ⟨by simp, fun k hk => ?_⟩
  have : rd (List.replicate (b.length + 1) 0) (k : Int) = 0 := by
    unfold rd; simp only [List.getD_eq_getElem?_getD, List.getElem?_replicate, Int.toNat_natCast]; split <;> rfl
  rw [this]; simp [lcs_nil_left]
theorem lrow_start (a b : List Int) (i : Nat) : LRow a b i (List.replicate (b.length + 1) 0) 0 := by
  refine ⟨by simp, fun k hk => ?_⟩
  obtain rfl : k = 0 := by omega
  simp [rd, lcs_nil_right]
theorem length_go (a b : List Int) (ha : a.length ≤ 1000000000) (hb : b.length ≤ 1000000000) : ∀ (d i : Nat) (row : List Int), a.length - i ≤ d → i ≤ a.length → LRow a b i row b.length → Ev (fun k => tripartiteref03_Length.l0 k a b row i) (lcs a b : Nat) := by
  have fin : ∀ (i : Nat) (row : List Int), ¬ i < a.length → LRow a b i row b.length → Ev (fun k => tripartiteref03_Length.l0 k a b row i) (lcs a b : Nat) := by
    intro i row hi h3
    refine Ev.step (f := fun _ => some ((lcs a b : Nat) : Int)) (fun k => ?_) (Ev.now _)
    have h := h3.2 b.length (Nat.le_refl _)
    rw [List.take_of_length_le (Nat.not_lt.mp hi), List.take_of_length_le (Nat.le_refl _)] at h
    rw [len_l0_out hi h3.1, h]
  intro d
  induction d with
  | zero =>
    intro i row h1 h2 h3
    exact fin i row (by omega) h3
  | succ d ih =>
    intro i row h1 h2 h3
    by_cases hi : i < a.length
    · have d1 : a.length - (i + 1) ≤ d := by omega
      exact Ev.step (fun k => len_l0_in hb hi k) (len_inner ha hb hi h3 (fun next hn => ih (i + 1) next d1 hi hn) b.length 0 _ (Nat.le_of_eq (Nat.sub_zero _)) (Nat.zero_le _) (lrow_start a b (i + 1)))
    · exact fin i row hi h3
theorem length_ok (a b : List Int) (ha : a.length ≤ 1000000000) (hb : b.length ≤ 1000000000) : Ev (fun k => tripartiteref03_Length.f k a b) (lcs a b : Nat) :=
  Ev.congr (fun k => len_f hb k) (length_go a b ha hb a.length 0 _ (Nat.le_of_eq (Nat.sub_zero _)) (Nat.zero_le _) (lrow_zero a b))
theorem longest_ok (a b : List Int) (ha : a.length ≤ 1000000000) (hb : b.length ≤ 1000000000) (r : List S39) (hr : Mtch a b 0 a.length 0 b.length r) (hl : r.length = lcs a b) : Ev (fun k => tripartitelaw03_Longest.f k a b (r.map to37)) true := by
  have := lcs_le_left a b
  obtain ⟨v, hv, h⟩ := refRight_ok a b (r.map to37) (by rw [List.length_map]; omega)
  have hv' : v = true := h.2 (mtch_ok hr)
  subst hv'
  refine Ev.bind hv ?_
  simp only [if_pos]
  refine Ev.bind (length_ok a b ha hb) ?_
  have : (((r.map to37).length : Int) == ((lcs a b : Nat) : Int)) = true := by rw [beq_iff_eq, List.length_map, hl]
  rw [this]
  exact Ev.now _

end Go.Proofs.Ytadafplbgophfaa.PA
