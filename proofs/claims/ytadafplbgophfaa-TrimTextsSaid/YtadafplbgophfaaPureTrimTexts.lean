/- The statement TrimTexts, about strings and lists alone: for all two lists of strings, the law's printed function answers true. -/
import Derived.Test.YtadafplbgophfaaPAf4
namespace Go.Proofs.Ytadafplbgophfaa.Pure
namespace Txt
open Go.RowKit Go.Proofs.Ytadafplbgophfaa.PA Go.Proofs.YtadafplbgophfaaW.PrintWords Go.Proofs.YtadafplbgophfaaW.PrintLast Go.Proofs.YtadafplbgophfaaW.PrintMore

/-- n is the least number at which p fails. -/
def Stops (p : Nat → Prop) (n : Nat) : Prop := (∀ i, i < n → p i) ∧ ¬ p n
theorem Stops.uniq {p : Nat → Prop} {n m : Nat} (h : Stops p n) (g : Stops p m) : n = m := by
  rcases Nat.lt_trichotomy n m with hl | he | hg
  · exact absurd (g.1 n hl) h.2
  · exact he
  · exact absurd (h.1 m hg) g.2

/-- both have the same at i -/
def Fore (a b : List ByteArray) (i : Nat) : Prop := i < a.length ∧ i < b.length ∧ (a.getD i ByteArray.empty).toList = (b.getD i ByteArray.empty).toList
/-- both have the same at i from the end, behind the first n -/
def Rear (a b : List ByteArray) (n i : Nat) : Prop := n + i < a.length ∧ n + i < b.length ∧ (a.getD (a.length - 1 - i) ByteArray.empty).toList = (b.getD (b.length - 1 - i) ByteArray.empty).toList

theorem w64 {x : Int} (h0 : -9223372036854775808 ≤ x) (h1 : x ≤ 9223372036854775807) : wrap64 x = x := by unfold wrap64; omega
theorem rd_nat (xs : List ByteArray) (i : Nat) : rdOf ByteArray.empty xs (i : Int) = xs.getD i ByteArray.empty := by simp [rdOf]
theorem getD_drop (xs : List ByteArray) (n i : Nat) : (xs.drop n).getD i ByteArray.empty = xs.getD (n + i) ByteArray.empty := by simp [List.getD_eq_getElem?_getD, List.getElem?_drop]

theorem ends_rear (a b : List ByteArray) (n : Nat) (ha : a.length ≤ 1000000000000) (hb : b.length ≤ 1000000000000) (hna : n ≤ a.length) (hnb : n ≤ b.length) :
    ∀ (d j : Nat), a.length - j ≤ d → n + j ≤ a.length → n + j ≤ b.length → (∀ i, i < j → Rear a b n i) →
      ∃ m, Stops (Rear a b n) m ∧ Ev (fun k => trim_Ends_string.l1 k (a.drop n) (b.drop n) n j) (n, m) := by
  intro d
  induction d with
  | zero =>
    intro j h1 h2 h3 h4
    refine ⟨j, ⟨h4, fun h => by have := h.1; omega⟩, Ev.step (f := fun _ => some ((n : Int), (j : Int))) (fun k => ?_) (Ev.now _)⟩
    simp only [trim_Ends_string.l1]
    rw [if_neg (by simp only [List.length_drop]; unfold mn; split <;> omega)]
  | succ d ih =>
    intro j h1 h2 h3 h4
    by_cases hj : n + j < a.length ∧ n + j < b.length
    · have e1 : wrap64 (wrap64 (((a.drop n).length : Int) - 1) - j) = ((a.length - n - 1 - j : Nat) : Int) := by
        rw [List.length_drop, w64 (x := ((a.length - n : Nat) : Int) - 1) (by omega) (by omega), w64 (by omega) (by omega)]; omega
      have e2 : wrap64 (wrap64 (((b.drop n).length : Int) - 1) - j) = ((b.length - n - 1 - j : Nat) : Int) := by
        rw [List.length_drop, w64 (x := ((b.length - n : Nat) : Int) - 1) (by omega) (by omega), w64 (by omega) (by omega)]; omega
      by_cases he : (a.getD (a.length - 1 - j) ByteArray.empty).toList = (b.getD (b.length - 1 - j) ByteArray.empty).toList
      · obtain ⟨m, hm, hE⟩ := ih (j + 1) (by omega) (by omega) (by omega) (fun i hi => by
          rcases Nat.lt_succ_iff_lt_or_eq.1 hi with h | rfl
          · exact h4 i h
          · exact ⟨hj.1, hj.2, he⟩)
        refine ⟨m, hm, Ev.step (fun k => ?_) hE⟩
        simp only [trim_Ends_string.l1]
        rw [e1, e2, if_pos (by simp only [List.length_drop]; unfold mn; split <;> omega), if_pos (by omega), if_pos (by simp only [List.length_drop]; omega), if_pos (by omega), if_pos (by simp only [List.length_drop]; omega), rd_nat, rd_nat, getD_drop, getD_drop,
          show n + (a.length - n - 1 - j) = a.length - 1 - j from by omega, show n + (b.length - n - 1 - j) = b.length - 1 - j from by omega, if_pos he, w64 (by omega) (by omega)]
        rfl
      · refine ⟨j, ⟨h4, fun h => he h.2.2⟩, Ev.step (f := fun _ => some ((n : Int), (j : Int))) (fun k => ?_) (Ev.now _)⟩
        simp only [trim_Ends_string.l1]
        rw [e1, e2, if_pos (by simp only [List.length_drop]; unfold mn; split <;> omega), if_pos (by omega), if_pos (by simp only [List.length_drop]; omega), if_pos (by omega), if_pos (by simp only [List.length_drop]; omega), rd_nat, rd_nat, getD_drop, getD_drop,
          show n + (a.length - n - 1 - j) = a.length - 1 - j from by omega, show n + (b.length - n - 1 - j) = b.length - 1 - j from by omega, if_neg he]
    · refine ⟨j, ⟨h4, fun h => hj ⟨h.1, h.2.1⟩⟩, Ev.step (f := fun _ => some ((n : Int), (j : Int))) (fun k => ?_) (Ev.now _)⟩
      simp only [trim_Ends_string.l1]
      rw [if_neg (by simp only [List.length_drop]; unfold mn; split <;> omega)]

theorem ends_fore (a b : List ByteArray) (ha : a.length ≤ 1000000000000) (hb : b.length ≤ 1000000000000) :
    ∀ (d i : Nat), a.length - i ≤ d → i ≤ a.length → i ≤ b.length → (∀ j, j < i → Fore a b j) →
      ∃ n m, Stops (Fore a b) n ∧ Stops (Rear a b n) m ∧ Ev (fun k => trim_Ends_string.l0 k a b i) (n, m) := by
  intro d
  induction d with
  | zero =>
    intro i h1 h2 h3 h4
    obtain ⟨m, hm, hE⟩ := ends_rear a b i ha hb h2 h3 a.length 0 (by omega) (by omega) (by omega) (fun j hj => by omega)
    refine ⟨i, m, ⟨h4, fun h => by have := h.1; omega⟩, hm, Ev.step (fun k => ?_) (Ev.step (g := fun k => trim_Ends_string.j1 k a b i) (fun k => ?_) hE)⟩
    · simp only [trim_Ends_string.l0]
      rw [if_neg (by unfold mn; split <;> omega)]
    · simp only [trim_Ends_string.j1]
      rw [if_pos (by omega), if_pos (by omega), if_pos (by omega), Int.toNat_natCast]; rfl
  | succ d ih =>
    intro i h1 h2 h3 h4
    by_cases hf : Fore a b i
    · obtain ⟨n, m, hn, hm, hE⟩ := ih (i + 1) (by have := hf.1; omega) hf.1 hf.2.1 (fun j hj => by
        rcases Nat.lt_succ_iff_lt_or_eq.1 hj with h | rfl
        · exact h4 j h
        · exact hf)
      obtain ⟨f1, f2, f3⟩ := hf
      refine ⟨n, m, hn, hm, Ev.step (fun k => ?_) hE⟩
      simp only [trim_Ends_string.l0]
      rw [if_pos (by unfold mn; split <;> omega), if_pos (by omega), if_pos (by omega), if_pos (by omega), rd_nat, rd_nat, if_pos f3, w64 (by omega) (by omega)]
      rfl
    · obtain ⟨m, hm, hE⟩ := ends_rear a b i ha hb h2 h3 a.length 0 (by omega) (by omega) (by omega) (fun j hj => by omega)
      refine ⟨i, m, ⟨h4, hf⟩, hm, Ev.step (fun k => ?_) (Ev.step (g := fun k => trim_Ends_string.j1 k a b i) (fun k => ?_) hE)⟩
      · simp only [trim_Ends_string.l0]
        by_cases hl : i < a.length ∧ i < b.length
        · rw [if_pos (by unfold mn; split <;> omega), if_pos (by omega), if_pos (by omega), if_pos (by omega), rd_nat, rd_nat, if_neg (fun h => hf ⟨hl.1, hl.2, h⟩)]
        · rw [if_neg (by unfold mn; split <;> omega)]
      · simp only [trim_Ends_string.j1]
        rw [if_pos (by omega), if_pos (by omega), if_pos (by omega), Int.toNat_natCast]; rfl

theorem ends_int (a b : List ByteArray) (ha : a.length ≤ 1000000000000) (hb : b.length ≤ 1000000000000) :
    ∃ n m, Stops (Fore a b) n ∧ Stops (Rear a b n) m ∧ Ev (fun k => trim_Ends_string.f k a b) (n, m) :=
  ends_fore a b ha hb a.length 0 (by omega) (by omega) (by omega) (fun j hj => by omega)

theorem ref_rear (a b : List ByteArray) (n : Nat) (ha : a.length ≤ 1000000000000) (hb : b.length ≤ 1000000000000) :
    ∀ (d j : Nat), a.length - j ≤ d → n + j ≤ a.length → n + j ≤ b.length → (∀ i, i < j → Rear a b n i) →
      ∃ m, Stops (Rear a b n) m ∧ Ev (fun k => tripartiteref02_EndsText.l1 k a b n j) (n, m) := by
  intro d
  induction d with
  | zero =>
    intro j h1 h2 h3 h4
    refine ⟨j, ⟨h4, fun h => by have := h.1; omega⟩, Ev.step (f := fun _ => some ((n : Int), (j : Int))) (fun k => ?_) (Ev.now _)⟩
    simp only [tripartiteref02_EndsText.l1]
    rw [w64 (by omega) (by omega), if_neg (by omega)]
  | succ d ih =>
    intro j h1 h2 h3 h4
    have e0 : wrap64 ((n : Int) + j) = ((n + j : Nat) : Int) := by rw [w64 (by omega) (by omega)]; omega
    by_cases hj : n + j < a.length ∧ n + j < b.length
    · have e1 : wrap64 (wrap64 ((a.length : Int) - 1) - j) = ((a.length - 1 - j : Nat) : Int) := by
        rw [w64 (x := (a.length : Int) - 1) (by omega) (by omega), w64 (by omega) (by omega)]; omega
      have e2 : wrap64 (wrap64 ((b.length : Int) - 1) - j) = ((b.length - 1 - j : Nat) : Int) := by
        rw [w64 (x := (b.length : Int) - 1) (by omega) (by omega), w64 (by omega) (by omega)]; omega
      by_cases he : (a.getD (a.length - 1 - j) ByteArray.empty).toList = (b.getD (b.length - 1 - j) ByteArray.empty).toList
      · obtain ⟨m, hm, hE⟩ := ih (j + 1) (by omega) (by omega) (by omega) (fun i hi => by
          rcases Nat.lt_succ_iff_lt_or_eq.1 hi with h | rfl
          · exact h4 i h
          · exact ⟨hj.1, hj.2, he⟩)
        refine ⟨m, hm, Ev.step (fun k => ?_) hE⟩
        simp only [tripartiteref02_EndsText.l1]
        rw [e0, e1, e2, if_pos (by omega), if_pos (by omega), if_pos (by omega), if_pos (by omega), if_pos (by omega), if_pos (by omega), rd_nat, rd_nat, if_pos he, w64 (by omega) (by omega)]
        rfl
      · refine ⟨j, ⟨h4, fun h => he h.2.2⟩, Ev.step (f := fun _ => some ((n : Int), (j : Int))) (fun k => ?_) (Ev.now _)⟩
        simp only [tripartiteref02_EndsText.l1]
        rw [e0, e1, e2, if_pos (by omega), if_pos (by omega), if_pos (by omega), if_pos (by omega), if_pos (by omega), if_pos (by omega), rd_nat, rd_nat, if_neg he]
    · refine ⟨j, ⟨h4, fun h => hj ⟨h.1, h.2.1⟩⟩, Ev.step (f := fun _ => some ((n : Int), (j : Int))) (fun k => ?_) (Ev.now _)⟩
      simp only [tripartiteref02_EndsText.l1]
      rw [e0]
      by_cases ha' : n + j < a.length
      · rw [if_pos (by omega), if_neg (by omega)]
      · rw [if_neg (by omega)]

theorem ref_fore (a b : List ByteArray) (ha : a.length ≤ 1000000000000) (hb : b.length ≤ 1000000000000) :
    ∀ (d i : Nat), a.length - i ≤ d → i ≤ a.length → i ≤ b.length → (∀ j, j < i → Fore a b j) →
      ∃ n m, Stops (Fore a b) n ∧ Stops (Rear a b n) m ∧ Ev (fun k => tripartiteref02_EndsText.l0 k a b i 0) (n, m) := by
  intro d
  induction d with
  | zero =>
    intro i h1 h2 h3 h4
    obtain ⟨m, hm, hE⟩ := ref_rear a b i ha hb a.length 0 (by omega) (by omega) (by omega) (fun j hj => by omega)
    refine ⟨i, m, ⟨h4, fun h => by have := h.1; omega⟩, hm, Ev.step (fun k => ?_) (Ev.step (g := fun k => tripartiteref02_EndsText.j1 k a b i 0) (fun k => ?_) hE)⟩
    · simp only [tripartiteref02_EndsText.l0]
      rw [if_neg (by omega)]
    · simp only [tripartiteref02_EndsText.j1]; rfl
  | succ d ih =>
    intro i h1 h2 h3 h4
    by_cases hf : Fore a b i
    · obtain ⟨n, m, hn, hm, hE⟩ := ih (i + 1) (by have := hf.1; omega) hf.1 hf.2.1 (fun j hj => by
        rcases Nat.lt_succ_iff_lt_or_eq.1 hj with h | rfl
        · exact h4 j h
        · exact hf)
      obtain ⟨f1, f2, f3⟩ := hf
      refine ⟨n, m, hn, hm, Ev.step (fun k => ?_) hE⟩
      simp only [tripartiteref02_EndsText.l0]
      rw [if_pos (by omega), if_pos (by omega), if_pos (by omega), rd_nat, rd_nat, if_pos f3, w64 (by omega) (by omega)]
      rfl
    · obtain ⟨m, hm, hE⟩ := ref_rear a b i ha hb a.length 0 (by omega) (by omega) (by omega) (fun j hj => by omega)
      refine ⟨i, m, ⟨h4, hf⟩, hm, Ev.step (fun k => ?_) (Ev.step (g := fun k => tripartiteref02_EndsText.j1 k a b i 0) (fun k => ?_) hE)⟩
      · simp only [tripartiteref02_EndsText.l0]
        by_cases hl : i < a.length
        · by_cases hl2 : i < b.length
          · rw [if_pos (by omega), if_pos (by omega), if_pos (by omega), rd_nat, rd_nat, if_neg (fun h => hf ⟨hl, hl2, h⟩)]
          · rw [if_pos (by omega), if_neg (by omega)]
        · rw [if_neg (by omega)]
      · simp only [tripartiteref02_EndsText.j1]; rfl

theorem ref_int (a b : List ByteArray) (ha : a.length ≤ 1000000000000) (hb : b.length ≤ 1000000000000) :
    ∃ n m, Stops (Fore a b) n ∧ Stops (Rear a b n) m ∧ Ev (fun k => tripartiteref02_EndsText.f k a b) (n, m) :=
  ref_fore a b ha hb a.length 0 (by omega) (by omega) (by omega) (fun j hj => by omega)

theorem ends_same {a b : List ByteArray} {n m p q : Nat} (h1 : Stops (Fore a b) n) (h2 : Stops (Rear a b n) m) (h3 : Stops (Fore a b) p) (h4 : Stops (Rear a b p) q) : n = p ∧ m = q := by
  obtain rfl := h1.uniq h3
  exact ⟨rfl, h2.uniq h4⟩

/-- as long as one another, and alike at every place -/
def Alike (a b : List ByteArray) : Prop := a.length = b.length ∧ ∀ j, j < a.length → (a.getD j ByteArray.empty).toList = (b.getD j ByteArray.empty).toList
open Classical in
noncomputable def alike (a b : List ByteArray) : Bool := decide (Alike a b)
open Classical in
theorem alike_true {a b : List ByteArray} (h : Alike a b) : alike a b = true := by unfold alike; exact decide_eq_true h
open Classical in
theorem alike_false {a b : List ByteArray} (h : ¬ Alike a b) : alike a b = false := by unfold alike; exact decide_eq_false h

theorem same_go (a b : List ByteArray) (hl : a.length = b.length) (hb : a.length ≤ 1000000000000) : ∀ (d i : Nat), a.length - i ≤ d → i ≤ a.length → (∀ j, j < i → (a.getD j ByteArray.empty).toList = (b.getD j ByteArray.empty).toList) →
    Ev (fun k => slices_Equal_string_string.l0 k a b a.length i) (alike a b) := by
  intro d
  induction d with
  | zero =>
    intro i h1 h2 h3
    have e : Alike a b := ⟨hl, fun j hj => h3 j (by omega)⟩
    refine Ev.step (f := fun _ => some (alike a b)) (fun k => ?_) (Ev.now _)
    simp only [slices_Equal_string_string.l0]
    rw [if_neg (by omega), alike_true e]
  | succ d ih =>
    intro i h1 h2 h3
    by_cases hi : i < a.length
    · by_cases he : (a.getD i ByteArray.empty).toList = (b.getD i ByteArray.empty).toList
      · refine Ev.step (fun k => ?_) (ih (i + 1) (by omega) (by omega) (fun j hj => by
          rcases Nat.lt_succ_iff_lt_or_eq.1 hj with h | rfl
          · exact h3 j h
          · exact he))
        simp only [slices_Equal_string_string.l0]
        rw [if_pos (by omega), if_pos (by omega), if_pos (by omega), if_pos (by omega), rd_nat, rd_nat, if_pos he, w64 (by omega) (by omega)]; rfl
      · refine Ev.step (f := fun _ => some (alike a b)) (fun k => ?_) (Ev.now _)
        simp only [slices_Equal_string_string.l0]
        rw [if_pos (by omega), if_pos (by omega), if_pos (by omega), if_pos (by omega), rd_nat, rd_nat, if_neg he, alike_false (fun h => he (h.2 i hi))]
    · have e : Alike a b := ⟨hl, fun j hj => h3 j (by omega)⟩
      refine Ev.step (f := fun _ => some (alike a b)) (fun k => ?_) (Ev.now _)
      simp only [slices_Equal_string_string.l0]
      rw [if_neg (by omega), alike_true e]

theorem same_int (a b : List ByteArray) (hb : a.length ≤ 1000000000000) : Ev (fun k => trim_Same_string.f k a b) (alike a b) := by
  refine Ev.bind (a := alike a b) ?_ (Ev.now _)
  by_cases hl : a.length = b.length
  · refine Ev.congr (f := fun k => slices_Equal_string_string.l0 k a b a.length (0 : Nat)) (fun k => ?_) (same_go a b hl hb a.length 0 (by omega) (by omega) (fun j hj => by omega))
    unfold slices_Equal_string_string.f; rw [if_pos (by omega)]; rfl
  · refine Ev.congr (f := fun _ => some (alike a b)) (fun k => ?_) (Ev.now _)
    unfold slices_Equal_string_string.f; rw [if_neg (by omega), alike_false (fun h => hl h.1)]

theorem ref_same_go (a b : List ByteArray) (hl : a.length = b.length) (hb : a.length ≤ 1000000000000) : ∀ (d i : Nat), a.length - i ≤ d → i ≤ a.length → (∀ j, j < i → (a.getD j ByteArray.empty).toList = (b.getD j ByteArray.empty).toList) →
    Ev (fun k => tripartiteref01_Same.l0 k a b i) (alike a b) := by
  intro d
  induction d with
  | zero =>
    intro i h1 h2 h3
    have e : Alike a b := ⟨hl, fun j hj => h3 j (by omega)⟩
    refine Ev.step (f := fun _ => some (alike a b)) (fun k => ?_) (Ev.now _)
    simp only [tripartiteref01_Same.l0]
    rw [if_neg (by omega), alike_true e]
  | succ d ih =>
    intro i h1 h2 h3
    by_cases hi : i < a.length
    · by_cases he : (a.getD i ByteArray.empty).toList = (b.getD i ByteArray.empty).toList
      · refine Ev.step (fun k => ?_) (ih (i + 1) (by omega) (by omega) (fun j hj => by
          rcases Nat.lt_succ_iff_lt_or_eq.1 hj with h | rfl
          · exact h3 j h
          · exact he))
        simp only [tripartiteref01_Same.l0]
        rw [if_pos (by omega), if_pos (by omega), if_pos (by omega), rd_nat, rd_nat, if_pos he, w64 (by omega) (by omega)]; rfl
      · refine Ev.step (f := fun _ => some (alike a b)) (fun k => ?_) (Ev.now _)
        simp only [tripartiteref01_Same.l0]
        rw [if_pos (by omega), if_pos (by omega), if_pos (by omega), rd_nat, rd_nat, if_neg he, alike_false (fun h => he (h.2 i hi))]
    · have e : Alike a b := ⟨hl, fun j hj => h3 j (by omega)⟩
      refine Ev.step (f := fun _ => some (alike a b)) (fun k => ?_) (Ev.now _)
      simp only [tripartiteref01_Same.l0]
      rw [if_neg (by omega), alike_true e]

theorem ref_same (a b : List ByteArray) (hb : a.length ≤ 1000000000000) : Ev (fun k => tripartiteref01_Same.f k a b) (alike a b) := by
  by_cases hl : a.length = b.length
  · refine Ev.congr (f := fun k => tripartiteref01_Same.l0 k a b (0 : Nat)) (fun k => ?_) (ref_same_go a b hl hb a.length 0 (by omega) (by omega) (fun j hj => by omega))
    unfold tripartiteref01_Same.f; rw [if_pos (by omega)]; rfl
  · refine Ev.congr (f := fun _ => some (alike a b)) (fun k => ?_) (Ev.now _)
    unfold tripartiteref01_Same.f; rw [if_neg (by omega), alike_false (fun h => hl h.1)]

theorem told_true : Ev (fun k => tripartitelaw02_told.f k) true := Ev.of (tripartitelaw02_told.mono) (k := 12) (by decide +kernel)

theorem TrimTexts (l0 l1 : List ByteArray) : ∃ k, tripartitelaw02_TrimTexts.f k l0 l1 = some true := by
  refine Ev.rounds (g := fun k => tripartitelaw02_TrimTexts.f k l0 l1) ?_
  have c : ∀ l : List ByteArray, 0 ≤ mn (l.length : Int) 300 ∧ mn (l.length : Int) 300 ≤ (l.length : Int) ∧ mn (l.length : Int) 300 ≤ 300 := by
    intro l; unfold mn; split <;> omega
  obtain ⟨a0, a1, a2⟩ := c l0
  obtain ⟨b0, b1, b2⟩ := c l1
  generalize hA : l0.take (mn (l0.length : Int) 300).toNat = A
  generalize hB : l1.take (mn (l1.length : Int) 300).toNat = B
  have hAl : A.length ≤ 300 := by rw [← hA, List.length_take]; omega
  have hBl : B.length ≤ 300 := by rw [← hB, List.length_take]; omega
  obtain ⟨n, m, h1, h2, h3⟩ := ends_int A B (by omega) (by omega)
  obtain ⟨p, q, h4, h5, h6⟩ := ref_int A B (by omega) (by omega)
  obtain ⟨rfl, rfl⟩ := ends_same h1 h2 h4 h5
  refine Ev.congr (fun k => by unfold tripartitelaw02_TrimTexts.f; rw [if_pos a0, if_pos a1, Option.bind_some, if_pos b0, if_pos b1, Option.bind_some, hA, hB]) ?_
  refine Ev.bind h3 (Ev.bind h6 (Ev.bind told_true ?_))
  refine Ev.congr (fun k => by rw [if_pos rfl, if_pos rfl, if_pos rfl]) ?_
  refine Ev.bind (same_int A B (by omega)) (Ev.bind (ref_same A B (by omega)) ?_)
  rw [beq_self_eq_true]
  exact Ev.now _

end Txt
theorem TrimTexts (l0 l1 : List ByteArray) : ∃ k, PA.tripartitelaw02_TrimTexts.f k l0 l1 = some true := Txt.TrimTexts l0 l1
end Go.Proofs.Ytadafplbgophfaa.Pure
