/- Part 4 of what the row of the law EditApplies rests on: walks of functions, and plain lemmas. -/
import Derived.Test.YtadafplbgophfaaEb3
import Derived.Test.YtadafplbgophfaaEb2
import Derived.Test.YtadafplbgophfaaEb1
import Derived.Deep.Strs
import Derived.Deep.Grids
import Derived.Deep.SlicePairs
import Derived.OpenShut
import Derived.SizedLaws
section
/- Which scripts may be, as both sides tell; the document's way back; few. -/
namespace Go.Proofs.Ytadafplbgophfaa.PA
set_option linter.unusedSimpArgs false
set_option linter.unusedVariables false
open Go.RowKit Go.Proofs.YtadafplbgophfaaW.PrintWords Go.Proofs.YtadafplbgophfaaW.PrintLast Go.Proofs.YtadafplbgophfaaW.PrintMore
open Jdg

/-! scripts that may be -/
def okS (x : S144) : Prop := 0 ≤ x.f0 ∧ x.f0 ≤ 2 ∧ x.f1 ≠ []
def Rt : List S144 → Prop
  | [] => True
  | [x] => okS x
  | x :: y :: l => okS x ∧ x.f0 ≠ y.f0 ∧ ¬ (x.f0 = 2 ∧ y.f0 = 1) ∧ Rt (y :: l)
theorem Rt.tail {x : S144} {l : List S144} (h : Rt (x :: l)) : okS x ∧ Rt l := by
  cases l with
  | nil => exact ⟨h, trivial⟩
  | cons y l => exact ⟨h.1, h.2.2.2⟩
def sw (k : Int) : Int := if k = 1 then 2 else if k = 2 then 1 else k
def bk : List S144 → List S144
  | [] => []
  | [x] => [⟨sw x.f0, x.f1⟩]
  | x :: y :: l => if x.f0 = 1 ∧ y.f0 = 2 then ⟨1, y.f1⟩ :: ⟨2, x.f1⟩ :: bk l else ⟨sw x.f0, x.f1⟩ :: bk (y :: l)
theorem sw_0 : sw 0 = 0 := rfl
theorem sw_1 : sw 1 = 2 := rfl
theorem sw_2 : sw 2 = 1 := rfl
theorem k3 {x : S144} (h : okS x) : x.f0 = 0 ∨ x.f0 = 1 ∨ x.f0 = 2 := by obtain ⟨a, b, _⟩ := h; omega
theorem bk_head0 {x : S144} {l : List S144} (h : x.f0 = 0) : ∃ m, bk (x :: l) = ⟨0, x.f1⟩ :: m := by
  cases l with
  | nil => exact ⟨[], by simp [bk, h, sw]⟩
  | cons y l => exact ⟨_, by rw [bk, if_neg (by omega), h, sw_0]⟩
theorem bk_head2 {x : S144} {l : List S144} (h : x.f0 = 2) : ∃ m, bk (x :: l) = ⟨1, x.f1⟩ :: m := by
  cases l with
  | nil => exact ⟨[], by simp [bk, h, sw]⟩
  | cons y l => exact ⟨_, by rw [bk, if_neg (by omega), h, sw_2]⟩
theorem bk_headne0 {x : S144} {l : List S144} (hx : okS x) (h : x.f0 ≠ 0) : HeadNe 0 (bk (x :: l)) := by
  cases l with
  | nil => rcases k3 hx with e | e | e
           · exact absurd e h
           · simp [bk, HeadNe, e, sw]
           · simp [bk, HeadNe, e, sw]
  | cons y l =>
    rw [bk]
    split
    · simp [HeadNe]
    · rcases k3 hx with e | e | e
      · exact absurd e h
      · simp [HeadNe, e, sw]
      · simp [HeadNe, e, sw]
theorem HeadNe_nil (q : Int) : HeadNe q [] := trivial
theorem head0_ne {x : S144} {l : List S144} (h : x.f0 = 0) {q : Int} (hq : q ≠ 0) : HeadNe q (bk (x :: l)) := by
  obtain ⟨m, e⟩ := bk_head0 (l := l) h
  rw [e]; exact fun e => hq e.symm
/-- puts that meet no step of their kind -/
def LastNe (q : Int) (out : List S144) : Prop := ∀ i x, out = i ++ [x] → x.f0 ≠ q
theorem LastNe.nil (q : Int) : LastNe q [] := fun i x h => by simp at h
theorem LastNe.snoc {q : Int} {i : List S144} {x : S144} (h : x.f0 ≠ q) : LastNe q (i ++ [x]) := fun j y e => by
  have := List.append_inj_right' e rfl
  simp only [List.cons.injEq, and_true] at this
  exact this ▸ h
theorem pt_new {out : List S144} {k : Int} {t : List ByteArray} (h : LastNe k out) (ht : t ≠ []) : pt out k t = out ++ [⟨k, t⟩] := by
  rcases pt_cases out k t with ⟨e, _⟩ | ⟨_, rfl, e⟩ | ⟨_, i, x, rfl, hk, e⟩ | ⟨_, i, x, rfl, hk, e⟩
  · exact absurd e ht
  · exact e
  · exact absurd hk (h i x rfl)
  · exact e
theorem lastne_head {out : List S144} {k : Int} {t : List ByteArray} {m : List S144} (h : ∀ q, (∃ i x, out = i ++ [x] ∧ x.f0 = q) → HeadNe q (⟨k, t⟩ :: m)) : LastNe k out := fun i x e hk => h k ⟨i, x, e, hk⟩ rfl
theorem bkR_bk : ∀ (n : Nat) (l out : List S144), l.length ≤ n → Rt l → (∀ q, (∃ i x, out = i ++ [x] ∧ x.f0 = q) → HeadNe q (bk l)) → bkR l out [] = out ++ bk l
  | _, [], out, _, _, _ => by simp only [bkR, bk]; rw [pt_none, List.append_nil]
  | 0, x :: l, out, hn, _, _ => by simp at hn
  | n + 1, [x], out, hn, hr, hc => by
    have hx : okS x := hr
    rcases k3 hx with e | e | e
    · simp only [bk, e, sw_0] at hc ⊢
      simp only [bkR]
      rw [if_neg (by omega), if_pos e, if_neg (by omega), pt_none, pt_none, pt_new (lastne_head hc) hx.2.2]
    · simp only [bk, e, sw_1] at hc ⊢
      simp only [bkR]
      rw [if_pos e, pt_new (lastne_head hc) hx.2.2]
    · simp only [bk, e, sw_2] at hc ⊢
      simp only [bkR]
      rw [if_neg (by omega), if_neg (by omega), if_pos e, pt_none, pt_none, pt_new (lastne_head hc) hx.2.2]
  | n + 1, x :: y :: l, out, hn, hr, hc => by
    obtain ⟨hx, hxy, h21, hr2⟩ := hr
    obtain ⟨hy, hr3⟩ := hr2.tail
    simp only [List.length_cons] at hn
    by_cases hp : x.f0 = 1 ∧ y.f0 = 2
    · obtain ⟨e1, e2⟩ := hp
      rw [bk, if_pos ⟨e1, e2⟩] at hc ⊢
      simp only [bkR]
      rw [if_pos e1, if_neg (by omega), if_neg (by omega), if_pos e2, pt_new (lastne_head hc) hy.2.2, pt_new (LastNe.snoc (show (1 : Int) ≠ 2 by decide)) hx.2.2]
      rw [bkR_bk n l _ (by omega) hr3 ?_]
      · simp
      · rintro q ⟨i, z, ez, hz⟩
        have := List.append_inj_right' ez rfl
        simp only [List.cons.injEq, and_true] at this
        subst this
        cases l with
        | nil => trivial
        | cons z l =>
          obtain ⟨_, h1, h2, hr4⟩ := hr2
          have hz0 : z.f0 = 0 := by
            rcases k3 hr4.tail.1 with e | e | e
            · exact e
            · exact absurd ⟨e2, e⟩ h2
            · exact absurd (e2.trans e.symm) h1
          exact head0_ne hz0 (by simp only at hz; omega)
    · rw [bk, if_neg hp] at hc ⊢
      rcases k3 hx with e | e | e
      · rw [e, sw_0] at hc ⊢
        rw [bkR]
        rw [if_neg (by omega), if_pos e, if_neg (by omega), pt_none, pt_new (lastne_head hc) hx.2.2, bkR_bk n (y :: l) _ (by simp only [List.length_cons]; omega) hr2 ?_]
        · simp
        · rintro q ⟨i, z, ez, hz⟩
          have := List.append_inj_right' ez rfl
          simp only [List.cons.injEq, and_true] at this
          subst this
          simp only at hz
          subst hz
          exact bk_headne0 hy (by omega)
      · have hy0 : y.f0 = 0 := by
          rcases k3 hy with e' | e' | e'
          · exact e'
          · omega
          · exact absurd ⟨e, e'⟩ hp
        rw [e, sw_1] at hc ⊢
        rw [bkR, if_pos e]
        have hsame : bkR (y :: l) out x.f1 = bkR (y :: l) (pt out 2 x.f1) [] := by
          have n1 : ¬ y.f0 = 1 := by omega
          have n2 : ¬ y.f0 = 2 := by omega
          simp only [bkR, n1, n2, hy0, if_true, if_false, pt_none]
          rfl
        rw [hsame, pt_new (lastne_head hc) hx.2.2, bkR_bk n (y :: l) _ (by simp only [List.length_cons]; omega) hr2 ?_]
        · simp
        · rintro q ⟨i, z, ez, hz⟩
          have := List.append_inj_right' ez rfl
          simp only [List.cons.injEq, and_true] at this
          subst this
          exact head0_ne hy0 (by simp only at hz; omega)
      · have hy0 : y.f0 = 0 := by
          rcases k3 hy with e' | e' | e'
          · exact e'
          · exact absurd ⟨e, e'⟩ h21
          · omega
        rw [e, sw_2] at hc ⊢
        rw [bkR]
        rw [if_neg (by omega), if_neg (by omega), if_pos e, pt_none, pt_new (lastne_head hc) hx.2.2, bkR_bk n (y :: l) _ (by simp only [List.length_cons]; omega) hr2 ?_]
        · simp
        · rintro q ⟨i, z, ez, hz⟩
          have := List.append_inj_right' ez rfl
          simp only [List.cons.injEq, and_true] at this
          subst this
          exact head0_ne hy0 (by simp only at hz; omega)
theorem back_bk {l : List S144} (h : Rt l) : bkR l [] [] = bk l := by
  rw [bkR_bk l.length l [] (Nat.le_refl _) h (fun q ⟨i, x, e, _⟩ => by simp at e)]; rfl
theorem sw_sw {x : S144} (h : okS x) : sw (sw x.f0) = x.f0 := by rcases k3 h with e | e | e <;> rw [e] <;> rfl
theorem sw_ok {x : S144} (h : okS x) : okS ⟨sw x.f0, x.f1⟩ := by
  rcases k3 h with e | e | e <;> simp only [okS, e] <;> exact ⟨by decide, by decide, h.2.2⟩
theorem Rt_cons {x : S144} {l : List S144} (hx : okS x) (hl : Rt l) (h : HeadNe x.f0 l) (h2 : x.f0 = 2 → HeadNe 1 l) : Rt (x :: l) := by
  cases l with
  | nil => exact hx
  | cons y l => exact ⟨hx, fun e => h e.symm, fun ⟨e1, e2⟩ => h2 e1 e2, hl⟩
/-- the way back of the way back; it may be, too -/
theorem bk_bk : ∀ (n : Nat) (l : List S144), l.length ≤ n → Rt l → bk (bk l) = l ∧ Rt (bk l)
  | _, [], _, _ => ⟨rfl, trivial⟩
  | 0, x :: l, hn, _ => by simp at hn
  | n + 1, [x], hn, hr => by
    have hx : okS x := hr
    refine ⟨?_, ?_⟩
    · simp only [bk]; rw [sw_sw hx]
    · simp only [bk]; exact sw_ok hx
  | n + 1, x :: y :: l, hn, hr => by
    obtain ⟨hx, hxy, h21, hr2⟩ := hr
    obtain ⟨hy, hr3⟩ := hr2.tail
    simp only [List.length_cons] at hn
    by_cases hp : x.f0 = 1 ∧ y.f0 = 2
    · obtain ⟨e1, e2⟩ := hp
      obtain ⟨i1, i2⟩ := bk_bk n l (by omega) hr3
      rw [bk, if_pos ⟨e1, e2⟩]
      have hz : ∀ q, q ≠ 0 → HeadNe q (bk l) := by
        intro q hq
        cases l with
        | nil => trivial
        | cons z l =>
          obtain ⟨_, h1, h2, hr4⟩ := hr2
          have hz0 : z.f0 = 0 := by
            rcases k3 hr4.tail.1 with e | e | e
            · exact e
            · exact absurd ⟨e2, e⟩ h2
            · exact absurd (e2.trans e.symm) h1
          exact head0_ne hz0 hq
      refine ⟨?_, ?_⟩
      · rw [bk, if_pos ⟨rfl, rfl⟩, i1, ← e1, ← e2]
      · have r1 : Rt (⟨2, x.f1⟩ :: bk l) := Rt_cons ⟨by simp, by simp, hx.2.2⟩ i2 (hz 2 (by decide)) (fun _ => hz 1 (by decide))
        exact Rt_cons ⟨by simp, by simp, hy.2.2⟩ r1 (by simp [HeadNe]) (fun h => by simp at h)
    · obtain ⟨i1, i2⟩ := bk_bk n (y :: l) (by simp only [List.length_cons]; omega) hr2
      rw [bk, if_neg hp]
      have hd : HeadNe (sw x.f0) (bk (y :: l)) ∧ (sw x.f0 = 2 → HeadNe 1 (bk (y :: l))) ∧ (sw x.f0 = 1 → HeadNe 2 (bk (y :: l))) := by
        rcases k3 hx with e | e | e
        · rw [e, sw_0]
          exact ⟨bk_headne0 hy (by omega), fun h => by simp at h, fun h => by simp at h⟩
        · have hy0 : y.f0 = 0 := by
            rcases k3 hy with e' | e' | e'
            · exact e'
            · omega
            · exact absurd ⟨e, e'⟩ hp
          rw [e, sw_1]
          exact ⟨head0_ne hy0 (by decide), fun _ => head0_ne hy0 (by decide), fun h => by simp at h⟩
        · have hy0 : y.f0 = 0 := by
            rcases k3 hy with e' | e' | e'
            · exact e'
            · exact absurd ⟨e, e'⟩ h21
            · omega
          rw [e, sw_2]
          exact ⟨head0_ne hy0 (by decide), fun h => by simp at h, fun _ => head0_ne hy0 (by decide)⟩
      refine ⟨?_, Rt_cons (sw_ok hx) i2 hd.1 hd.2.1⟩
      generalize hm : bk (y :: l) = m at *
      cases m with
      | nil => simp [bk] at i1
      | cons z m =>
        rw [bk, if_neg (fun ⟨a, b⟩ => hd.2.2 a b), i1, sw_sw hx]
theorem to4_ok {l : List S144} (h : Few l) : Ev (fun k => tripartitelaw04_To.f k l) (l.map t144) := by
  refine Ev.down (P := fun i => Ev (fun k => tripartitelaw04_To.l0 k l ((l.take i).map t144) (i : Int)) (l.map t144)) l.length ?_ ?_
  · refine Ev.step (f := fun _ => some (l.map t144)) (fun k => ?_) (Ev.now _)
    simp only [tripartitelaw04_To.l0]
    rw [if_neg (by omega), List.take_length]
  · intro i hi hE
    have h1 := h.1
    have h2 := h.el hi
    refine Ev.step (fun k => ?_) hE
    simp only [tripartitelaw04_To.l0, Option.bind_some, List.length_nil, List.nil_append, Nat.zero_add]
    rw [if_pos (by omega), if_pos (by omega), rdT144_nat l hi, if_pos (by omega), if_pos (by rw [List.length_map, List.length_take]; omega), next64 (by omega)]
    show tripartitelaw04_To.l0 k l ((l.take i).map t144 ++ [t144 l[i]]) _ = _
    rw [take_map]
theorem rside_ok {l : List S144} (h : Few l) (q : Int) : Ev (fun k => tripartiteref04_Side.f k l q) (side q l) := by
  have h1 := h.1
  refine Ev.down (P := fun i => Ev (fun k => tripartiteref04_Side.l0 k l q (side q (l.take i)) (i : Int)) (side q l)) l.length ?_ ?_
  · refine Ev.step (f := fun _ => some (side q l)) (fun k => ?_) (Ev.now _)
    simp only [tripartiteref04_Side.l0]; rw [if_neg (by omega), List.take_length]
  · intro i hi hE
    have h2 := h.el hi
    have h3 := side_tot q (l.take i)
    have h4 := take_tot_le l i
    have h5 := h.2
    have h6 : (side q (l.take i)).length + l[i].f1.length < 8796093022208 := by omega
    rw [take_side q hi] at hE
    refine Ev.step (fun k => ?_) hE
    simp only [tripartiteref04_Side.l0]
    rw [if_pos (by omega), if_pos (by omega), rdT144_nat l hi, next64 (by omega)]
    by_cases c0 : l[i].f0 = 0
    · rw [if_pos c0, if_pos h6, if_pos (.inl c0)]
    · rw [if_neg c0]
      by_cases c1 : l[i].f0 = q
      · rw [if_pos c1, if_pos h6, if_pos (.inr c1)]
      · rw [if_neg c1, if_neg (fun h => h.elim c0 c1), List.append_nil]
def rtB (w : Int) : List S144 → Bool
  | [] => true
  | x :: l => decide (0 ≤ x.f0) && (decide (x.f0 ≤ 2) && (!decide (x.f1.length = 0) && (!decide (x.f0 = w) && (!(decide (w = 2) && decide (x.f0 = 1)) && rtB x.f0 l))))
theorem rtB_Rt : ∀ (l : List S144) (w : Int), rtB w l = true ↔ (∀ x m, l = x :: m → x.f0 ≠ w ∧ ¬ (w = 2 ∧ x.f0 = 1)) ∧ Rt l
  | [], w => by simp [rtB, Rt]
  | x :: l, w => by
    have ih := rtB_Rt l x.f0
    simp only [rtB, Bool.and_eq_true, decide_eq_true_eq, Bool.not_eq_true', decide_eq_false_iff_not, Bool.and_eq_false_iff]
    rw [ih]
    constructor
    · rintro ⟨h1, h2, h3, h4, h5, h6, h7⟩
      have hok : okS x := ⟨h1, h2, fun e => h3 (by rw [e]; rfl)⟩
      refine ⟨fun y m e => ?_, ?_⟩
      · injection e with e1 e2
        subst e1
        exact ⟨h4, fun ⟨a, b⟩ => h5.elim (fun h => h a) (fun h => h b)⟩
      · cases l with
        | nil => exact hok
        | cons y l =>
          obtain ⟨g1, g2⟩ := h6 y l rfl
          exact ⟨hok, fun e => g1 e.symm, g2, h7⟩
    · rintro ⟨h1, h2⟩
      obtain ⟨hok, hr⟩ := h2.tail
      obtain ⟨g1, g2⟩ := h1 x l rfl
      refine ⟨hok.1, hok.2.1, fun e => hok.2.2 (List.eq_nil_of_length_eq_zero e), g1, ?_, fun y m e => ?_, hr⟩
      · by_cases hw : w = 2
        · exact .inr fun e => g2 ⟨hw, e⟩
        · exact .inl hw
      · subst e
        exact ⟨fun e => h2.2.1 e.symm, h2.2.2.1⟩
theorem rtB_start (l : List S144) : rtB (-1) l = true ↔ Rt l := by
  rw [rtB_Rt]
  constructor
  · exact fun h => h.2
  · intro h
    refine ⟨fun x m e => ?_, h⟩
    subst e
    have := h.tail.1.1
    exact ⟨by omega, by omega⟩
theorem eright_go (l : List S144) (hl : l.length ≤ 1000000) : ∀ (d i : Nat) (w : Int), l.length - i ≤ d → i ≤ l.length → Ev (fun k => edit_Right.l0 k w (l.map t144) ((l.map t144).length : Int) (i : Int)) (rtB w (l.drop i)) := by
  have fin : ∀ w : Int, Ev (fun k => edit_Right.l0 k w (l.map t144) ((l.map t144).length : Int) (l.length : Int)) (rtB w (l.drop l.length)) := by
    intro w
    refine Ev.step (f := fun _ => some true) (fun k => ?_) (by rw [List.drop_length]; exact Ev.now _)
    simp only [edit_Right.l0]; rw [if_neg (by rw [List.length_map]; omega)]
  intro d
  induction d with
  | zero => intro i w h1 h2; obtain rfl : i = l.length := by omega
            exact fin w
  | succ d ih =>
    intro i w h1 h2
    by_cases hi : i < l.length
    · have e : rd_T143 (l.map t144) (i : Int) = t144 l[i] := by rw [rdT143_nat' _ (by simpa using hi)]; simp
      have ef : (t144 l[i]).f0 = l[i].f0 := rfl
      have eg : (t144 l[i]).f1 = l[i].f1 := rfl
      have hlen : ((l.map t144).length : Int) = (l.length : Int) := by simp
      have hlt : (i : Int) < (l.length : Int) := by omega
      have hnx := next64 (i := i) (by omega)
      rw [List.drop_eq_getElem_cons hi]
      have hE := ih (i + 1) l[i].f0 (by omega) (by omega)
      generalize l[i] = x at *
      have fail : rtB w (x :: l.drop (i + 1)) = false → (∀ k, edit_Right.l0 (k + 1) w (l.map t144) ((l.map t144).length : Int) (i : Int) = some false) → Ev (fun k => edit_Right.l0 k w (l.map t144) ((l.map t144).length : Int) (i : Int)) (rtB w (x :: l.drop (i + 1))) := fun h1 h2 => by
        rw [h1]; exact Ev.step (f := fun _ => some false) h2 (Ev.now _)
      by_cases c1 : x.f0 < 0
      · refine fail (by simp [rtB, show ¬ (0 ≤ x.f0) by omega]) (fun k => ?_)
        simp only [edit_Right.l0]; rw [hlen, if_pos hlt, if_pos (by omega), if_pos hlt, e, ef, if_pos c1]
      by_cases c2 : x.f0 > 2
      · refine fail (by simp [rtB, show ¬ (x.f0 ≤ 2) by omega]) (fun k => ?_)
        simp only [edit_Right.l0]; rw [hlen, if_pos hlt, if_pos (by omega), if_pos hlt, e, ef, if_neg c1, if_pos c2]
      by_cases c3 : x.f1.length = 0
      · refine fail (by simp [rtB, c3]) (fun k => ?_)
        simp only [edit_Right.l0]; rw [hlen, if_pos hlt, if_pos (by omega), if_pos hlt, e, ef, if_neg c1, if_neg c2, eg, if_pos (by omega)]
      by_cases c4 : x.f0 = w
      · refine fail (by simp [rtB, c4]) (fun k => ?_)
        simp only [edit_Right.l0]; rw [hlen, if_pos hlt, if_pos (by omega), if_pos hlt, e, ef, if_neg c1, if_neg c2, eg, if_neg (by omega), if_pos c4]
      by_cases c5 : w = 2
      · by_cases c6 : x.f0 = 1
        · refine fail (by simp [rtB, c5, c6]) (fun k => ?_)
          simp only [edit_Right.l0]; rw [hlen, if_pos hlt, if_pos (by omega), if_pos hlt, e, ef, if_neg c1, if_neg c2, eg, if_neg (by omega), if_neg c4, if_pos c5, if_pos c6]
        · have hv : rtB w (x :: l.drop (i + 1)) = rtB x.f0 (l.drop (i + 1)) := by simp [rtB, show 0 ≤ x.f0 by omega, show x.f0 ≤ 2 by omega, c3, c4, c6]
          rw [hv]
          refine Ev.step (fun k => ?_) hE
          simp only [edit_Right.l0]; rw [hlen, if_pos hlt, if_pos (by omega), if_pos hlt, e, ef, if_neg c1, if_neg c2, eg, if_neg (by omega), if_neg c4, if_pos c5, if_neg c6, hnx]
      · have hv : rtB w (x :: l.drop (i + 1)) = rtB x.f0 (l.drop (i + 1)) := by simp [rtB, show 0 ≤ x.f0 by omega, show x.f0 ≤ 2 by omega, c3, c4, c5]
        rw [hv]
        refine Ev.step (fun k => ?_) hE
        simp only [edit_Right.l0]; rw [hlen, if_pos hlt, if_pos (by omega), if_pos hlt, e, ef, if_neg c1, if_neg c2, eg, if_neg (by omega), if_neg c4, if_neg c5, hnx]
    · obtain rfl : i = l.length := by omega
      exact fin w
theorem eright_ok (l : List S144) (hl : l.length ≤ 1000000) : Ev (fun k => edit_Right.f k (l.map t144)) (rtB (-1) l) := by
  have := eright_go l hl l.length 0 (-1) (by omega) (by omega)
  exact this
theorem rright_go (l : List S144) (hl : l.length ≤ 1000000) : ∀ (d i : Nat), l.length - i ≤ d → i ≤ l.length → Ev (fun k => tripartiteref04_Right.l0 k l (i : Int)) (rtB (if h : 0 < i ∧ i ≤ l.length then (l[i - 1]'(by omega)).f0 else -1) (l.drop i)) := by
  have fin : ∀ w : Int, Ev (fun k => tripartiteref04_Right.l0 k l (l.length : Int)) (rtB w (l.drop l.length)) := by
    intro w
    refine Ev.step (f := fun _ => some true) (fun k => ?_) (by rw [List.drop_length]; exact Ev.now _)
    simp only [tripartiteref04_Right.l0]; rw [if_neg (by omega)]
  intro d
  induction d with
  | zero => intro i h1 h2; obtain rfl : i = l.length := by omega
            exact fin _
  | succ d ih =>
    intro i h1 h2
    by_cases hi : i < l.length
    · have hlt : (i : Int) < (l.length : Int) := by omega
      have hnx := next64 (i := i) (by omega)
      have hE := ih (i + 1) (by omega) (by omega)
      rw [dif_pos ⟨by omega, by omega⟩] at hE
      simp only [Nat.add_sub_cancel] at hE
      rw [List.drop_eq_getElem_cons hi]
      have e := rdT144_nat l hi
      obtain ⟨w, hw⟩ : ∃ w, w = (if h : 0 < i ∧ i ≤ l.length then (l[i - 1]'(by omega)).f0 else -1) := ⟨_, rfl⟩
      rw [← hw]
      have hw0 : ¬ 0 < i → w = -1 := fun h => by rw [hw, dif_neg (fun h' => h h'.1)]
      have hwp : ∀ h : 0 < i, rd_T144 l (wrap64 ((i : Int) - 1)) = l[i - 1]'(by omega) ∧ w = (l[i - 1]'(by omega)).f0 ∧ 0 ≤ wrap64 ((i : Int) - 1) ∧ wrap64 ((i : Int) - 1) < (l.length : Int) := fun h => by
        have e1 : wrap64 ((i : Int) - 1) = ((i - 1 : Nat) : Int) := by rw [w64 (by omega) (by omega)]; omega
        rw [e1]
        refine ⟨rdT144_nat l (by omega), by rw [hw, dif_pos ⟨h, by omega⟩], by omega, by omega⟩
      generalize l[i] = x at *
      clear hw ih
      -- the second part
      have j1 : ∀ b : Bool, rtB w (x :: l.drop (i + 1)) = (!b && (!decide (x.f0 = w) && (!(decide (w = 2) && decide (x.f0 = 1)) && rtB x.f0 (l.drop (i + 1))))) → (b = false → 0 ≤ x.f0) → Ev (fun k => tripartiteref04_Right.j1 k l (i : Int) b) (rtB w (x :: l.drop (i + 1))) := by
        intro b hb hx0
        cases b
        · rw [hb]
          simp only [Bool.not_false, Bool.true_and]
          by_cases h0 : 0 < i
          · obtain ⟨p1, p2, p3, p4⟩ := hwp h0
            generalize (l[i - 1]'(by omega)) = y at *
            subst p2
            have hbase : ∀ k, tripartiteref04_Right.j1 (k + 1) l (i : Int) false = (if y.f0 = x.f0 then some false else if y.f0 = 2 then (if x.f0 = 1 then some false else tripartiteref04_Right.l0 k l ((i + 1 : Nat) : Int)) else tripartiteref04_Right.l0 k l ((i + 1 : Nat) : Int)) := fun k => by
              simp only [tripartiteref04_Right.j1]
              rw [if_neg (by decide), if_pos (by omega), if_pos p3, if_pos p4, if_pos (by omega), if_pos hlt, p1, e, hnx]
            by_cases c4 : x.f0 = y.f0
            · rw [decide_eq_true c4]
              refine Ev.step (f := fun _ => some false) (fun k => ?_) (by simpa using Ev.now false)
              rw [hbase, if_pos c4.symm]
            · by_cases c5 : y.f0 = 2
              · by_cases c6 : x.f0 = 1
                · rw [decide_eq_false c4, decide_eq_true c5, decide_eq_true c6]
                  refine Ev.step (f := fun _ => some false) (fun k => ?_) (by simpa using Ev.now false)
                  rw [hbase, if_neg (fun h => c4 h.symm), if_pos c5, if_pos c6]
                · rw [decide_eq_false c4, decide_eq_true c5, decide_eq_false c6]
                  simp only [Bool.not_false, Bool.not_true, Bool.true_and, Bool.and_true, Bool.and_false, Bool.false_and]
                  refine Ev.step (fun k => ?_) hE
                  rw [hbase, if_neg (fun h => c4 h.symm), if_pos c5, if_neg c6]
              · rw [decide_eq_false c4, decide_eq_false c5]
                simp only [Bool.not_false, Bool.not_true, Bool.true_and, Bool.and_true, Bool.and_false, Bool.false_and]
                refine Ev.step (fun k => ?_) hE
                rw [hbase, if_neg (fun h => c4 h.symm), if_neg c5]
          · obtain rfl := hw0 h0
            rw [decide_eq_false (show ¬ x.f0 = -1 by have := hx0 rfl; omega)]
            rw [decide_eq_false (show ¬ (-1 : Int) = 2 by decide)]
            simp only [Bool.not_false, Bool.not_true, Bool.true_and, Bool.and_true, Bool.and_false, Bool.false_and]
            refine Ev.step (fun k => ?_) hE
            simp only [tripartiteref04_Right.j1]
            rw [if_neg (by decide), if_neg (by omega), hnx]
        · rw [hb]
          refine Ev.step (f := fun _ => some false) (fun k => ?_) (by simpa using Ev.now false)
          simp only [tripartiteref04_Right.j1]
          rw [if_pos trivial]
      by_cases c1 : x.f0 < 0
      · refine Ev.step (fun k => ?_) (j1 true (by simp [rtB, show ¬ (0 ≤ x.f0) by omega]) (fun h => by cases h))
        simp only [tripartiteref04_Right.l0]; rw [if_pos hlt, if_pos (by omega), e, if_pos c1]
      by_cases c2 : x.f0 > 2
      · refine Ev.step (fun k => ?_) (j1 true (by simp [rtB, show ¬ (x.f0 ≤ 2) by omega]) (fun h => by cases h))
        simp only [tripartiteref04_Right.l0]; rw [if_pos hlt, if_pos (by omega), e, if_neg c1, if_pos c2]
      · refine Ev.step (fun k => ?_) (j1 ((x.f1.length : Int) == 0) ?_ (fun _ => by omega))
        · simp only [tripartiteref04_Right.l0]; rw [if_pos hlt, if_pos (by omega), e, if_neg c1, if_neg c2]
        · simp only [rtB]
          rw [decide_eq_true (show 0 ≤ x.f0 by omega), decide_eq_true (show x.f0 ≤ 2 by omega), show ((x.f1.length : Int) == 0) = decide (x.f1.length = 0) from by rw [Bool.eq_iff_iff]; simp]
          simp
    · obtain rfl : i = l.length := by omega
      exact fin _
theorem rright_ok (l : List S144) (hl : l.length ≤ 1000000) : Ev (fun k => tripartiteref04_Right.f k l) (rtB (-1) l) := by
  have := rright_go l hl l.length 0 (by omega) (by omega)
  rw [dif_neg (by omega)] at this
  exact this
def fewN (n : Int) (l : List S144) : Int := l.foldl (fun n x => wrap64 (n + (x.f1.length : Int))) n
theorem fewN_tot : ∀ (l : List S144) (n : Int), 0 ≤ n → n + (l.length : Int) * 1000000000000000 ≤ 9000000000000000000 → (∀ x ∈ l, x.f1.length ≤ 1000000000000000) → fewN n l = n + (tot l : Int)
  | [], n, _, _, _ => by simp [fewN, tot]
  | x :: l, n, h0, h1, h2 => by
    have hx := h2 x (by simp)
    simp only [List.length_cons] at h1
    have e : fewN n (x :: l) = fewN (wrap64 (n + (x.f1.length : Int))) l := rfl
    rw [e, w64 (by omega) (by omega), fewN_tot l _ (by omega) (by omega) (fun y hy => h2 y (by simp [hy])), tot_cons]
    omega
theorem few_ok (l : List S144) (hl : l.length ≤ 1000000000000000) (hs : ∀ x ∈ l, x.f1.length ≤ 1000000000000000) : Ev (fun k => tripartitelaw04_few.f k l) (decide (l.length ≤ 100 ∧ tot l ≤ 300)) := by
  have key : ∀ (d i : Nat) (n : Int), l.length - i ≤ d → i ≤ l.length → Ev (fun k => tripartitelaw04_few.l0 k l n (i : Int)) (if (l.length : Int) ≤ 100 then decide (fewN n (l.drop i) ≤ 300) else false) := by
    have fin : ∀ n : Int, Ev (fun k => tripartitelaw04_few.l0 k l n (l.length : Int)) (if (l.length : Int) ≤ 100 then decide (fewN n (l.drop l.length) ≤ 300) else false) := by
      intro n
      refine Ev.step (f := fun _ => some (if (l.length : Int) ≤ 100 then decide (n ≤ 300) else false)) (fun k => ?_) (by rw [List.drop_length]; exact Ev.now _)
      simp only [tripartitelaw04_few.l0]; rw [if_neg (by omega)]; split <;> rfl
    intro d
    induction d with
    | zero => intro i n h1 h2; obtain rfl : i = l.length := by omega
              exact fin n
    | succ d ih =>
      intro i n h1 h2
      by_cases hi : i < l.length
      · rw [List.drop_eq_getElem_cons hi]
        refine Ev.step (fun k => ?_) (ih (i + 1) (wrap64 (n + (l[i].f1.length : Int))) (by omega) (by omega))
        simp only [tripartitelaw04_few.l0]
        rw [if_pos (by omega), if_pos (by omega), rdT144_nat l hi, next64 (by omega)]
      · obtain rfl : i = l.length := by omega
        exact fin n
  have h := key l.length 0 0 (by omega) (by omega)
  rw [List.drop_zero] at h
  have e : (if (l.length : Int) ≤ 100 then decide (fewN 0 l ≤ 300) else false) = decide (l.length ≤ 100 ∧ tot l ≤ 300) := by
    by_cases c : l.length ≤ 100
    · rw [if_pos (by omega), fewN_tot l 0 (by omega) (by omega) hs, Bool.eq_iff_iff]
      simp only [decide_eq_true_eq]
      omega
    · rw [if_neg (by omega), decide_eq_false (fun h => c h.1)]
  rw [e] at h
  exact h
theorem rback_ok {l : List S144} (h : l.length ≤ 1000000) (hk : ∀ x ∈ l, okS x) : Ev (fun k => tripartiteref04_Back.f k l) (bk l) := by
  have key : ∀ (d i : Nat) (acc : List S144), l.length - i ≤ d → i ≤ l.length → acc.length = i → Ev (fun k => tripartiteref04_Back.l0 k l acc (i : Int)) (acc ++ bk (l.drop i)) := by
    have fin : ∀ acc : List S144, Ev (fun k => tripartiteref04_Back.l0 k l acc (l.length : Int)) (acc ++ bk (l.drop l.length)) := by
      intro acc
      refine Ev.step (f := fun _ => some acc) (fun k => ?_) (by rw [List.drop_length]; simp only [bk, List.append_nil]; exact Ev.now _)
      simp only [tripartiteref04_Back.l0]; rw [if_neg (by omega)]
    intro d
    induction d with
    | zero => intro i acc h1 h2 h3; obtain rfl : i = l.length := by omega
              exact fin acc
    | succ d ih =>
      intro i acc h1 h2 h3
      by_cases hi : i < l.length
      · have hx := hk _ (List.getElem_mem hi)
        have e := rdT144_nat l hi
        have hnx := next64 (i := i) (by omega)
        have hlt : (i : Int) < (l.length : Int) := by omega
        have h0i : (0 : Int) ≤ (i : Int) := by omega
        have hacc : acc.length < 4398046511104 := by omega
        -- one step turned by itself
        have rdk : rd [0, 2, 1] l[i].f0 = sw l[i].f0 ∧ 0 ≤ l[i].f0 ∧ l[i].f0 < (([0, 2, 1] : List Int).length : Int) := by
          rcases k3 hx with c | c | c <;> rw [c] <;> simp [rd, sw]
        have hE1 := ih (i + 1) (acc ++ [⟨sw l[i].f0, l[i].f1⟩]) (by omega) (by omega) (by simp [h3])
        by_cases c1 : l[i].f0 = 1
        · by_cases hn : i + 1 < l.length
          · have e2 : rd_T144 l ((i + 1 : Nat) : Int) = l[i + 1] := rdT144_nat l hn
            by_cases c2 : l[i + 1].f0 = 2
            · have hE2 := ih (i + 2) (acc ++ [⟨1, l[i + 1].f1⟩, ⟨2, l[i].f1⟩]) (by omega) (by omega) (by simp [h3])
              have hb : bk (l.drop i) = [⟨1, l[i + 1].f1⟩, ⟨2, l[i].f1⟩] ++ bk (l.drop (i + 2)) := by
                rw [List.drop_eq_getElem_cons hi, List.drop_eq_getElem_cons hn, bk, if_pos ⟨c1, c2⟩]; rfl
              rw [hb, ← List.append_assoc]
              refine Ev.step (fun k => ?_) hE2
              simp only [tripartiteref04_Back.l0]
              rw [if_pos hlt, if_pos h0i, e, if_pos c1, hnx, if_pos (by omega), if_pos (by omega), e2, if_pos c2, Option.bind_some, if_pos (by simp only [List.length_cons, List.length_nil]; omega), next64 (by omega)]
            · have hb : bk (l.drop i) = [⟨sw l[i].f0, l[i].f1⟩] ++ bk (l.drop (i + 1)) := by
                rw [List.drop_eq_getElem_cons hi, List.drop_eq_getElem_cons hn, bk, if_neg (fun h => c2 h.2)]; rfl
              rw [hb, ← List.append_assoc]
              refine Ev.step (fun k => ?_) hE1
              simp only [tripartiteref04_Back.l0]
              rw [if_pos hlt, if_pos h0i, e, if_pos c1, hnx, if_pos (by omega), if_pos (by omega), e2, if_neg c2, Option.bind_some, if_pos rdk.2.1, if_pos rdk.2.2, if_pos hacc, rdk.1]
          · have hb : bk (l.drop i) = [⟨sw l[i].f0, l[i].f1⟩] ++ bk (l.drop (i + 1)) := by
              rw [List.drop_eq_getElem_cons hi, List.drop_of_length_le (by omega)]; rfl
            rw [hb, ← List.append_assoc]
            refine Ev.step (fun k => ?_) hE1
            simp only [tripartiteref04_Back.l0]
            rw [if_pos hlt, if_pos h0i, e, if_pos c1, hnx, if_neg (by omega), Option.bind_some, if_pos rdk.2.1, if_pos rdk.2.2, if_pos hacc, rdk.1]
        · have hb : bk (l.drop i) = [⟨sw l[i].f0, l[i].f1⟩] ++ bk (l.drop (i + 1)) := by
            rw [List.drop_eq_getElem_cons hi]
            cases l.drop (i + 1) with
            | nil => rfl
            | cons y m => rw [bk, if_neg (fun h => c1 h.1)]; rfl
          rw [hb, ← List.append_assoc]
          refine Ev.step (fun k => ?_) hE1
          simp only [tripartiteref04_Back.l0]
          rw [if_pos hlt, if_pos h0i, e, if_neg c1, Option.bind_some, if_pos rdk.2.1, if_pos rdk.2.2, if_pos hacc, rdk.1, hnx]
      · obtain rfl : i = l.length := by omega
        exact fin acc
  have := key l.length 0 [] (by omega) (by omega) rfl
  exact this
theorem Rt.all : ∀ {l : List S144}, Rt l → ∀ x ∈ l, okS x
  | [], _, x, hx => by simp at hx
  | y :: l, h, x, hx => by
    obtain ⟨h1, h2⟩ := h.tail
    rcases List.mem_cons.1 hx with rfl | hx
    · exact h1
    · exact Rt.all h2 x hx
end Go.Proofs.Ytadafplbgophfaa.PA
end
section
/- The facts behind the statement EditApplies, about lists alone. -/
namespace Go.Proofs.Ytadafplbgophfaa.PA
set_option linter.unusedSimpArgs false
set_option linter.unusedVariables false
open Go.RowKit Go.Proofs.YtadafplbgophfaaW.PrintWords Go.Proofs.YtadafplbgophfaaW.PrintLast Go.Proofs.YtadafplbgophfaaW.PrintMore
open Jdg

theorem edit_told2 : ∃ k, tripartitelaw04_told.f k = some true := ⟨20, by decide +kernel⟩
/-- what is told of a script that may be: y is its way back -/
structure Good10 (l : List S144) (x y : List S143) (z : List S144) (s1 s2 : List ByteArray) : Prop where
  side1 : ∃ k, tripartiteref04_Side.f k l 1 = some s1
  side2 : ∃ k, tripartiteref04_Side.f k l 2 = some s2
  apply_ : ∃ k, edit_Apply.f k x s1 = some (s2, 0)
  applyNo : ∀ a, a.length ≤ 300 → a ≠ s1 → ∃ k, edit_Apply.f k x a = some ([], 12)
  sameA : ∃ k, tripartiteref01_Same.f k s1 s1 = some true
  sameNo : ∀ a, a.length ≤ 300 → a ≠ s1 → ∃ k, tripartiteref01_Same.f k a s1 = some false
  sameB : ∃ k, tripartiteref01_Same.f k s2 s2 = some true
  back : ∃ k, edit_Back.f k x = some y
  fromy : ∃ k, tripartitelaw04_From.f k y = some z
  rback : ∃ k, tripartiteref04_Back.f k l = some z
  samez : ∃ k, tripartiteref04_Same.f k z z = some true
  righty : ∃ k, edit_Right.f k y = some true
  backy : ∃ k, edit_Back.f k y = some x
  fromx : ∃ k, tripartitelaw04_From.f k x = some l
  samel : ∃ k, tripartiteref04_Same.f k l l = some true
structure Facts10 (l : List S144) (x : List S143) (b : Bool) : Prop where
  to_ : ∃ k, tripartitelaw04_To.f k l = some x
  right : ∃ k, edit_Right.f k x = some b
  rright : ∃ k, tripartiteref04_Right.f k l = some b
  good : b = true → ∃ y z s1 s2, Good10 l x y z s1 s2
theorem tot_bk : ∀ (n : Nat) (l : List S144), l.length ≤ n → tot (bk l) = tot l ∧ (bk l).length = l.length
  | _, [], _ => by simp [bk]
  | 0, x :: l, h => by simp at h
  | n + 1, [x], _ => by simp [bk, tot]
  | n + 1, x :: y :: l, h => by
    simp only [List.length_cons] at h
    rw [bk]
    split
    · obtain ⟨h1, h2⟩ := tot_bk n l (by omega)
      have e1 : tot (⟨1, y.f1⟩ :: ⟨2, x.f1⟩ :: bk l) = y.f1.length + (x.f1.length + tot (bk l)) := by rw [tot_cons, tot_cons]
      rw [e1, tot_cons, tot_cons, h1]
      simp only [List.length_cons, h2]
      exact ⟨by omega, trivial⟩
    · obtain ⟨h1, h2⟩ := tot_bk n (y :: l) (by simp only [List.length_cons]; omega)
      have e1 : tot (⟨sw x.f0, x.f1⟩ :: bk (y :: l)) = x.f1.length + tot (bk (y :: l)) := tot_cons _ _
      rw [e1, h1, tot_cons x]
      simp only [List.length_cons] at h2 ⊢
      exact ⟨trivial, by omega⟩
theorem facts10 (l : List S144) (h1 : l.length ≤ 100) (h2 : tot l ≤ 300) : ∃ x b, Facts10 l x b := by
  have hfew : Few l := ⟨by omega, by omega⟩
  refine ⟨l.map t144, rtB (-1) l, (to4_ok hfew).rounds, (eright_ok l (by omega)).rounds, (rright_ok l (by omega)).rounds, fun hb => ?_⟩
  have hr := (rtB_start l).1 hb
  obtain ⟨ht, hl⟩ := tot_bk l.length l (Nat.le_refl _)
  obtain ⟨hbb, hrb⟩ := bk_bk l.length l (Nat.le_refl _) hr
  have hfb : Few (bk l) := ⟨by omega, by omega⟩
  have hst1 := side_tot 1 l
  have hst2 := side_tot 2 l
  refine ⟨(bk l).map t144, bk l, side 1 l, side 2 l, (rside_ok hfew 1).rounds, (rside_ok hfew 2).rounds, ?_, fun a ha hne => ?_, ?_, fun a ha hne => ?_, ?_, ?_, (from4_ok hfb).rounds, (rback_ok (by omega) hr.all).rounds, (same4_ok hfb).rounds, ?_, ?_, (from4_ok hfew).rounds, (same4_ok hfew).rounds⟩
  · have h := apply_ok hfew (side 1 l)
    rw [if_pos rfl] at h
    exact h.rounds
  · have h := apply_ok hfew a
    rw [if_neg (fun e => hne e.symm)] at h
    exact h.rounds
  · have h := rsame_ok (side 1 l) (side 1 l) (by omega)
    rw [decide_eq_true rfl] at h
    exact h.rounds
  · have h := rsame_ok a (side 1 l) (by omega)
    rw [decide_eq_false hne] at h
    exact h.rounds
  · have h := rsame_ok (side 2 l) (side 2 l) (by omega)
    rw [decide_eq_true rfl] at h
    exact h.rounds
  · have h := eback_ok (l := l) (by omega)
    rw [back_bk hr] at h
    exact ⟨0, h⟩
  · have h := eright_ok (bk l) (by omega)
    rw [(rtB_start (bk l)).2 hrb] at h
    exact h.rounds
  · have h := eback_ok (l := bk l) (by omega)
    rw [back_bk hrb, hbb] at h
    exact ⟨0, h⟩
end Go.Proofs.Ytadafplbgophfaa.PA
end
section
/- The statement EditApplies, walked: at all scripts and lists it answers true. -/
namespace Go.Proofs.Ytadafplbgophfaa.PA
set_option linter.unusedSimpArgs false
set_option linter.unusedVariables false
open Go.RowKit Go.Proofs.YtadafplbgophfaaW.PrintWords Go.Proofs.YtadafplbgophfaaW.PrintLast Go.Proofs.YtadafplbgophfaaW.PrintMore

set_option maxHeartbeats 8000000 in
set_option maxRecDepth 100000 in
theorem EditApplies_walk (A0 : Option Addr) (c0 : Nat) (l : List S144) (A1 : Option Addr) (c1 : Nat) (a : List ByteArray) (own : Bool) (w : World) (hr0 : Kd.C k144 w A0 l.length l) (hc0 : l.length ≤ c0) (hr1 : Kd.C Kd.string w A1 a.length a) (hc1 : a.length ≤ c1)
    (hl : l.length ≤ 1000000000000000) (hs : ∀ x ∈ l, x.f1.length ≤ 1000000000000000) :
    Calls Try.prog 10 #[.slice A0 l.length c0, .slice A1 a.length c1, .bool own] w fun e w' => e = .returned (.bool true) ∧ Below w.heap.size w w' := by
  obtain ⟨kf, hfew⟩ := (few_ok l hl hs).rounds
  obtain ⟨kt, ht⟩ := edit_told2
  have FF := Aside0.mk hfew
  have FT := Aside0.mk ht
  have Hl := Aside0.mk hr0
  have Ha := Aside0.mk hr1
  have Ll := Aside0.mk hc0
  have La := Aside0.mk hc1
  have HB := Aside0.mk (Below.refl w.heap.size w)
  clear hr0 hc0 hr1 hc1 hl hfew ht hs
  by_cases hsm : l.length ≤ 100 ∧ tot l ≤ 300
  rotate_left
  · rw [decide_eq_false hsm] at FF
    clear hsm
    go_enter Try.func10, Try.ntmps10
    go_wp2_with fail
    refine (tripartitelaw04_few.calls kf A0 c0 l false _ Hl.out Ll.out FF.out).mono ?_
    rintro e W1 ⟨rfl, hD⟩
    have hB := Drawn0.below hD
    replace Hl := Aside0.mk (Kd.C_below Hl.out hB)
    replace Ha := Aside0.mk (Kd.C_below Ha.out hB)
    replace HB := Aside0.mk (below_step HB.out hB)
    clear hB hD
    go_wp2_with fail
    refine (tripartitelaw04_told.calls kt true _ FT.out).mono ?_
    rintro e W2 ⟨rfl, hB⟩
    replace Hl := Aside0.mk (Kd.C_below Hl.out hB)
    replace Ha := Aside0.mk (Kd.C_below Ha.out hB)
    replace HB := Aside0.mk (below_step HB.out hB)
    clear hB
    go_wp2_with fail
    go_ret
    exact ⟨rfl, HB.out⟩
  rw [decide_eq_true hsm] at FF
  by_cases hal : a.length ≤ 300
  rotate_left
  · have hgt : decide ((300 : Int) < (a.length : Int)) = true := decide_eq_true (by omega)
    clear hsm
    go_enter Try.func10, Try.ntmps10
    go_wp2_with fail
    refine (tripartitelaw04_few.calls kf A0 c0 l true _ Hl.out Ll.out FF.out).mono ?_
    rintro e W1 ⟨rfl, hD⟩
    have hB := Drawn0.below hD
    replace Hl := Aside0.mk (Kd.C_below Hl.out hB)
    replace Ha := Aside0.mk (Kd.C_below Ha.out hB)
    replace HB := Aside0.mk (below_step HB.out hB)
    clear hB hD
    go_wp2_with fail
    refine (tripartitelaw04_told.calls kt true _ FT.out).mono ?_
    rintro e W2 ⟨rfl, hB⟩
    replace Hl := Aside0.mk (Kd.C_below Hl.out hB)
    replace Ha := Aside0.mk (Kd.C_below Ha.out hB)
    replace HB := Aside0.mk (below_step HB.out hB)
    clear hB
    go_wp2_with fail
    go_ret
    exact ⟨rfl, HB.out⟩
  have hgt : decide ((300 : Int) < (a.length : Int)) = false := decide_eq_false (by omega)
  obtain ⟨x, b, ⟨k1, h1⟩, ⟨k2, h2⟩, ⟨k3, h3⟩, hgood⟩ := facts10 l hsm.1 hsm.2
  have F1 := Aside0.mk h1
  have F2 := Aside0.mk h2
  have F3 := Aside0.mk h3
  have FG := Aside0.mk hgood
  have HAL := Aside0.mk hal
  clear hsm h1 h2 h3 hgood hal
  cases b
  · go_enter Try.func10, Try.ntmps10
    go_wp2_with fail
    refine (tripartitelaw04_few.calls kf A0 c0 l true _ Hl.out Ll.out FF.out).mono ?_
    rintro e W1 ⟨rfl, hD⟩
    have hB := Drawn0.below hD
    replace Hl := Aside0.mk (Kd.C_below Hl.out hB)
    replace Ha := Aside0.mk (Kd.C_below Ha.out hB)
    replace HB := Aside0.mk (below_step HB.out hB)
    clear hB hD
    go_wp2_with fail
    refine (tripartitelaw04_To.calls k1 A0 c0 l x _ Hl.out Ll.out F1.out).mono ?_
    rintro e W2 ⟨v0_, rfl, hR, hB⟩
    replace Hl := Aside0.mk (Kd.C_below Hl.out hB)
    replace Ha := Aside0.mk (Kd.C_below Ha.out hB)
    replace HB := Aside0.mk (below_step HB.out hB)
    obtain ⟨Ax, cx, rfl, hcX, hCX⟩ := Kd.R_reads (Kd.S_R hR)
    have Hx := Aside0.mk hCX
    have Lx := Aside0.mk hcX
    clear hR hB hCX hcX
    go_wp2_with fail
    refine (tripartitelaw04_told.calls kt true _ FT.out).mono ?_
    rintro e W3 ⟨rfl, hB⟩
    replace Hl := Aside0.mk (Kd.C_below Hl.out hB)
    replace Ha := Aside0.mk (Kd.C_below Ha.out hB)
    replace Hx := Aside0.mk (Kd.C_below Hx.out hB)
    replace HB := Aside0.mk (below_step HB.out hB)
    clear hB
    go_wp2_with fail
    refine (edit_Right.calls k2 Ax cx x false _ Hx.out Lx.out F2.out).mono ?_
    rintro e W4 ⟨rfl, hB⟩
    replace Hl := Aside0.mk (Kd.C_below Hl.out hB)
    replace Ha := Aside0.mk (Kd.C_below Ha.out hB)
    replace Hx := Aside0.mk (Kd.C_below Hx.out hB)
    replace HB := Aside0.mk (below_step HB.out hB)
    clear hB
    go_wp2_with fail
    refine (tripartiteref04_Right.calls k3 A0 c0 l false _ Hl.out Ll.out F3.out).mono ?_
    rintro e W5 ⟨rfl, hD⟩
    have hB := Drawn0.below hD
    replace Hl := Aside0.mk (Kd.C_below Hl.out hB)
    replace Ha := Aside0.mk (Kd.C_below Ha.out hB)
    replace Hx := Aside0.mk (Kd.C_below Hx.out hB)
    replace HB := Aside0.mk (below_step HB.out hB)
    clear hB hD
    go_wp2_with fail
    refine (tripartiteref04_Right.calls k3 A0 c0 l false _ Hl.out Ll.out F3.out).mono ?_
    rintro e W6 ⟨rfl, hD⟩
    have hB := Drawn0.below hD
    replace Hl := Aside0.mk (Kd.C_below Hl.out hB)
    replace Ha := Aside0.mk (Kd.C_below Ha.out hB)
    replace Hx := Aside0.mk (Kd.C_below Hx.out hB)
    replace HB := Aside0.mk (below_step HB.out hB)
    clear hB hD
    go_wp2_with fail
    go_ret
    exact ⟨rfl, HB.out⟩
  · obtain ⟨y, z, s1, s2, ⟨k4, h4⟩, ⟨k5, h5⟩, ⟨k6, h6⟩, h7, ⟨k8, h8⟩, h9, ⟨k10, h10⟩, ⟨k11, h11⟩, ⟨k12, h12⟩, ⟨k13, h13⟩, ⟨k14, h14⟩, ⟨k15, h15⟩, ⟨k16, h16⟩, ⟨k17, h17⟩, ⟨k18, h18⟩⟩ := FG.out rfl
    have G4 := Aside0.mk h4
    have G5 := Aside0.mk h5
    have G6 := Aside0.mk h6
    have G7 := Aside0.mk h7
    have G8 := Aside0.mk h8
    have G9 := Aside0.mk h9
    have G10 := Aside0.mk h10
    have G11 := Aside0.mk h11
    have G12 := Aside0.mk h12
    have G13 := Aside0.mk h13
    have G14 := Aside0.mk h14
    have G15 := Aside0.mk h15
    have G16 := Aside0.mk h16
    have G17 := Aside0.mk h17
    have G18 := Aside0.mk h18
    clear h4 h5 h6 h7 h8 h9 h10 h11 h12 h13 h14 h15 h16 h17 h18
    cases own
    rotate_left
    · go_enter Try.func10, Try.ntmps10
      go_wp2_with fail
      refine (tripartitelaw04_few.calls kf A0 c0 l true _ Hl.out Ll.out FF.out).mono ?_
      rintro e W1 ⟨rfl, hD⟩
      have hB := Drawn0.below hD
      replace Hl := Aside0.mk (Kd.C_below Hl.out hB)
      replace Ha := Aside0.mk (Kd.C_below Ha.out hB)
      replace HB := Aside0.mk (below_step HB.out hB)
      clear hB hD
      go_wp2_with fail
      refine (tripartitelaw04_To.calls k1 A0 c0 l x _ Hl.out Ll.out F1.out).mono ?_
      rintro e W2 ⟨v0_, rfl, hR, hB⟩
      replace Hl := Aside0.mk (Kd.C_below Hl.out hB)
      replace Ha := Aside0.mk (Kd.C_below Ha.out hB)
      replace HB := Aside0.mk (below_step HB.out hB)
      obtain ⟨Ax, cx, rfl, hcX, hCX⟩ := Kd.R_reads (Kd.S_R hR)
      have Hx := Aside0.mk hCX
      have Lx := Aside0.mk hcX
      clear hR hB hCX hcX
      go_wp2_with fail
      refine (tripartitelaw04_told.calls kt true _ FT.out).mono ?_
      rintro e W3 ⟨rfl, hB⟩
      replace Hl := Aside0.mk (Kd.C_below Hl.out hB)
      replace Ha := Aside0.mk (Kd.C_below Ha.out hB)
      replace Hx := Aside0.mk (Kd.C_below Hx.out hB)
      replace HB := Aside0.mk (below_step HB.out hB)
      clear hB
      go_wp2_with fail
      refine (edit_Right.calls k2 Ax cx x true _ Hx.out Lx.out F2.out).mono ?_
      rintro e W4 ⟨rfl, hB⟩
      replace Hl := Aside0.mk (Kd.C_below Hl.out hB)
      replace Ha := Aside0.mk (Kd.C_below Ha.out hB)
      replace Hx := Aside0.mk (Kd.C_below Hx.out hB)
      replace HB := Aside0.mk (below_step HB.out hB)
      clear hB
      go_wp2_with fail
      refine (tripartiteref04_Right.calls k3 A0 c0 l true _ Hl.out Ll.out F3.out).mono ?_
      rintro e W5 ⟨rfl, hD⟩
      have hB := Drawn0.below hD
      replace Hl := Aside0.mk (Kd.C_below Hl.out hB)
      replace Ha := Aside0.mk (Kd.C_below Ha.out hB)
      replace Hx := Aside0.mk (Kd.C_below Hx.out hB)
      replace HB := Aside0.mk (below_step HB.out hB)
      clear hB hD
      go_wp2_with fail
      refine (tripartiteref04_Right.calls k3 A0 c0 l true _ Hl.out Ll.out F3.out).mono ?_
      rintro e W6 ⟨rfl, hD⟩
      have hB := Drawn0.below hD
      replace Hl := Aside0.mk (Kd.C_below Hl.out hB)
      replace Ha := Aside0.mk (Kd.C_below Ha.out hB)
      replace Hx := Aside0.mk (Kd.C_below Hx.out hB)
      replace HB := Aside0.mk (below_step HB.out hB)
      clear hB hD
      go_wp2_with fail
      refine (tripartiteref04_Side.calls k4 A0 c0 l 1 _ _ Hl.out Ll.out G4.out).mono ?_
      rintro e W7 ⟨v0_, rfl, hR, hB⟩
      replace Hl := Aside0.mk (Kd.C_below Hl.out hB)
      replace Ha := Aside0.mk (Kd.C_below Ha.out hB)
      replace Hx := Aside0.mk (Kd.C_below Hx.out hB)
      replace HB := Aside0.mk (below_step HB.out hB)
      obtain ⟨As, cs, rfl, hcX, hCX⟩ := Kd.R_reads hR
      have Hs := Aside0.mk hCX
      have Ls := Aside0.mk hcX
      clear hR hB hCX hcX
      go_wp2_with fail
      refine (edit_Apply.calls k6 Ax cx x As cs s1 s2 0 _ Hx.out Lx.out Hs.out Ls.out G6.out).mono ?_
      rintro e W8 ⟨v0_, rfl, hR, hB⟩
      replace Hl := Aside0.mk (Kd.C_below Hl.out hB)
      replace Ha := Aside0.mk (Kd.C_below Ha.out hB)
      replace Hx := Aside0.mk (Kd.C_below Hx.out hB)
      replace Hs := Aside0.mk (Kd.C_below Hs.out hB)
      replace HB := Aside0.mk (below_step HB.out hB)
      obtain ⟨Ab, cb, rfl, hcX, hCX⟩ := Kd.R_reads hR
      have Hb := Aside0.mk hCX
      have Lb := Aside0.mk hcX
      clear hR hB hCX hcX
      go_wp2_with fail
      refine (tripartiteref04_Side.calls k4 A0 c0 l 1 _ _ Hl.out Ll.out G4.out).mono ?_
      rintro e W9 ⟨v0_, rfl, hR, hB⟩
      replace Hl := Aside0.mk (Kd.C_below Hl.out hB)
      replace Ha := Aside0.mk (Kd.C_below Ha.out hB)
      replace Hx := Aside0.mk (Kd.C_below Hx.out hB)
      replace Hs := Aside0.mk (Kd.C_below Hs.out hB)
      replace Hb := Aside0.mk (Kd.C_below Hb.out hB)
      replace HB := Aside0.mk (below_step HB.out hB)
      obtain ⟨Ap, cp, rfl, hcX, hCX⟩ := Kd.R_reads hR
      have Hp := Aside0.mk hCX
      have Lp := Aside0.mk hcX
      clear hR hB hCX hcX
      go_wp2_with fail
      refine (tripartiteref01_Same.calls k8 As cs s1 Ap cp _ true _ Hs.out Ls.out Hp.out Lp.out G8.out).mono ?_
      rintro e W10 ⟨rfl, hD⟩
      have hB := Drawn0.below hD
      replace Hl := Aside0.mk (Kd.C_below Hl.out hB)
      replace Ha := Aside0.mk (Kd.C_below Ha.out hB)
      replace Hx := Aside0.mk (Kd.C_below Hx.out hB)
      replace Hs := Aside0.mk (Kd.C_below Hs.out hB)
      replace Hb := Aside0.mk (Kd.C_below Hb.out hB)
      replace Hp := Aside0.mk (Kd.C_below Hp.out hB)
      replace HB := Aside0.mk (below_step HB.out hB)
      clear hB hD
      go_wp2_with fail
      refine (tripartiteref04_Side.calls k5 A0 c0 l 2 s2 _ Hl.out Ll.out G5.out).mono ?_
      rintro e W11 ⟨v0_, rfl, hR, hB⟩
      replace Hl := Aside0.mk (Kd.C_below Hl.out hB)
      replace Ha := Aside0.mk (Kd.C_below Ha.out hB)
      replace Hx := Aside0.mk (Kd.C_below Hx.out hB)
      replace Hs := Aside0.mk (Kd.C_below Hs.out hB)
      replace Hb := Aside0.mk (Kd.C_below Hb.out hB)
      replace Hp := Aside0.mk (Kd.C_below Hp.out hB)
      replace HB := Aside0.mk (below_step HB.out hB)
      obtain ⟨Aq, cq, rfl, hcX, hCX⟩ := Kd.R_reads hR
      have Hq := Aside0.mk hCX
      have Lq := Aside0.mk hcX
      clear hR hB hCX hcX
      go_wp2_with fail
      refine (tripartiteref01_Same.calls k10 Ab cb s2 Aq cq s2 true _ Hb.out Lb.out Hq.out Lq.out G10.out).mono ?_
      rintro e W12 ⟨rfl, hD⟩
      have hB := Drawn0.below hD
      replace Hl := Aside0.mk (Kd.C_below Hl.out hB)
      replace Ha := Aside0.mk (Kd.C_below Ha.out hB)
      replace Hx := Aside0.mk (Kd.C_below Hx.out hB)
      replace Hs := Aside0.mk (Kd.C_below Hs.out hB)
      replace Hb := Aside0.mk (Kd.C_below Hb.out hB)
      replace Hp := Aside0.mk (Kd.C_below Hp.out hB)
      replace Hq := Aside0.mk (Kd.C_below Hq.out hB)
      replace HB := Aside0.mk (below_step HB.out hB)
      clear hB hD
      go_wp2_with fail
      refine (edit_Back.calls k11 Ax cx x y _ Hx.out Lx.out G11.out).mono ?_
      rintro e W13 ⟨v0_, rfl, hR, hB⟩
      replace Hl := Aside0.mk (Kd.C_below Hl.out hB)
      replace Ha := Aside0.mk (Kd.C_below Ha.out hB)
      replace Hx := Aside0.mk (Kd.C_below Hx.out hB)
      replace Hs := Aside0.mk (Kd.C_below Hs.out hB)
      replace Hb := Aside0.mk (Kd.C_below Hb.out hB)
      replace Hp := Aside0.mk (Kd.C_below Hp.out hB)
      replace Hq := Aside0.mk (Kd.C_below Hq.out hB)
      replace HB := Aside0.mk (below_step HB.out hB)
      obtain ⟨Ay, cy, rfl, hcX, hCX⟩ := Kd.R_reads (Kd.S_R hR)
      have Hy := Aside0.mk hCX
      have Ly := Aside0.mk hcX
      clear hR hB hCX hcX
      go_wp2_with fail
      refine (tripartitelaw04_From.calls k12 Ay cy y z _ Hy.out Ly.out G12.out).mono ?_
      rintro e W14 ⟨v0_, rfl, hR, hB⟩
      replace Hl := Aside0.mk (Kd.C_below Hl.out hB)
      replace Ha := Aside0.mk (Kd.C_below Ha.out hB)
      replace Hx := Aside0.mk (Kd.C_below Hx.out hB)
      replace Hs := Aside0.mk (Kd.C_below Hs.out hB)
      replace Hb := Aside0.mk (Kd.C_below Hb.out hB)
      replace Hp := Aside0.mk (Kd.C_below Hp.out hB)
      replace Hq := Aside0.mk (Kd.C_below Hq.out hB)
      replace Hy := Aside0.mk (Kd.C_below Hy.out hB)
      replace HB := Aside0.mk (below_step HB.out hB)
      obtain ⟨Af, cf, rfl, hcX, hCX⟩ := Kd.R_reads (Kd.S_R hR)
      have Hf := Aside0.mk hCX
      have Lf := Aside0.mk hcX
      clear hR hB hCX hcX
      go_wp2_with fail
      refine (tripartiteref04_Back.calls k13 (fun k => k < _) A0 c0 l z _ ⟨A0, c0, rfl, Ll.out, Kd.C_F k144_heap Hl.out⟩ G13.out).mono ?_
      rintro e W15 ⟨v0_, rfl, hR, hB⟩
      replace Hl := Aside0.mk (Kd.C_below Hl.out hB)
      replace Ha := Aside0.mk (Kd.C_below Ha.out hB)
      replace Hx := Aside0.mk (Kd.C_below Hx.out hB)
      replace Hs := Aside0.mk (Kd.C_below Hs.out hB)
      replace Hb := Aside0.mk (Kd.C_below Hb.out hB)
      replace Hp := Aside0.mk (Kd.C_below Hp.out hB)
      replace Hq := Aside0.mk (Kd.C_below Hq.out hB)
      replace Hy := Aside0.mk (Kd.C_below Hy.out hB)
      replace Hf := Aside0.mk (Kd.C_below Hf.out hB)
      replace HB := Aside0.mk (below_step HB.out hB)
      obtain ⟨Ag, cg, rfl, hcX, hCX⟩ := Kd.N_reads hR
      have Hg := Aside0.mk hCX
      have Lg := Aside0.mk hcX
      clear hR hB hCX hcX
      go_wp2_with fail
      refine (tripartiteref04_Same.calls k14 Af cf z Ag cg z true _ Hf.out Lf.out Hg.out Lg.out G14.out).mono ?_
      rintro e W16 ⟨rfl, hD⟩
      have hB := Drawn0.below hD
      replace Hl := Aside0.mk (Kd.C_below Hl.out hB)
      replace Ha := Aside0.mk (Kd.C_below Ha.out hB)
      replace Hx := Aside0.mk (Kd.C_below Hx.out hB)
      replace Hs := Aside0.mk (Kd.C_below Hs.out hB)
      replace Hb := Aside0.mk (Kd.C_below Hb.out hB)
      replace Hp := Aside0.mk (Kd.C_below Hp.out hB)
      replace Hq := Aside0.mk (Kd.C_below Hq.out hB)
      replace Hy := Aside0.mk (Kd.C_below Hy.out hB)
      replace Hf := Aside0.mk (Kd.C_below Hf.out hB)
      replace Hg := Aside0.mk (Kd.C_below Hg.out hB)
      replace HB := Aside0.mk (below_step HB.out hB)
      clear hB hD
      go_wp2_with fail
      refine (edit_Right.calls k15 Ay cy y true _ Hy.out Ly.out G15.out).mono ?_
      rintro e W17 ⟨rfl, hB⟩
      replace Hl := Aside0.mk (Kd.C_below Hl.out hB)
      replace Ha := Aside0.mk (Kd.C_below Ha.out hB)
      replace Hx := Aside0.mk (Kd.C_below Hx.out hB)
      replace Hs := Aside0.mk (Kd.C_below Hs.out hB)
      replace Hb := Aside0.mk (Kd.C_below Hb.out hB)
      replace Hp := Aside0.mk (Kd.C_below Hp.out hB)
      replace Hq := Aside0.mk (Kd.C_below Hq.out hB)
      replace Hy := Aside0.mk (Kd.C_below Hy.out hB)
      replace Hf := Aside0.mk (Kd.C_below Hf.out hB)
      replace Hg := Aside0.mk (Kd.C_below Hg.out hB)
      replace HB := Aside0.mk (below_step HB.out hB)
      clear hB
      go_wp2_with fail
      refine (edit_Back.calls k16 Ay cy y x _ Hy.out Ly.out G16.out).mono ?_
      rintro e W18 ⟨v0_, rfl, hR, hB⟩
      replace Hl := Aside0.mk (Kd.C_below Hl.out hB)
      replace Ha := Aside0.mk (Kd.C_below Ha.out hB)
      replace Hx := Aside0.mk (Kd.C_below Hx.out hB)
      replace Hs := Aside0.mk (Kd.C_below Hs.out hB)
      replace Hb := Aside0.mk (Kd.C_below Hb.out hB)
      replace Hp := Aside0.mk (Kd.C_below Hp.out hB)
      replace Hq := Aside0.mk (Kd.C_below Hq.out hB)
      replace Hy := Aside0.mk (Kd.C_below Hy.out hB)
      replace Hf := Aside0.mk (Kd.C_below Hf.out hB)
      replace Hg := Aside0.mk (Kd.C_below Hg.out hB)
      replace HB := Aside0.mk (below_step HB.out hB)
      obtain ⟨Ah, ch, rfl, hcX, hCX⟩ := Kd.R_reads (Kd.S_R hR)
      have Hh := Aside0.mk hCX
      have Lh := Aside0.mk hcX
      clear hR hB hCX hcX
      go_wp2_with fail
      refine (tripartitelaw04_From.calls k17 Ah ch x l _ Hh.out Lh.out G17.out).mono ?_
      rintro e W19 ⟨v0_, rfl, hR, hB⟩
      replace Hl := Aside0.mk (Kd.C_below Hl.out hB)
      replace Ha := Aside0.mk (Kd.C_below Ha.out hB)
      replace Hx := Aside0.mk (Kd.C_below Hx.out hB)
      replace Hs := Aside0.mk (Kd.C_below Hs.out hB)
      replace Hb := Aside0.mk (Kd.C_below Hb.out hB)
      replace Hp := Aside0.mk (Kd.C_below Hp.out hB)
      replace Hq := Aside0.mk (Kd.C_below Hq.out hB)
      replace Hy := Aside0.mk (Kd.C_below Hy.out hB)
      replace Hf := Aside0.mk (Kd.C_below Hf.out hB)
      replace Hg := Aside0.mk (Kd.C_below Hg.out hB)
      replace Hh := Aside0.mk (Kd.C_below Hh.out hB)
      replace HB := Aside0.mk (below_step HB.out hB)
      obtain ⟨Ai, ci, rfl, hcX, hCX⟩ := Kd.R_reads (Kd.S_R hR)
      have Hi := Aside0.mk hCX
      have Li := Aside0.mk hcX
      clear hR hB hCX hcX
      go_wp2_with fail
      refine (tripartiteref04_Same.calls k18 Ai ci l A0 c0 l true _ Hi.out Li.out Hl.out Ll.out G18.out).mono ?_
      rintro e W20 ⟨rfl, hD⟩
      have hB := Drawn0.below hD
      replace Hl := Aside0.mk (Kd.C_below Hl.out hB)
      replace Ha := Aside0.mk (Kd.C_below Ha.out hB)
      replace Hx := Aside0.mk (Kd.C_below Hx.out hB)
      replace Hs := Aside0.mk (Kd.C_below Hs.out hB)
      replace Hb := Aside0.mk (Kd.C_below Hb.out hB)
      replace Hp := Aside0.mk (Kd.C_below Hp.out hB)
      replace Hq := Aside0.mk (Kd.C_below Hq.out hB)
      replace Hy := Aside0.mk (Kd.C_below Hy.out hB)
      replace Hf := Aside0.mk (Kd.C_below Hf.out hB)
      replace Hg := Aside0.mk (Kd.C_below Hg.out hB)
      replace Hh := Aside0.mk (Kd.C_below Hh.out hB)
      replace Hi := Aside0.mk (Kd.C_below Hi.out hB)
      replace HB := Aside0.mk (below_step HB.out hB)
      clear hB hD
      go_wp2_with fail
      refine (tripartitelaw04_From.calls k17 Ax cx x l _ Hx.out Lx.out G17.out).mono ?_
      rintro e W21 ⟨v0_, rfl, hR, hB⟩
      replace Hl := Aside0.mk (Kd.C_below Hl.out hB)
      replace Ha := Aside0.mk (Kd.C_below Ha.out hB)
      replace Hx := Aside0.mk (Kd.C_below Hx.out hB)
      replace Hs := Aside0.mk (Kd.C_below Hs.out hB)
      replace Hb := Aside0.mk (Kd.C_below Hb.out hB)
      replace Hp := Aside0.mk (Kd.C_below Hp.out hB)
      replace Hq := Aside0.mk (Kd.C_below Hq.out hB)
      replace Hy := Aside0.mk (Kd.C_below Hy.out hB)
      replace Hf := Aside0.mk (Kd.C_below Hf.out hB)
      replace Hg := Aside0.mk (Kd.C_below Hg.out hB)
      replace Hh := Aside0.mk (Kd.C_below Hh.out hB)
      replace Hi := Aside0.mk (Kd.C_below Hi.out hB)
      replace HB := Aside0.mk (below_step HB.out hB)
      obtain ⟨Aj, cj, rfl, hcX, hCX⟩ := Kd.R_reads (Kd.S_R hR)
      have Hj := Aside0.mk hCX
      have Lj := Aside0.mk hcX
      clear hR hB hCX hcX
      go_wp2_with fail
      refine (tripartiteref04_Same.calls k18 Aj cj l A0 c0 l true _ Hj.out Lj.out Hl.out Ll.out G18.out).mono ?_
      rintro e W22 ⟨rfl, hD⟩
      have hB := Drawn0.below hD
      replace Hl := Aside0.mk (Kd.C_below Hl.out hB)
      replace Ha := Aside0.mk (Kd.C_below Ha.out hB)
      replace Hx := Aside0.mk (Kd.C_below Hx.out hB)
      replace Hs := Aside0.mk (Kd.C_below Hs.out hB)
      replace Hb := Aside0.mk (Kd.C_below Hb.out hB)
      replace Hp := Aside0.mk (Kd.C_below Hp.out hB)
      replace Hq := Aside0.mk (Kd.C_below Hq.out hB)
      replace Hy := Aside0.mk (Kd.C_below Hy.out hB)
      replace Hf := Aside0.mk (Kd.C_below Hf.out hB)
      replace Hg := Aside0.mk (Kd.C_below Hg.out hB)
      replace Hh := Aside0.mk (Kd.C_below Hh.out hB)
      replace Hi := Aside0.mk (Kd.C_below Hi.out hB)
      replace Hj := Aside0.mk (Kd.C_below Hj.out hB)
      replace HB := Aside0.mk (below_step HB.out hB)
      clear hB hD
      go_wp2_with fail
      go_ret
      exact ⟨rfl, HB.out⟩
    · by_cases hfit : a = s1
      · subst hfit
        go_enter Try.func10, Try.ntmps10
        go_wp2_with fail
        refine (tripartitelaw04_few.calls kf A0 c0 l true _ Hl.out Ll.out FF.out).mono ?_
        rintro e W1 ⟨rfl, hD⟩
        have hB := Drawn0.below hD
        replace Hl := Aside0.mk (Kd.C_below Hl.out hB)
        replace Ha := Aside0.mk (Kd.C_below Ha.out hB)
        replace HB := Aside0.mk (below_step HB.out hB)
        clear hB hD
        go_wp2_with fail
        refine (tripartitelaw04_To.calls k1 A0 c0 l x _ Hl.out Ll.out F1.out).mono ?_
        rintro e W2 ⟨v0_, rfl, hR, hB⟩
        replace Hl := Aside0.mk (Kd.C_below Hl.out hB)
        replace Ha := Aside0.mk (Kd.C_below Ha.out hB)
        replace HB := Aside0.mk (below_step HB.out hB)
        obtain ⟨Ax, cx, rfl, hcX, hCX⟩ := Kd.R_reads (Kd.S_R hR)
        have Hx := Aside0.mk hCX
        have Lx := Aside0.mk hcX
        clear hR hB hCX hcX
        go_wp2_with fail
        refine (tripartitelaw04_told.calls kt true _ FT.out).mono ?_
        rintro e W3 ⟨rfl, hB⟩
        replace Hl := Aside0.mk (Kd.C_below Hl.out hB)
        replace Ha := Aside0.mk (Kd.C_below Ha.out hB)
        replace Hx := Aside0.mk (Kd.C_below Hx.out hB)
        replace HB := Aside0.mk (below_step HB.out hB)
        clear hB
        go_wp2_with fail
        refine (edit_Right.calls k2 Ax cx x true _ Hx.out Lx.out F2.out).mono ?_
        rintro e W4 ⟨rfl, hB⟩
        replace Hl := Aside0.mk (Kd.C_below Hl.out hB)
        replace Ha := Aside0.mk (Kd.C_below Ha.out hB)
        replace Hx := Aside0.mk (Kd.C_below Hx.out hB)
        replace HB := Aside0.mk (below_step HB.out hB)
        clear hB
        go_wp2_with fail
        refine (tripartiteref04_Right.calls k3 A0 c0 l true _ Hl.out Ll.out F3.out).mono ?_
        rintro e W5 ⟨rfl, hD⟩
        have hB := Drawn0.below hD
        replace Hl := Aside0.mk (Kd.C_below Hl.out hB)
        replace Ha := Aside0.mk (Kd.C_below Ha.out hB)
        replace Hx := Aside0.mk (Kd.C_below Hx.out hB)
        replace HB := Aside0.mk (below_step HB.out hB)
        clear hB hD
        go_wp2_with fail
        refine (tripartiteref04_Right.calls k3 A0 c0 l true _ Hl.out Ll.out F3.out).mono ?_
        rintro e W6 ⟨rfl, hD⟩
        have hB := Drawn0.below hD
        replace Hl := Aside0.mk (Kd.C_below Hl.out hB)
        replace Ha := Aside0.mk (Kd.C_below Ha.out hB)
        replace Hx := Aside0.mk (Kd.C_below Hx.out hB)
        replace HB := Aside0.mk (below_step HB.out hB)
        clear hB hD
        go_wp2_with fail
        refine (edit_Apply.calls k6 Ax cx x A1 c1 _ s2 0 _ Hx.out Lx.out Ha.out La.out G6.out).mono ?_
        rintro e W7 ⟨v0_, rfl, hR, hB⟩
        replace Hl := Aside0.mk (Kd.C_below Hl.out hB)
        replace Ha := Aside0.mk (Kd.C_below Ha.out hB)
        replace Hx := Aside0.mk (Kd.C_below Hx.out hB)
        replace HB := Aside0.mk (below_step HB.out hB)
        obtain ⟨Ab, cb, rfl, hcX, hCX⟩ := Kd.R_reads hR
        have Hb := Aside0.mk hCX
        have Lb := Aside0.mk hcX
        clear hR hB hCX hcX
        go_wp2_with fail
        refine (tripartiteref04_Side.calls k4 A0 c0 l 1 _ _ Hl.out Ll.out G4.out).mono ?_
        rintro e W8 ⟨v0_, rfl, hR, hB⟩
        replace Hl := Aside0.mk (Kd.C_below Hl.out hB)
        replace Ha := Aside0.mk (Kd.C_below Ha.out hB)
        replace Hx := Aside0.mk (Kd.C_below Hx.out hB)
        replace Hb := Aside0.mk (Kd.C_below Hb.out hB)
        replace HB := Aside0.mk (below_step HB.out hB)
        obtain ⟨Ap, cp, rfl, hcX, hCX⟩ := Kd.R_reads hR
        have Hp := Aside0.mk hCX
        have Lp := Aside0.mk hcX
        clear hR hB hCX hcX
        go_wp2_with fail
        refine (tripartiteref01_Same.calls k8 A1 c1 _ Ap cp _ true _ Ha.out La.out Hp.out Lp.out G8.out).mono ?_
        rintro e W9 ⟨rfl, hD⟩
        have hB := Drawn0.below hD
        replace Hl := Aside0.mk (Kd.C_below Hl.out hB)
        replace Ha := Aside0.mk (Kd.C_below Ha.out hB)
        replace Hx := Aside0.mk (Kd.C_below Hx.out hB)
        replace Hb := Aside0.mk (Kd.C_below Hb.out hB)
        replace Hp := Aside0.mk (Kd.C_below Hp.out hB)
        replace HB := Aside0.mk (below_step HB.out hB)
        clear hB hD
        go_wp2_with fail
        refine (tripartiteref04_Side.calls k5 A0 c0 l 2 s2 _ Hl.out Ll.out G5.out).mono ?_
        rintro e W10 ⟨v0_, rfl, hR, hB⟩
        replace Hl := Aside0.mk (Kd.C_below Hl.out hB)
        replace Ha := Aside0.mk (Kd.C_below Ha.out hB)
        replace Hx := Aside0.mk (Kd.C_below Hx.out hB)
        replace Hb := Aside0.mk (Kd.C_below Hb.out hB)
        replace Hp := Aside0.mk (Kd.C_below Hp.out hB)
        replace HB := Aside0.mk (below_step HB.out hB)
        obtain ⟨Aq, cq, rfl, hcX, hCX⟩ := Kd.R_reads hR
        have Hq := Aside0.mk hCX
        have Lq := Aside0.mk hcX
        clear hR hB hCX hcX
        go_wp2_with fail
        refine (tripartiteref01_Same.calls k10 Ab cb s2 Aq cq s2 true _ Hb.out Lb.out Hq.out Lq.out G10.out).mono ?_
        rintro e W11 ⟨rfl, hD⟩
        have hB := Drawn0.below hD
        replace Hl := Aside0.mk (Kd.C_below Hl.out hB)
        replace Ha := Aside0.mk (Kd.C_below Ha.out hB)
        replace Hx := Aside0.mk (Kd.C_below Hx.out hB)
        replace Hb := Aside0.mk (Kd.C_below Hb.out hB)
        replace Hp := Aside0.mk (Kd.C_below Hp.out hB)
        replace Hq := Aside0.mk (Kd.C_below Hq.out hB)
        replace HB := Aside0.mk (below_step HB.out hB)
        clear hB hD
        go_wp2_with fail
        refine (edit_Back.calls k11 Ax cx x y _ Hx.out Lx.out G11.out).mono ?_
        rintro e W12 ⟨v0_, rfl, hR, hB⟩
        replace Hl := Aside0.mk (Kd.C_below Hl.out hB)
        replace Ha := Aside0.mk (Kd.C_below Ha.out hB)
        replace Hx := Aside0.mk (Kd.C_below Hx.out hB)
        replace Hb := Aside0.mk (Kd.C_below Hb.out hB)
        replace Hp := Aside0.mk (Kd.C_below Hp.out hB)
        replace Hq := Aside0.mk (Kd.C_below Hq.out hB)
        replace HB := Aside0.mk (below_step HB.out hB)
        obtain ⟨Ay, cy, rfl, hcX, hCX⟩ := Kd.R_reads (Kd.S_R hR)
        have Hy := Aside0.mk hCX
        have Ly := Aside0.mk hcX
        clear hR hB hCX hcX
        go_wp2_with fail
        refine (tripartitelaw04_From.calls k12 Ay cy y z _ Hy.out Ly.out G12.out).mono ?_
        rintro e W13 ⟨v0_, rfl, hR, hB⟩
        replace Hl := Aside0.mk (Kd.C_below Hl.out hB)
        replace Ha := Aside0.mk (Kd.C_below Ha.out hB)
        replace Hx := Aside0.mk (Kd.C_below Hx.out hB)
        replace Hb := Aside0.mk (Kd.C_below Hb.out hB)
        replace Hp := Aside0.mk (Kd.C_below Hp.out hB)
        replace Hq := Aside0.mk (Kd.C_below Hq.out hB)
        replace Hy := Aside0.mk (Kd.C_below Hy.out hB)
        replace HB := Aside0.mk (below_step HB.out hB)
        obtain ⟨Af, cf, rfl, hcX, hCX⟩ := Kd.R_reads (Kd.S_R hR)
        have Hf := Aside0.mk hCX
        have Lf := Aside0.mk hcX
        clear hR hB hCX hcX
        go_wp2_with fail
        refine (tripartiteref04_Back.calls k13 (fun k => k < _) A0 c0 l z _ ⟨A0, c0, rfl, Ll.out, Kd.C_F k144_heap Hl.out⟩ G13.out).mono ?_
        rintro e W14 ⟨v0_, rfl, hR, hB⟩
        replace Hl := Aside0.mk (Kd.C_below Hl.out hB)
        replace Ha := Aside0.mk (Kd.C_below Ha.out hB)
        replace Hx := Aside0.mk (Kd.C_below Hx.out hB)
        replace Hb := Aside0.mk (Kd.C_below Hb.out hB)
        replace Hp := Aside0.mk (Kd.C_below Hp.out hB)
        replace Hq := Aside0.mk (Kd.C_below Hq.out hB)
        replace Hy := Aside0.mk (Kd.C_below Hy.out hB)
        replace Hf := Aside0.mk (Kd.C_below Hf.out hB)
        replace HB := Aside0.mk (below_step HB.out hB)
        obtain ⟨Ag, cg, rfl, hcX, hCX⟩ := Kd.N_reads hR
        have Hg := Aside0.mk hCX
        have Lg := Aside0.mk hcX
        clear hR hB hCX hcX
        go_wp2_with fail
        refine (tripartiteref04_Same.calls k14 Af cf z Ag cg z true _ Hf.out Lf.out Hg.out Lg.out G14.out).mono ?_
        rintro e W15 ⟨rfl, hD⟩
        have hB := Drawn0.below hD
        replace Hl := Aside0.mk (Kd.C_below Hl.out hB)
        replace Ha := Aside0.mk (Kd.C_below Ha.out hB)
        replace Hx := Aside0.mk (Kd.C_below Hx.out hB)
        replace Hb := Aside0.mk (Kd.C_below Hb.out hB)
        replace Hp := Aside0.mk (Kd.C_below Hp.out hB)
        replace Hq := Aside0.mk (Kd.C_below Hq.out hB)
        replace Hy := Aside0.mk (Kd.C_below Hy.out hB)
        replace Hf := Aside0.mk (Kd.C_below Hf.out hB)
        replace Hg := Aside0.mk (Kd.C_below Hg.out hB)
        replace HB := Aside0.mk (below_step HB.out hB)
        clear hB hD
        go_wp2_with fail
        refine (edit_Right.calls k15 Ay cy y true _ Hy.out Ly.out G15.out).mono ?_
        rintro e W16 ⟨rfl, hB⟩
        replace Hl := Aside0.mk (Kd.C_below Hl.out hB)
        replace Ha := Aside0.mk (Kd.C_below Ha.out hB)
        replace Hx := Aside0.mk (Kd.C_below Hx.out hB)
        replace Hb := Aside0.mk (Kd.C_below Hb.out hB)
        replace Hp := Aside0.mk (Kd.C_below Hp.out hB)
        replace Hq := Aside0.mk (Kd.C_below Hq.out hB)
        replace Hy := Aside0.mk (Kd.C_below Hy.out hB)
        replace Hf := Aside0.mk (Kd.C_below Hf.out hB)
        replace Hg := Aside0.mk (Kd.C_below Hg.out hB)
        replace HB := Aside0.mk (below_step HB.out hB)
        clear hB
        go_wp2_with fail
        refine (edit_Back.calls k16 Ay cy y x _ Hy.out Ly.out G16.out).mono ?_
        rintro e W17 ⟨v0_, rfl, hR, hB⟩
        replace Hl := Aside0.mk (Kd.C_below Hl.out hB)
        replace Ha := Aside0.mk (Kd.C_below Ha.out hB)
        replace Hx := Aside0.mk (Kd.C_below Hx.out hB)
        replace Hb := Aside0.mk (Kd.C_below Hb.out hB)
        replace Hp := Aside0.mk (Kd.C_below Hp.out hB)
        replace Hq := Aside0.mk (Kd.C_below Hq.out hB)
        replace Hy := Aside0.mk (Kd.C_below Hy.out hB)
        replace Hf := Aside0.mk (Kd.C_below Hf.out hB)
        replace Hg := Aside0.mk (Kd.C_below Hg.out hB)
        replace HB := Aside0.mk (below_step HB.out hB)
        obtain ⟨Ah, ch, rfl, hcX, hCX⟩ := Kd.R_reads (Kd.S_R hR)
        have Hh := Aside0.mk hCX
        have Lh := Aside0.mk hcX
        clear hR hB hCX hcX
        go_wp2_with fail
        refine (tripartitelaw04_From.calls k17 Ah ch x l _ Hh.out Lh.out G17.out).mono ?_
        rintro e W18 ⟨v0_, rfl, hR, hB⟩
        replace Hl := Aside0.mk (Kd.C_below Hl.out hB)
        replace Ha := Aside0.mk (Kd.C_below Ha.out hB)
        replace Hx := Aside0.mk (Kd.C_below Hx.out hB)
        replace Hb := Aside0.mk (Kd.C_below Hb.out hB)
        replace Hp := Aside0.mk (Kd.C_below Hp.out hB)
        replace Hq := Aside0.mk (Kd.C_below Hq.out hB)
        replace Hy := Aside0.mk (Kd.C_below Hy.out hB)
        replace Hf := Aside0.mk (Kd.C_below Hf.out hB)
        replace Hg := Aside0.mk (Kd.C_below Hg.out hB)
        replace Hh := Aside0.mk (Kd.C_below Hh.out hB)
        replace HB := Aside0.mk (below_step HB.out hB)
        obtain ⟨Ai, ci, rfl, hcX, hCX⟩ := Kd.R_reads (Kd.S_R hR)
        have Hi := Aside0.mk hCX
        have Li := Aside0.mk hcX
        clear hR hB hCX hcX
        go_wp2_with fail
        refine (tripartiteref04_Same.calls k18 Ai ci l A0 c0 l true _ Hi.out Li.out Hl.out Ll.out G18.out).mono ?_
        rintro e W19 ⟨rfl, hD⟩
        have hB := Drawn0.below hD
        replace Hl := Aside0.mk (Kd.C_below Hl.out hB)
        replace Ha := Aside0.mk (Kd.C_below Ha.out hB)
        replace Hx := Aside0.mk (Kd.C_below Hx.out hB)
        replace Hb := Aside0.mk (Kd.C_below Hb.out hB)
        replace Hp := Aside0.mk (Kd.C_below Hp.out hB)
        replace Hq := Aside0.mk (Kd.C_below Hq.out hB)
        replace Hy := Aside0.mk (Kd.C_below Hy.out hB)
        replace Hf := Aside0.mk (Kd.C_below Hf.out hB)
        replace Hg := Aside0.mk (Kd.C_below Hg.out hB)
        replace Hh := Aside0.mk (Kd.C_below Hh.out hB)
        replace Hi := Aside0.mk (Kd.C_below Hi.out hB)
        replace HB := Aside0.mk (below_step HB.out hB)
        clear hB hD
        go_wp2_with fail
        refine (tripartitelaw04_From.calls k17 Ax cx x l _ Hx.out Lx.out G17.out).mono ?_
        rintro e W20 ⟨v0_, rfl, hR, hB⟩
        replace Hl := Aside0.mk (Kd.C_below Hl.out hB)
        replace Ha := Aside0.mk (Kd.C_below Ha.out hB)
        replace Hx := Aside0.mk (Kd.C_below Hx.out hB)
        replace Hb := Aside0.mk (Kd.C_below Hb.out hB)
        replace Hp := Aside0.mk (Kd.C_below Hp.out hB)
        replace Hq := Aside0.mk (Kd.C_below Hq.out hB)
        replace Hy := Aside0.mk (Kd.C_below Hy.out hB)
        replace Hf := Aside0.mk (Kd.C_below Hf.out hB)
        replace Hg := Aside0.mk (Kd.C_below Hg.out hB)
        replace Hh := Aside0.mk (Kd.C_below Hh.out hB)
        replace Hi := Aside0.mk (Kd.C_below Hi.out hB)
        replace HB := Aside0.mk (below_step HB.out hB)
        obtain ⟨Aj, cj, rfl, hcX, hCX⟩ := Kd.R_reads (Kd.S_R hR)
        have Hj := Aside0.mk hCX
        have Lj := Aside0.mk hcX
        clear hR hB hCX hcX
        go_wp2_with fail
        refine (tripartiteref04_Same.calls k18 Aj cj l A0 c0 l true _ Hj.out Lj.out Hl.out Ll.out G18.out).mono ?_
        rintro e W21 ⟨rfl, hD⟩
        have hB := Drawn0.below hD
        replace Hl := Aside0.mk (Kd.C_below Hl.out hB)
        replace Ha := Aside0.mk (Kd.C_below Ha.out hB)
        replace Hx := Aside0.mk (Kd.C_below Hx.out hB)
        replace Hb := Aside0.mk (Kd.C_below Hb.out hB)
        replace Hp := Aside0.mk (Kd.C_below Hp.out hB)
        replace Hq := Aside0.mk (Kd.C_below Hq.out hB)
        replace Hy := Aside0.mk (Kd.C_below Hy.out hB)
        replace Hf := Aside0.mk (Kd.C_below Hf.out hB)
        replace Hg := Aside0.mk (Kd.C_below Hg.out hB)
        replace Hh := Aside0.mk (Kd.C_below Hh.out hB)
        replace Hi := Aside0.mk (Kd.C_below Hi.out hB)
        replace Hj := Aside0.mk (Kd.C_below Hj.out hB)
        replace HB := Aside0.mk (below_step HB.out hB)
        clear hB hD
        go_wp2_with fail
        go_ret
        exact ⟨rfl, HB.out⟩
      · obtain ⟨k6, n1⟩ := G7.out a HAL.out hfit
        obtain ⟨k8, n2⟩ := G9.out a HAL.out hfit
        have N1 := Aside0.mk n1
        have N2 := Aside0.mk n2
        clear n1 n2 hfit
        go_enter Try.func10, Try.ntmps10
        go_wp2_with fail
        refine (tripartitelaw04_few.calls kf A0 c0 l true _ Hl.out Ll.out FF.out).mono ?_
        rintro e W1 ⟨rfl, hD⟩
        have hB := Drawn0.below hD
        replace Hl := Aside0.mk (Kd.C_below Hl.out hB)
        replace Ha := Aside0.mk (Kd.C_below Ha.out hB)
        replace HB := Aside0.mk (below_step HB.out hB)
        clear hB hD
        go_wp2_with fail
        refine (tripartitelaw04_To.calls k1 A0 c0 l x _ Hl.out Ll.out F1.out).mono ?_
        rintro e W2 ⟨v0_, rfl, hR, hB⟩
        replace Hl := Aside0.mk (Kd.C_below Hl.out hB)
        replace Ha := Aside0.mk (Kd.C_below Ha.out hB)
        replace HB := Aside0.mk (below_step HB.out hB)
        obtain ⟨Ax, cx, rfl, hcX, hCX⟩ := Kd.R_reads (Kd.S_R hR)
        have Hx := Aside0.mk hCX
        have Lx := Aside0.mk hcX
        clear hR hB hCX hcX
        go_wp2_with fail
        refine (tripartitelaw04_told.calls kt true _ FT.out).mono ?_
        rintro e W3 ⟨rfl, hB⟩
        replace Hl := Aside0.mk (Kd.C_below Hl.out hB)
        replace Ha := Aside0.mk (Kd.C_below Ha.out hB)
        replace Hx := Aside0.mk (Kd.C_below Hx.out hB)
        replace HB := Aside0.mk (below_step HB.out hB)
        clear hB
        go_wp2_with fail
        refine (edit_Right.calls k2 Ax cx x true _ Hx.out Lx.out F2.out).mono ?_
        rintro e W4 ⟨rfl, hB⟩
        replace Hl := Aside0.mk (Kd.C_below Hl.out hB)
        replace Ha := Aside0.mk (Kd.C_below Ha.out hB)
        replace Hx := Aside0.mk (Kd.C_below Hx.out hB)
        replace HB := Aside0.mk (below_step HB.out hB)
        clear hB
        go_wp2_with fail
        refine (tripartiteref04_Right.calls k3 A0 c0 l true _ Hl.out Ll.out F3.out).mono ?_
        rintro e W5 ⟨rfl, hD⟩
        have hB := Drawn0.below hD
        replace Hl := Aside0.mk (Kd.C_below Hl.out hB)
        replace Ha := Aside0.mk (Kd.C_below Ha.out hB)
        replace Hx := Aside0.mk (Kd.C_below Hx.out hB)
        replace HB := Aside0.mk (below_step HB.out hB)
        clear hB hD
        go_wp2_with fail
        refine (tripartiteref04_Right.calls k3 A0 c0 l true _ Hl.out Ll.out F3.out).mono ?_
        rintro e W6 ⟨rfl, hD⟩
        have hB := Drawn0.below hD
        replace Hl := Aside0.mk (Kd.C_below Hl.out hB)
        replace Ha := Aside0.mk (Kd.C_below Ha.out hB)
        replace Hx := Aside0.mk (Kd.C_below Hx.out hB)
        replace HB := Aside0.mk (below_step HB.out hB)
        clear hB hD
        go_wp2_with fail
        refine (edit_Apply.calls k6 Ax cx x A1 c1 a [] 12 _ Hx.out Lx.out Ha.out La.out N1.out).mono ?_
        rintro e W7 ⟨v0_, rfl, hR, hB⟩
        replace Hl := Aside0.mk (Kd.C_below Hl.out hB)
        replace Ha := Aside0.mk (Kd.C_below Ha.out hB)
        replace Hx := Aside0.mk (Kd.C_below Hx.out hB)
        replace HB := Aside0.mk (below_step HB.out hB)
        obtain ⟨Ab, cb, rfl, hcX, hCX⟩ := Kd.R_reads hR
        have Hb := Aside0.mk hCX
        have Lb := Aside0.mk hcX
        clear hR hB hCX hcX
        go_wp2_with fail
        refine (tripartiteref04_Side.calls k4 A0 c0 l 1 _ _ Hl.out Ll.out G4.out).mono ?_
        rintro e W8 ⟨v0_, rfl, hR, hB⟩
        replace Hl := Aside0.mk (Kd.C_below Hl.out hB)
        replace Ha := Aside0.mk (Kd.C_below Ha.out hB)
        replace Hx := Aside0.mk (Kd.C_below Hx.out hB)
        replace Hb := Aside0.mk (Kd.C_below Hb.out hB)
        replace HB := Aside0.mk (below_step HB.out hB)
        obtain ⟨Ap, cp, rfl, hcX, hCX⟩ := Kd.R_reads hR
        have Hp := Aside0.mk hCX
        have Lp := Aside0.mk hcX
        clear hR hB hCX hcX
        go_wp2_with fail
        refine (tripartiteref01_Same.calls k8 A1 c1 a Ap cp _ false _ Ha.out La.out Hp.out Lp.out N2.out).mono ?_
        rintro e W9 ⟨rfl, hD⟩
        have hB := Drawn0.below hD
        replace Hl := Aside0.mk (Kd.C_below Hl.out hB)
        replace Ha := Aside0.mk (Kd.C_below Ha.out hB)
        replace Hx := Aside0.mk (Kd.C_below Hx.out hB)
        replace Hb := Aside0.mk (Kd.C_below Hb.out hB)
        replace Hp := Aside0.mk (Kd.C_below Hp.out hB)
        replace HB := Aside0.mk (below_step HB.out hB)
        clear hB hD
        go_wp2_with fail
        refine (edit_Back.calls k11 Ax cx x y _ Hx.out Lx.out G11.out).mono ?_
        rintro e W10 ⟨v0_, rfl, hR, hB⟩
        replace Hl := Aside0.mk (Kd.C_below Hl.out hB)
        replace Ha := Aside0.mk (Kd.C_below Ha.out hB)
        replace Hx := Aside0.mk (Kd.C_below Hx.out hB)
        replace Hb := Aside0.mk (Kd.C_below Hb.out hB)
        replace Hp := Aside0.mk (Kd.C_below Hp.out hB)
        replace HB := Aside0.mk (below_step HB.out hB)
        obtain ⟨Ay, cy, rfl, hcX, hCX⟩ := Kd.R_reads (Kd.S_R hR)
        have Hy := Aside0.mk hCX
        have Ly := Aside0.mk hcX
        clear hR hB hCX hcX
        go_wp2_with fail
        refine (tripartitelaw04_From.calls k12 Ay cy y z _ Hy.out Ly.out G12.out).mono ?_
        rintro e W11 ⟨v0_, rfl, hR, hB⟩
        replace Hl := Aside0.mk (Kd.C_below Hl.out hB)
        replace Ha := Aside0.mk (Kd.C_below Ha.out hB)
        replace Hx := Aside0.mk (Kd.C_below Hx.out hB)
        replace Hb := Aside0.mk (Kd.C_below Hb.out hB)
        replace Hp := Aside0.mk (Kd.C_below Hp.out hB)
        replace Hy := Aside0.mk (Kd.C_below Hy.out hB)
        replace HB := Aside0.mk (below_step HB.out hB)
        obtain ⟨Af, cf, rfl, hcX, hCX⟩ := Kd.R_reads (Kd.S_R hR)
        have Hf := Aside0.mk hCX
        have Lf := Aside0.mk hcX
        clear hR hB hCX hcX
        go_wp2_with fail
        refine (tripartiteref04_Back.calls k13 (fun k => k < _) A0 c0 l z _ ⟨A0, c0, rfl, Ll.out, Kd.C_F k144_heap Hl.out⟩ G13.out).mono ?_
        rintro e W12 ⟨v0_, rfl, hR, hB⟩
        replace Hl := Aside0.mk (Kd.C_below Hl.out hB)
        replace Ha := Aside0.mk (Kd.C_below Ha.out hB)
        replace Hx := Aside0.mk (Kd.C_below Hx.out hB)
        replace Hb := Aside0.mk (Kd.C_below Hb.out hB)
        replace Hp := Aside0.mk (Kd.C_below Hp.out hB)
        replace Hy := Aside0.mk (Kd.C_below Hy.out hB)
        replace Hf := Aside0.mk (Kd.C_below Hf.out hB)
        replace HB := Aside0.mk (below_step HB.out hB)
        obtain ⟨Ag, cg, rfl, hcX, hCX⟩ := Kd.N_reads hR
        have Hg := Aside0.mk hCX
        have Lg := Aside0.mk hcX
        clear hR hB hCX hcX
        go_wp2_with fail
        refine (tripartiteref04_Same.calls k14 Af cf z Ag cg z true _ Hf.out Lf.out Hg.out Lg.out G14.out).mono ?_
        rintro e W13 ⟨rfl, hD⟩
        have hB := Drawn0.below hD
        replace Hl := Aside0.mk (Kd.C_below Hl.out hB)
        replace Ha := Aside0.mk (Kd.C_below Ha.out hB)
        replace Hx := Aside0.mk (Kd.C_below Hx.out hB)
        replace Hb := Aside0.mk (Kd.C_below Hb.out hB)
        replace Hp := Aside0.mk (Kd.C_below Hp.out hB)
        replace Hy := Aside0.mk (Kd.C_below Hy.out hB)
        replace Hf := Aside0.mk (Kd.C_below Hf.out hB)
        replace Hg := Aside0.mk (Kd.C_below Hg.out hB)
        replace HB := Aside0.mk (below_step HB.out hB)
        clear hB hD
        go_wp2_with fail
        refine (edit_Right.calls k15 Ay cy y true _ Hy.out Ly.out G15.out).mono ?_
        rintro e W14 ⟨rfl, hB⟩
        replace Hl := Aside0.mk (Kd.C_below Hl.out hB)
        replace Ha := Aside0.mk (Kd.C_below Ha.out hB)
        replace Hx := Aside0.mk (Kd.C_below Hx.out hB)
        replace Hb := Aside0.mk (Kd.C_below Hb.out hB)
        replace Hp := Aside0.mk (Kd.C_below Hp.out hB)
        replace Hy := Aside0.mk (Kd.C_below Hy.out hB)
        replace Hf := Aside0.mk (Kd.C_below Hf.out hB)
        replace Hg := Aside0.mk (Kd.C_below Hg.out hB)
        replace HB := Aside0.mk (below_step HB.out hB)
        clear hB
        go_wp2_with fail
        refine (edit_Back.calls k16 Ay cy y x _ Hy.out Ly.out G16.out).mono ?_
        rintro e W15 ⟨v0_, rfl, hR, hB⟩
        replace Hl := Aside0.mk (Kd.C_below Hl.out hB)
        replace Ha := Aside0.mk (Kd.C_below Ha.out hB)
        replace Hx := Aside0.mk (Kd.C_below Hx.out hB)
        replace Hb := Aside0.mk (Kd.C_below Hb.out hB)
        replace Hp := Aside0.mk (Kd.C_below Hp.out hB)
        replace Hy := Aside0.mk (Kd.C_below Hy.out hB)
        replace Hf := Aside0.mk (Kd.C_below Hf.out hB)
        replace Hg := Aside0.mk (Kd.C_below Hg.out hB)
        replace HB := Aside0.mk (below_step HB.out hB)
        obtain ⟨Ah, ch, rfl, hcX, hCX⟩ := Kd.R_reads (Kd.S_R hR)
        have Hh := Aside0.mk hCX
        have Lh := Aside0.mk hcX
        clear hR hB hCX hcX
        go_wp2_with fail
        refine (tripartitelaw04_From.calls k17 Ah ch x l _ Hh.out Lh.out G17.out).mono ?_
        rintro e W16 ⟨v0_, rfl, hR, hB⟩
        replace Hl := Aside0.mk (Kd.C_below Hl.out hB)
        replace Ha := Aside0.mk (Kd.C_below Ha.out hB)
        replace Hx := Aside0.mk (Kd.C_below Hx.out hB)
        replace Hb := Aside0.mk (Kd.C_below Hb.out hB)
        replace Hp := Aside0.mk (Kd.C_below Hp.out hB)
        replace Hy := Aside0.mk (Kd.C_below Hy.out hB)
        replace Hf := Aside0.mk (Kd.C_below Hf.out hB)
        replace Hg := Aside0.mk (Kd.C_below Hg.out hB)
        replace Hh := Aside0.mk (Kd.C_below Hh.out hB)
        replace HB := Aside0.mk (below_step HB.out hB)
        obtain ⟨Ai, ci, rfl, hcX, hCX⟩ := Kd.R_reads (Kd.S_R hR)
        have Hi := Aside0.mk hCX
        have Li := Aside0.mk hcX
        clear hR hB hCX hcX
        go_wp2_with fail
        refine (tripartiteref04_Same.calls k18 Ai ci l A0 c0 l true _ Hi.out Li.out Hl.out Ll.out G18.out).mono ?_
        rintro e W17 ⟨rfl, hD⟩
        have hB := Drawn0.below hD
        replace Hl := Aside0.mk (Kd.C_below Hl.out hB)
        replace Ha := Aside0.mk (Kd.C_below Ha.out hB)
        replace Hx := Aside0.mk (Kd.C_below Hx.out hB)
        replace Hb := Aside0.mk (Kd.C_below Hb.out hB)
        replace Hp := Aside0.mk (Kd.C_below Hp.out hB)
        replace Hy := Aside0.mk (Kd.C_below Hy.out hB)
        replace Hf := Aside0.mk (Kd.C_below Hf.out hB)
        replace Hg := Aside0.mk (Kd.C_below Hg.out hB)
        replace Hh := Aside0.mk (Kd.C_below Hh.out hB)
        replace Hi := Aside0.mk (Kd.C_below Hi.out hB)
        replace HB := Aside0.mk (below_step HB.out hB)
        clear hB hD
        go_wp2_with fail
        refine (tripartitelaw04_From.calls k17 Ax cx x l _ Hx.out Lx.out G17.out).mono ?_
        rintro e W18 ⟨v0_, rfl, hR, hB⟩
        replace Hl := Aside0.mk (Kd.C_below Hl.out hB)
        replace Ha := Aside0.mk (Kd.C_below Ha.out hB)
        replace Hx := Aside0.mk (Kd.C_below Hx.out hB)
        replace Hb := Aside0.mk (Kd.C_below Hb.out hB)
        replace Hp := Aside0.mk (Kd.C_below Hp.out hB)
        replace Hy := Aside0.mk (Kd.C_below Hy.out hB)
        replace Hf := Aside0.mk (Kd.C_below Hf.out hB)
        replace Hg := Aside0.mk (Kd.C_below Hg.out hB)
        replace Hh := Aside0.mk (Kd.C_below Hh.out hB)
        replace Hi := Aside0.mk (Kd.C_below Hi.out hB)
        replace HB := Aside0.mk (below_step HB.out hB)
        obtain ⟨Aj, cj, rfl, hcX, hCX⟩ := Kd.R_reads (Kd.S_R hR)
        have Hj := Aside0.mk hCX
        have Lj := Aside0.mk hcX
        clear hR hB hCX hcX
        go_wp2_with fail
        refine (tripartiteref04_Same.calls k18 Aj cj l A0 c0 l true _ Hj.out Lj.out Hl.out Ll.out G18.out).mono ?_
        rintro e W19 ⟨rfl, hD⟩
        have hB := Drawn0.below hD
        replace Hl := Aside0.mk (Kd.C_below Hl.out hB)
        replace Ha := Aside0.mk (Kd.C_below Ha.out hB)
        replace Hx := Aside0.mk (Kd.C_below Hx.out hB)
        replace Hb := Aside0.mk (Kd.C_below Hb.out hB)
        replace Hp := Aside0.mk (Kd.C_below Hp.out hB)
        replace Hy := Aside0.mk (Kd.C_below Hy.out hB)
        replace Hf := Aside0.mk (Kd.C_below Hf.out hB)
        replace Hg := Aside0.mk (Kd.C_below Hg.out hB)
        replace Hh := Aside0.mk (Kd.C_below Hh.out hB)
        replace Hi := Aside0.mk (Kd.C_below Hi.out hB)
        replace Hj := Aside0.mk (Kd.C_below Hj.out hB)
        replace HB := Aside0.mk (below_step HB.out hB)
        clear hB hD
        go_wp2_with fail
        go_ret
        exact ⟨rfl, HB.out⟩
end Go.Proofs.Ytadafplbgophfaa.PA
end
section
/- An argument that is a slice, opened as a row that the printed functions read: of whole numbers, of strings, of bools, of pairs. -/
namespace Go.Proofs.Ytadafplbgophfaa.PA
open Go.ChangeShapes Go.WideShapes Go.Deep
open Go.RowKit Go.Proofs.YtadafplbgophfaaW.PrintWords Go.Proofs.YtadafplbgophfaaW.PrintLast Go.Proofs.YtadafplbgophfaaW.PrintMore
section
variable {H : Type} {enc : TypeId × Value → H} {P : Program} {w : World} {base : Nat} {held : Bool} {t e : TypeId} {a : Option Addr} {len cap : Nat} {d : DataW H} {ps : List MemPlace}

theorem nil_C {α : Type} (k : Kd α) (w : World) : Kd.C k w none ([] : List α).length [] := ⟨rfl, by simp, fun h => by simp at h⟩
theorem range_C {α : Type} {k : Kd α} {x : Addr} (n : Nat) (hn : n ≤ maxLen) (f : Nat → α) (h : ∀ i, i < n → ∃ c, c.length = k.sz ∧ k.K w (f i) c ∧ ∀ j u, c[j]? = some u → w.cell? (x.add (i * k.sz + j)) = some u) :
    Kd.C k w (some x) ((List.range n).map f).length ((List.range n).map f) := by
  refine ⟨rfl, by rw [List.length_map, List.length_range]; exact hn, fun _ => ⟨x, rfl, fun j p hj => ?_⟩⟩
  rw [List.getElem?_map] at hj
  obtain ⟨i, hi, rfl⟩ := Option.map_eq_some_iff.1 hj
  obtain ⟨hl, he⟩ := List.getElem?_eq_some_iff.1 hi
  rw [List.getElem_range] at he
  subst he
  rw [List.length_range] at hl
  exact h _ hl
theorem row_strs (ht : P.underlying t = some (.slice e)) (he : P.underlying e = some .string) (hc : P.cellsOf e = 1) (h : DataW.Trod enc P w base (fun _ => true) held t (.slice a len cap) d ps) :
    ∃ l : List ByteArray, len = l.length ∧ Kd.C Kd.string w a l.length l ∧ l.length ≤ maxLen ∧ l.length ≤ cap ∧ ∀ s ∈ l, s.size ≤ maxLen := by
  obtain ⟨fuel, hf⟩ := h
  rcases open_strs ht he hc hf with ⟨hcs, _⟩ | ⟨x, n, c, m, Sx, hcs, _, hl, hm, hmm, _, hx⟩
  · simp [Value.cells] at hcs
    obtain ⟨rfl, rfl, rfl⟩ := hcs
    exact ⟨[], rfl, nil_C _ _, by simp, by simp, by simp⟩
  · simp [Value.cells] at hcs
    obtain ⟨rfl, rfl, rfl⟩ := hcs
    simp only [if_true] at hmm
    subst hmm
    refine ⟨(List.range len).map Sx, by simp, range_C _ (Nat.le_trans hl hm) Sx (fun i hi => ⟨[.string (Sx i)], rfl, rfl, fun j u hu => ?_⟩), by simpa using Nat.le_trans hl hm, by simpa using hl, ?_⟩
    · obtain ⟨hj, rfl⟩ := List.getElem?_eq_some_iff.1 hu
      obtain rfl : j = 0 := by simpa using hj
      have := (hx i (Nat.lt_of_lt_of_le hi hl)).1
      simpa [Kd.string, Kd.scalar] using this
    · intro s hs
      obtain ⟨i, hi, rfl⟩ := List.mem_map.1 hs
      exact (hx i (Nat.lt_of_lt_of_le (List.mem_range.1 hi) hl)).2
theorem row_bools (ht : P.underlying t = some (.slice e)) (he : P.underlying e = some .bool) (hc : P.cellsOf e = 1) (h : DataW.Trod enc P w base (fun _ => true) held t (.slice a len cap) d ps) :
    ∃ l : List Bool, len = l.length ∧ Kd.C Kd.bool w a l.length l ∧ l.length ≤ maxLen ∧ l.length ≤ cap := by
  obtain ⟨fuel, hf⟩ := h
  rcases open_bools ht he hc hf with ⟨hcs, _⟩ | ⟨x, n, c, Sx, hcs, _, hl, hm, _, hx⟩
  · simp [Value.cells] at hcs
    obtain ⟨rfl, rfl, rfl⟩ := hcs
    exact ⟨[], rfl, nil_C _ _, by simp, by simp⟩
  · simp [Value.cells] at hcs
    obtain ⟨rfl, rfl, rfl⟩ := hcs
    refine ⟨(List.range len).map Sx, by simp, range_C _ (Nat.le_trans hl hm) Sx (fun i hi => ⟨[.bool (Sx i)], rfl, rfl, fun j u hu => ?_⟩), by simpa using Nat.le_trans hl hm, by simpa using hl⟩
    obtain ⟨hj, rfl⟩ := List.getElem?_eq_some_iff.1 hu
    obtain rfl : j = 0 := by simpa using hj
    have := hx i (Nat.lt_of_lt_of_le hi hl)
    simpa [Kd.bool, Kd.scalar] using this
theorem row_ints {q : IntKind} (ht : P.underlying t = some (.slice e)) (he : P.underlying e = some (.int q)) (hc : P.cellsOf e = 1) (h : DataW.Trod enc P w base (fun _ => true) held t (.slice a len cap) d ps) :
    ∃ l : List Int, len = l.length ∧ Kd.C (Kd.int q) w a l.length l ∧ l.length ≤ maxLen ∧ l.length ≤ cap ∧ ∀ x ∈ l, (Lit.int q x).wf = true := by
  obtain ⟨fuel, hf⟩ := h
  rcases open_ints ht he hc hf with ⟨hcs, _⟩ | ⟨x, n, c, zs, hcs, _, hl, hm, hz, _, hx, hw⟩
  · simp [Value.cells] at hcs
    obtain ⟨rfl, rfl, rfl⟩ := hcs
    exact ⟨[], rfl, nil_C _ _, by simp, by simp, by simp⟩
  · simp [Value.cells] at hcs
    obtain ⟨rfl, rfl, rfl⟩ := hcs
    simp only [if_true] at hz
    refine ⟨(List.range len).map (fun i => zs.getD i 0), by simp, range_C _ (Nat.le_trans hl hm) _ (fun i hi => ⟨[.int q (zs.getD i 0)], rfl, rfl, fun j u hu => ?_⟩), by simpa using Nat.le_trans hl hm, by simpa using hl, ?_⟩
    · obtain ⟨hj, rfl⟩ := List.getElem?_eq_some_iff.1 hu
      obtain rfl : j = 0 := by simpa using hj
      have := hx i (by rw [hz]; exact Nat.lt_of_lt_of_le hi hl)
      simpa [Kd.int, Kd.scalar] using this
    · intro s hs
      obtain ⟨i, hi, rfl⟩ := List.mem_map.1 hs
      have hi' : i < zs.length := by rw [hz]; exact Nat.lt_of_lt_of_le (List.mem_range.1 hi) hl
      have : zs.getD i 0 = zs[i] := by simp [List.getD_eq_getElem?_getD, hi']
      rw [this]
      exact hw _ (List.getElem_mem hi')
theorem row_pairs {f0 f1 : Field} (ht : P.underlying t = some (.slice e)) (he : P.underlying e = some (.struct #[f0, f1])) (ce : P.cellsOf e = 2) (o0 : f0.offset = 0) (o1 : f1.offset = 1)
    (u0 : P.underlying f0.type = some (.int .i64)) (u1 : P.underlying f1.type = some (.int .i64)) (c0 : P.cellsOf f0.type = 1) (c1 : P.cellsOf f1.type = 1) (h : DataW.Trod enc P w base (fun _ => true) held t (.slice a len cap) d ps) :
    ∃ l : List S37, len = l.length ∧ Kd.C k37 w a l.length l ∧ l.length ≤ maxLen ∧ l.length ≤ cap ∧ ∀ x ∈ l, (Lit.int .i64 x.f0).wf = true ∧ (Lit.int .i64 x.f1).wf = true := by
  obtain ⟨fuel, hf⟩ := h
  rcases open_slice_pairs ht he ce o0 o1 c0 c1 hf with ⟨hcs, _⟩ | ⟨x, n, c, m, r, V0, V1, D0, D1, P0, P1, hcs, _, hl, hm, hmm, _, hx⟩
  · simp [Value.cells] at hcs
    obtain ⟨rfl, rfl, rfl⟩ := hcs
    exact ⟨[], rfl, nil_C _ _, by simp, by simp, by simp⟩
  · simp [Value.cells] at hcs
    obtain ⟨rfl, rfl, rfl⟩ := hcs
    simp only [if_true] at hmm
    subst hmm
    have each : ∀ i, i < len → ∃ s : S37, V0 i = .int .i64 s.f0 ∧ V1 i = .int .i64 s.f1 ∧ (Lit.int .i64 s.f0).wf = true ∧ (Lit.int .i64 s.f1).wf = true := by
      intro i hi
      obtain ⟨_, _, h0, h1⟩ := hx i (Nat.lt_of_lt_of_le hi hl)
      obtain ⟨p, e0, _, w0⟩ := DataW.trod_int u0 h0
      obtain ⟨q, e1, _, w1⟩ := DataW.trod_int u1 h1
      exact ⟨⟨p, q⟩, by simpa using e0, by simpa using e1, w0, w1⟩
    haveI : Inhabited S37 := ⟨⟨0, 0⟩⟩
    obtain ⟨Sx, hS⟩ := choose_lt each
    refine ⟨(List.range len).map Sx, by simp, range_C _ (Nat.le_trans hl hm) Sx (fun i hi => ⟨_, rfl, k37_mk w (Sx i), fun j u hu => ?_⟩), by simpa using Nat.le_trans hl hm, by simpa using hl, ?_⟩
    · obtain ⟨e0, e1, _, _⟩ := hx i (Nat.lt_of_lt_of_le hi hl)
      rw [(hS i hi).1] at e0
      rw [(hS i hi).2.1] at e1
      match j, hu with
      | 0, hu => simp at hu; subst hu; exact e0
      | 1, hu => simp at hu; subst hu; exact e1
    · intro s hs
      obtain ⟨i, hi, rfl⟩ := List.mem_map.1 hs
      exact (hS i (List.mem_range.1 hi)).2.2
end
end Go.Proofs.Ytadafplbgophfaa.PA
end
section
/- An argument that is a slice of steps (a whole number, and texts), opened as a row that the walks read; its sizes. -/
namespace Go.Proofs.Ytadafplbgophfaa.PA
open Go.ChangeShapes Go.WideShapes Go.Deep
open Go.RowKit Go.Proofs.YtadafplbgophfaaW.PrintWords Go.Proofs.YtadafplbgophfaaW.PrintLast Go.Proofs.YtadafplbgophfaaW.PrintMore
set_option linter.unusedVariables false
section
variable {H : Type} {enc : TypeId × Value → H} {P : Program} {w : World} {base : Nat} {held : Bool} {t e : TypeId} {a : Option Addr} {len cap : Nat} {d : DataW H} {ps : List MemPlace}

theorem weightsAll_mem {e : TypeId} : ∀ {ds : List (DataW H)} {d : DataW H}, d ∈ ds → ∀ n ∈ d.weights P e, n ∈ DataW.weightsAll P e ds
  | [], _, h, _, _ => by simp at h
  | d0 :: ds, d, h, n, hn => by
    simp only [DataW.weightsAll, List.mem_append]
    rcases List.mem_cons.1 h with rfl | h
    · exact .inl hn
    · exact .inr (weightsAll_mem h n hn)
theorem weights_slice (ht : P.underlying t = some (.slice e)) {elems spare : List (DataW H)} (hz : ∀ n ∈ (DataW.slice elems spare).weights P t, n ≤ reachBytes) : (elems.length + spare.length) * P.bytesOf e ≤ reachBytes ∧ ∀ x ∈ elems, ∀ n ∈ x.weights P e, n ≤ reachBytes := by
  refine ⟨hz _ (by simp [DataW.weights, ht]), fun x hx n hn => hz n ?_⟩
  simp only [DataW.weights, ht, List.mem_cons, List.mem_append]
  exact .inr (.inl (weightsAll_mem hx n hn))
theorem weights_second {f0 f1 : Field} (he : P.underlying e = some (.struct #[f0, f1])) {d0 d1 : DataW H} (hz : ∀ n ∈ (DataW.agg [d0, d1]).weights P e, n ≤ reachBytes) : ∀ n ∈ d1.weights P f1.type, n ≤ reachBytes := by
  intro n hn
  refine hz n ?_
  simp only [DataW.weights, he, List.map_cons, List.map_nil, DataW.weightsEach, List.mem_append]
  exact .inr (.inl hn)
/-- a row of texts with its size -/
theorem row_strs_sized {cs : List Value} {fuel : Nat} {sp : Nat → Bool} {b : Nat} (ht : P.underlying t = some (.slice e)) (he : P.underlying e = some .string) (hc : P.cellsOf e = 1) (hb : 1 ≤ P.bytesOf e) (h : DataW.trod enc P w b sp held fuel t cs = some (d, ps)) (hz : ∀ n ∈ d.weights P t, n ≤ reachBytes) :
    ∃ (A : Option Addr) (l : List ByteArray) (c : Nat), cs = [.slice A l.length c] ∧ l.length ≤ c ∧ Kd.C Kd.string w A l.length l ∧ l.length ≤ reachBytes ∧ ∀ s ∈ l, s.size ≤ maxLen := by
  rcases open_strs ht he hc h with ⟨rfl, _⟩ | ⟨x, n, c, m, Sx, rfl, _, hl, hm, hmm, hd, hx⟩
  · exact ⟨none, [], 0, rfl, Nat.le_refl _, nil_C _ _, by simp, by simp⟩
  · injection hd with hd _
    subst hd
    have hlm : n ≤ m := by rw [hmm]; split <;> omega
    have hw := (weights_slice ht hz).1
    simp only [List.length_map, List.length_range] at hw
    have hn : n ≤ reachBytes := by
      refine Nat.le_trans ?_ hw
      calc n ≤ n + (m - n) := by omega
        _ = (n + (m - n)) * 1 := by omega
        _ ≤ _ := Nat.mul_le_mul_left _ hb
    refine ⟨some x, (List.range n).map Sx, c, by simp, by simpa using hl, range_C _ (Nat.le_trans hl hm) Sx (fun i hi => ⟨[.string (Sx i)], rfl, rfl, fun j u hu => ?_⟩), by simpa using hn, ?_⟩
    · obtain ⟨hj, rfl⟩ := List.getElem?_eq_some_iff.1 hu
      obtain rfl : j = 0 := by simpa using hj
      have := (hx i (Nat.lt_of_lt_of_le hi hlm)).1
      simpa [Kd.string, Kd.scalar] using this
    · intro s hs
      obtain ⟨i, hi, rfl⟩ := List.mem_map.1 hs
      exact (hx i (Nat.lt_of_lt_of_le (List.mem_range.1 hi) hlm)).2
theorem row_steps {f0 f1 : Field} {e1 : TypeId} (ht : P.underlying t = some (.slice e)) (he : P.underlying e = some (.struct #[f0, f1])) (ce : P.cellsOf e = 2) (o0 : f0.offset = 0) (o1 : f1.offset = 1)
    (u0 : P.underlying f0.type = some (.int .i64)) (u1 : P.underlying f1.type = some (.slice e1)) (ue : P.underlying e1 = some .string) (c0 : P.cellsOf f0.type = 1) (c1 : P.cellsOf f1.type = 1) (c2 : P.cellsOf e1 = 1) (b0 : 1 ≤ P.bytesOf e) (b1 : 1 ≤ P.bytesOf e1)
    (h : DataW.Trod enc P w base (fun _ => true) held t (.slice a len cap) d ps) (hz : ∀ n ∈ d.weights P t, n ≤ reachBytes) :
    ∃ l : List S144, len = l.length ∧ Kd.C k144 w a l.length l ∧ l.length ≤ maxLen ∧ l.length ≤ cap ∧ l.length ≤ reachBytes ∧ ∀ x ∈ l, x.f1.length ≤ reachBytes ∧ ∀ s ∈ x.f1, s.size ≤ maxLen := by
  obtain ⟨fuel, hf⟩ := h
  rcases open_slice_pairs ht he ce o0 o1 c0 c1 hf with ⟨hcs, _⟩ | ⟨x, n, c, m, r, V0, V1, D0, D1, P0, P1, hcs, _, hl, hm, hmm, hd, hx⟩
  · simp [Value.cells] at hcs
    obtain ⟨rfl, rfl, rfl⟩ := hcs
    exact ⟨[], rfl, nil_C _ _, by simp, by simp, by simp, by simp⟩
  · simp [Value.cells] at hcs
    obtain ⟨rfl, rfl, rfl⟩ := hcs
    simp only [if_true] at hmm
    subst hmm
    injection hd with hd _
    subst hd
    obtain ⟨hw, hall⟩ := weights_slice ht hz
    simp only [List.length_map, List.length_range] at hw
    have hn : len ≤ reachBytes := by
      refine Nat.le_trans ?_ hw
      calc len ≤ len + (m - len) := by omega
        _ = (len + (m - len)) * 1 := by omega
        _ ≤ _ := Nat.mul_le_mul_left _ b0
    have each : ∀ i, i < len → ∃ s : S144, V0 i = .int .i64 s.f0 ∧ (∃ (A : Option Addr) (c : Nat), V1 i = .slice A s.f1.length c ∧ s.f1.length ≤ c ∧ Kd.C Kd.string w A s.f1.length s.f1) ∧ s.f1.length ≤ reachBytes ∧ ∀ q ∈ s.f1, q.size ≤ maxLen := by
      intro i hi
      obtain ⟨_, _, h0, h1⟩ := hx i (Nat.lt_of_lt_of_le hi hl)
      obtain ⟨p, e0, _, w0⟩ := DataW.trod_int u0 h0
      have hzi := weights_second he (hall _ (List.mem_map.2 ⟨i, List.mem_range.2 hi, rfl⟩))
      obtain ⟨A, q, c, e1', hqc, hqC, hqr, hqs⟩ := row_strs_sized u1 ue c2 b1 h1 hzi
      exact ⟨⟨p, q⟩, by simpa using e0, ⟨A, c, by simpa using e1', hqc, hqC⟩, hqr, hqs⟩
    haveI : Inhabited S144 := ⟨⟨0, []⟩⟩
    obtain ⟨Sx, hS⟩ := choose_lt each
    refine ⟨(List.range len).map Sx, by simp, range_C _ (Nat.le_trans hl hm) Sx (fun i hi => ?_), by simpa using Nat.le_trans hl hm, by simpa using hl, by simpa using hn, ?_⟩
    · obtain ⟨g0, ⟨A, c', g1, g2, g3⟩, _, _⟩ := hS i hi
      refine ⟨_, rfl, k144_mk w (Sx i) g2 g3, fun j u hu => ?_⟩
      obtain ⟨e0, e1', _, _⟩ := hx i (Nat.lt_of_lt_of_le hi hl)
      rw [g0] at e0
      rw [g1] at e1'
      match j, hu with
      | 0, hu => simp at hu; subst hu; exact e0
      | 1, hu => simp at hu; subst hu; exact e1'
    · intro s hs
      obtain ⟨i, hi, rfl⟩ := List.mem_map.1 hs
      exact (hS i (List.mem_range.1 hi)).2.2
end
end Go.Proofs.Ytadafplbgophfaa.PA
end
