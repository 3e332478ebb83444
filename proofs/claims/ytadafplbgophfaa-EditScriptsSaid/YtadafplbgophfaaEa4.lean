/- Part 4 of what the row of the law EditScripts rests on: walks of functions, and plain lemmas. -/
import Derived.Test.YtadafplbgophfaaEa3
import Derived.Test.YtadafplbgophfaaEa1
import Derived.Deep.Strs
import Derived.Deep.Grids
import Derived.Deep.SlicePairs
import Derived.OpenShut
section
/- The way back of a script. -/
namespace Go.Proofs.Ytadafplbgophfaa.PA
set_option linter.unusedSimpArgs false
set_option linter.unusedVariables false
open Go.RowKit Go.Proofs.YtadafplbgophfaaW.PrintWords Go.Proofs.YtadafplbgophfaaW.PrintLast Go.Proofs.YtadafplbgophfaaW.PrintMore
open Jdg

def bkR : List S144 → List S144 → List ByteArray → List S144
  | [], out, late => pt out 2 late
  | s :: l, out, late => if s.f0 = 1 then bkR l out s.f1 else
      bkR l (if s.f0 = 0 then pt (pt (if s.f0 = 2 then pt out 1 s.f1 else out) 2 late) 0 s.f1 else pt (if s.f0 = 2 then pt out 1 s.f1 else out) 2 late) []
theorem tot_cons (x : S144) (l : List S144) : tot (x :: l) = x.f1.length + tot l := by simp [tot]
theorem side_cons (q : Int) (x : S144) (l : List S144) : side q (x :: l) = (if x.f0 = 0 ∨ x.f0 = q then x.f1 else []) ++ side q l := by rw [show x :: l = [x] ++ l from rfl, side_append, side_one]
theorem backR_eq : ∀ (l out : List S144) (late : List ByteArray), NE out → tot out + tot l + late.length ≤ 1000000 → backR (l.map t144) (out.map t144) late = some ((bkR l out late).map t144)
  | [], out, late, h, hb => by
    simp only [List.map_nil, backR, bkR]
    exact putO_pt h (by omega) (by omega)
  | s :: l, out, late, h, hb => by
    rw [tot_cons] at hb
    simp only [List.map_cons, backR, bkR]
    have e1 : (t144 s).f1 = s.f1 := rfl
    by_cases c1 : s.f0 = 1
    · rw [if_pos (show (t144 s).f0 = 1 from c1), if_pos c1, e1]
      exact backR_eq l out s.f1 h (by omega)
    · rw [if_neg (show ¬ (t144 s).f0 = 1 from c1), if_neg c1, e1]
      by_cases c2 : s.f0 = 2
      · have c0 : ¬ s.f0 = 0 := by omega
        rw [if_pos (show (t144 s).f0 = 2 from c2), if_neg c0, if_pos c2, putO_pt h (by omega) (by omega), Option.bind_some, putO_pt (pt_NE h _ _) (by rw [pt_tot]; omega) (by omega), Option.bind_some, if_neg (show ¬ (t144 s).f0 = 0 from c0), Option.bind_some]
        exact backR_eq l _ [] (pt_NE (pt_NE h _ _) _ _) (by rw [pt_tot, pt_tot]; simp; omega)
      · rw [if_neg (show ¬ (t144 s).f0 = 2 from c2), if_neg c2, Option.bind_some, putO_pt h (by omega) (by omega), Option.bind_some]
        by_cases c0 : s.f0 = 0
        · rw [if_pos (show (t144 s).f0 = 0 from c0), if_pos c0, putO_pt (pt_NE h _ _) (by rw [pt_tot]; omega) (by omega), Option.bind_some]
          exact backR_eq l _ [] (pt_NE (pt_NE h _ _) _ _) (by rw [pt_tot, pt_tot]; simp; omega)
        · rw [if_neg (show ¬ (t144 s).f0 = 0 from c0), if_neg c0, Option.bind_some]
          exact backR_eq l _ [] (pt_NE h _ _) (by rw [pt_tot]; simp; omega)
theorem bkR_NE : ∀ (l out : List S144) (late : List ByteArray), NE out → NE (bkR l out late)
  | [], out, late, h => pt_NE h _ _
  | s :: l, out, late, h => by
    simp only [bkR]
    split
    · exact bkR_NE l out _ h
    · refine bkR_NE l _ [] ?_
      split <;> split <;> first | exact pt_NE (pt_NE (pt_NE h _ _) _ _) _ _ | exact pt_NE (pt_NE h _ _) _ _ | exact pt_NE h _ _
theorem bkR_tot : ∀ (l out : List S144) (late : List ByteArray), tot (bkR l out late) ≤ tot out + tot l + late.length
  | [], out, late => by simp only [bkR]; rw [pt_tot]; omega
  | s :: l, out, late => by
    simp only [bkR]
    rw [tot_cons]
    split
    · have := bkR_tot l out s.f1; omega
    · refine Nat.le_trans (bkR_tot l _ []) ?_
      by_cases c0 : s.f0 = 0
      · rw [if_pos c0, if_neg (by omega), pt_tot, pt_tot]; simp; omega
      · rw [if_neg c0]
        by_cases c2 : s.f0 = 2
        · rw [if_pos c2, pt_tot, pt_tot]; simp; omega
        · rw [if_neg c2, pt_tot]; simp; omega
/-- the first step's kind, if there is one, is not q -/
def HeadNe (q : Int) : List S144 → Prop
  | [] => True
  | x :: _ => x.f0 ≠ q
theorem adj_tail {x : S144} {l : List S144} (h : Adj (x :: l)) : Adj l ∧ HeadNe x.f0 l := by
  cases l with
  | nil => exact ⟨trivial, trivial⟩
  | cons y l => exact ⟨h.2, fun e => h.1 e.symm⟩
theorem bkR_sides : ∀ (l out : List S144) (late : List ByteArray), Adj l → (late ≠ [] → HeadNe 1 l) → side 1 (bkR l out late) = side 1 out ++ side 2 l ∧ side 2 (bkR l out late) = side 2 out ++ late ++ side 1 l
  | [], out, late, _, _ => by
    simp only [bkR]
    rw [pt_side, pt_side]; simp [side]
  | s :: l, out, late, ha, hh => by
    obtain ⟨ha2, hn⟩ := adj_tail ha
    simp only [bkR]
    rw [side_cons, side_cons]
    by_cases c1 : s.f0 = 1
    · obtain rfl : late = [] := by
        apply Classical.byContradiction
        intro h; exact hh h c1
      obtain ⟨h1, h2⟩ := bkR_sides l out s.f1 ha2 (fun _ => by rw [c1] at hn; exact hn)
      rw [if_pos c1, h1, h2, if_neg (by omega), if_pos (by omega)]; simp
    · rw [if_neg c1]
      by_cases c0 : s.f0 = 0
      · obtain ⟨h1, h2⟩ := bkR_sides l (pt (pt out 2 late) 0 s.f1) [] ha2 (fun h => absurd rfl h)
        rw [if_pos c0, if_neg (show ¬ s.f0 = 2 by omega), h1, h2]
        simp [pt_side, c0]
      · rw [if_neg c0]
        by_cases c2 : s.f0 = 2
        · obtain ⟨h1, h2⟩ := bkR_sides l (pt (pt out 1 s.f1) 2 late) [] ha2 (fun h => absurd rfl h)
          rw [if_pos c2, h1, h2]
          simp [pt_side, c2]
        · obtain ⟨h1, h2⟩ := bkR_sides l (pt out 2 late) [] ha2 (fun h => absurd rfl h)
          rw [if_neg c2, h1, h2]
          simp [pt_side, c0, c1, c2]
theorem eback_ok {l : List S144} (h : tot l ≤ 1000000) : edit_Back.f 0 (l.map t144) = some ((bkR l [] []).map t144) := by
  unfold edit_Back.f
  exact backR_eq l [] [] (fun x hx => by simp at hx) (by simp [tot] at h ⊢; omega)

end Go.Proofs.Ytadafplbgophfaa.PA
end
section
/- The facts behind the statement EditScripts, about lists alone. -/
namespace Go.Proofs.Ytadafplbgophfaa.PA
set_option linter.unusedSimpArgs false
set_option linter.unusedVariables false
open Go.RowKit Go.Proofs.YtadafplbgophfaaW.PrintWords Go.Proofs.YtadafplbgophfaaW.PrintLast Go.Proofs.YtadafplbgophfaaW.PrintMore
open Jdg

theorem edit_told : Ev (fun k => tripartitelaw04_told.f k) true := Ev.of tripartitelaw04_told.mono (k := 20) (by decide +kernel)
structure Good9 (a b : List ByteArray) (l : List S37) (s : List S143) : Prop where
  apply : ∃ k, edit_Apply.f k s a = some (b, 0)
  back : ∃ r2 : List S143, (∃ k, edit_Back.f k s = some r2) ∧ ∃ k, edit_Apply.f k r2 b = some (a, 0)
  counts : ∃ d p : Int, edit_Counts.f 0 s = some ((l.length : Int), d, p) ∧ (l.length : Int) + d = a.length ∧ (l.length : Int) + p = b.length
  sameA : ∃ k, tripartiteref01_Same.f k a a = some true
  sameB : ∃ k, tripartiteref01_Same.f k b b = some true
structure Facts9 (a b : List ByteArray) (l : List S37) (ok : Bool) (r : List S144) (s : List S143) (t : List S39) (er : Int) : Prop where
  told : ∃ k, tripartitelaw04_told.f k = some true
  to_ : ∃ k, tripartitelaw03_To.f k l = some t
  of_ : ∃ k, edit_Of.f k a b t = some (s, er)
  err : er = if ok then 0 else 12
  rof : ∃ k, tripartiteref04_Of.f k a b l = some (r, ok)
  from_ : ∃ k, tripartitelaw04_From.f k s = some r
  same : ∃ k, tripartiteref04_Same.f k r r = some true
  good : ok = true → Good9 a b l s

theorem facts9 (a b : List ByteArray) (l : List S37) (ha : a.length ≤ 60) (hb : b.length ≤ 60) (hl : l.length ≤ 60) (hsa : ∀ s ∈ a, s.size ≤ maxLen) (hsb : ∀ s ∈ b, s.size ≤ maxLen) : ∃ ok r s t er, Facts9 a b l ok r s t er := by
  have hfit : Fits86 [a, b] := ⟨by simp, by simp only [texts]; omega, fun f hf s hs => by
    simp only [List.mem_cons, List.not_mem_nil, or_false] at hf
    rcases hf with rfl | rfl
    · exact hsa s hs
    · exact hsb s hs⟩
  have hto := (to_ok l (by omega)).rounds
  obtain ⟨v, ev, hv⟩ := lcsRight_ok (numFile [] a).1 (numFile (numFile [] a).2 b).1 l (by omega)
  obtain ⟨u, eu, hu⟩ := refRight_ok (numFile [] a).1 (numFile (numFile [] a).2 b).1 l (by omega)
  obtain rfl : v = u := Bool.eq_iff_iff.mpr (hv.trans hu.symm)
  have hnum : Ev (fun k => tripartiteref01_Number.f k [a, b]) (numAll [] [a, b]) := rnum_ok [a, b] (by simp) (by simp only [texts]; omega)
  have e0 : rd_L6 (numAll [] [a, b]) 0 = (numFile [] a).1 := rfl
  have e1 : rd_L6 (numAll [] [a, b]) 1 = (numFile (numFile [] a).2 b).1 := rfl
  have e2 : (numAll [] [a, b]).length = 2 := rfl
  have hfew0 : Few ([] : List S144) := ⟨by simp, by simp [tot]⟩
  cases v
  · refine ⟨false, [], [], _, 12, edit_told.rounds, hto, ?_, rfl, ?_, (from4_ok hfew0).rounds, (same4_ok hfew0).rounds, fun h => by cases h⟩
    · refine Ev.rounds (g := fun k => edit_Of.f k a b (l.map to39)) ?_
      unfold edit_Of.f
      refine Ev.congr (fun k => by rw [if_pos ⟨hfit, by rw [List.length_map]; omega⟩]) (Ev.bind ev ?_)
      exact Ev.now _
    · refine Ev.rounds (g := fun k => tripartiteref04_Of.f k a b l) ?_
      unfold tripartiteref04_Of.f
      refine Ev.congr (fun k => by rw [if_pos ⟨by omega, by omega, by omega⟩]) (Ev.bind hnum ?_)
      refine Ev.congr (fun k => by rw [if_pos e2, e0, e1]) (Ev.bind eu ?_)
      exact Ev.now _
  · have hrng := rng_of (hv.1 rfl)
    obtain ⟨r, g1, g2, g3, g4, g5, g6, g7⟩ := of_both a b (by omega) (by omega) l 0 0 [] hrng Scr.nil (by simp [tot]; omega)
    have s1 : side 1 r = a := by rw [g4]; simp [side]
    have s2 : side 2 r = b := by rw [g5]; simp [side]
    have hfew : Few r := ⟨by have := len_tot g3.ne; omega, by omega⟩
    have hc0 : cnt 0 r = l.length := by rw [g6]; simp [cnt]
    have hca : cnt 0 r + cnt 1 r = a.length := by rw [← side_len r (q := 1) (by decide), s1]
    have hcb : cnt 0 r + cnt 2 r = b.length := by rw [← side_len r (q := 2) (by decide), s2]
    refine ⟨true, r, r.map t144, _, 0, edit_told.rounds, hto, ?_, rfl, ?_, (from4_ok hfew).rounds, (same4_ok hfew).rounds, fun _ => ?_⟩
    · refine Ev.rounds (g := fun k => edit_Of.f k a b (l.map to39)) ?_
      unfold edit_Of.f
      refine Ev.congr (fun k => by rw [if_pos ⟨hfit, by rw [List.length_map]; omega⟩]) (Ev.bind ev ?_)
      have g1' : ofGo a b (l.map to39) 0 0 [] = some (r.map t144) := g1
      simp only [if_true]
      rw [g1']
      exact Ev.now _
    · refine Ev.rounds (g := fun k => tripartiteref04_Of.f k a b l) ?_
      unfold tripartiteref04_Of.f
      refine Ev.congr (fun k => by rw [if_pos ⟨by omega, by omega, by omega⟩]) (Ev.bind hnum ?_)
      refine Ev.congr (fun k => by rw [if_pos e2, e0, e1]) (Ev.bind eu ?_)
      simp only [if_true]
      rw [g2]
      exact Ev.now _
    · have hb1 := bkR_sides r [] [] g3.adj (fun h => absurd rfl h)
      have hbt := bkR_tot r [] []
      have hbn : NE (bkR r [] []) := bkR_NE r [] [] (fun x hx => by simp at hx)
      have hbf : Few (bkR r [] []) := by
        have := len_tot hbn
        simp only [tot, List.map_nil, List.sum_nil, List.length_nil, Nat.zero_add, Nat.add_zero] at hbt
        simp only [tot] at this g7
        exact ⟨by omega, by simp only [tot]; omega⟩
      have b1 : side 1 (bkR r [] []) = b := by rw [hb1.1, s2]; simp [side]
      have b2 : side 2 (bkR r [] []) = a := by rw [hb1.2, s1]; simp [side]
      refine ⟨?_, ⟨(bkR r [] []).map t144, ⟨0, eback_ok (by omega)⟩, ?_⟩, ⟨(cnt 1 r : Int), (cnt 2 r : Int), ?_, by omega, by omega⟩, ?_, ?_⟩
      · have h := apply_ok hfew a
        rw [if_pos s1, s2] at h
        exact h.rounds
      · have h := apply_ok hbf b
        rw [if_pos b1, b2] at h
        exact h.rounds
      · rw [counts_ok (by omega), hc0]
      · have h := rsame_ok a a (by omega)
        rw [decide_eq_true rfl] at h
        exact h.rounds
      · have h := rsame_ok b b (by omega)
        rw [decide_eq_true rfl] at h
        exact h.rounds
end Go.Proofs.Ytadafplbgophfaa.PA
end
section
/- The statement EditScripts, walked: at all two lists of texts and all pairs it answers true. -/
namespace Go.Proofs.Ytadafplbgophfaa.PA
set_option linter.unusedSimpArgs false
set_option linter.unusedVariables false
open Go.RowKit Go.Proofs.YtadafplbgophfaaW.PrintWords Go.Proofs.YtadafplbgophfaaW.PrintLast Go.Proofs.YtadafplbgophfaaW.PrintMore
attribute [local go_sem] max2_int min2_int max_two min_two max_three min_three max_four min_four

/-- the smaller of a length and a number, in the walk's spellings -/
theorem min_len (n N : Nat) (M : Int) (h : M = N) : ∃ j : Int, (if M < (n : Int) then M else (n : Int)) = j ∧ (if N < n then M else (n : Int)) = j ∧ 0 ≤ j ∧ j ≤ n ∧ j ≤ M := by
  refine ⟨_, rfl, ?_, ?_, ?_, ?_⟩ <;> (repeat' split) <;> omega

set_option maxHeartbeats 8000000 in
set_option maxRecDepth 100000 in
theorem EditScripts_walk (A0 : Option Addr) (c0 : Nat) (l0 : List ByteArray) (A1 : Option Addr) (c1 : Nat) (l1 : List ByteArray) (A2 : Option Addr) (c2 : Nat) (l2 : List S37) (w : World) (hr0 : Kd.C Kd.string w A0 l0.length l0) (hc0 : l0.length ≤ c0) (hr1 : Kd.C Kd.string w A1 l1.length l1) (hc1 : l1.length ≤ c1) (hr2 : Kd.C k37 w A2 l2.length l2) (hc2 : l2.length ≤ c2)
    (hs0 : ∀ s ∈ l0, s.size ≤ maxLen) (hs1 : ∀ s ∈ l1, s.size ≤ maxLen) :
    Calls Try.prog 9 #[.slice A0 l0.length c0, .slice A1 l1.length c1, .slice A2 l2.length c2] w fun e w' => e = .returned (.bool true) ∧ Below w.heap.size w w' := by
  obtain ⟨j0, hj0, hj0n, lo0, hi0, up0⟩ := min_len l0.length 60 60 rfl
  obtain ⟨j1, hj1, hj1n, lo1, hi1, up1⟩ := min_len l1.length 60 60 rfl
  obtain ⟨j2, hj2, hj2n, lo2, hi2, up2⟩ := min_len l2.length 60 60 rfl
  obtain ⟨i9, info9', _, hsz9, _⟩ := info_parts info9
  obtain ⟨i37, info37', _, hsz37, _⟩ := info_parts info37
  obtain ⟨hcut0, hC0, hl0⟩ := cut_h Kd.string 27 9 Try.underlying27 info9' hsz9 A0 c0 l0 j0 lo0 hi0 hc0
  obtain ⟨hcut1, hC1, hl1⟩ := cut_h Kd.string 27 9 Try.underlying27 info9' hsz9 A1 c1 l1 j1 lo1 hi1 hc1
  obtain ⟨hcut2, hC2, hl2⟩ := cut_h k37 30 37 Try.underlying30 info37' hsz37 A2 c2 l2 j2 lo2 hi2 hc2
  have z0 : (l0.take j0.toNat).length ≤ 60 := by rw [List.length_take]; omega
  have z1 : (l1.take j1.toNat).length ≤ 60 := by rw [List.length_take]; omega
  have z2 : (l2.take j2.toNat).length ≤ 60 := by rw [List.length_take]; omega
  obtain ⟨ok, r, s, t, er, HF0⟩ := facts9 (l0.take j0.toNat) (l1.take j1.toNat) (l2.take j2.toNat) z0 z1 z2 (fun s hs => hs0 s (List.mem_of_mem_take hs)) (fun s hs => hs1 s (List.mem_of_mem_take hs))
  replace hC0 := hC0 w hr0
  replace hC1 := hC1 w hr1
  replace hC2 := hC2 w hr2
  generalize l0.take j0.toNat = a at *
  generalize l1.take j1.toNat = b at *
  generalize l2.take j2.toNat = l at *
  obtain ⟨⟨kt, ht⟩, ⟨k2, h2⟩, ⟨k3, h3⟩, her, ⟨k4, h4⟩, ⟨k5, h5⟩, ⟨k6, h6⟩, hgood⟩ := HF0
  have F1 := Aside0.mk ht
  have F2 := Aside0.mk h2
  have F3 := Aside0.mk h3
  have F4 := Aside0.mk h4
  have F5 := Aside0.mk h5
  have F6 := Aside0.mk h6
  have FG := Aside0.mk hgood
  have FE := Aside0.mk her
  have Ha := Aside0.mk hC0
  have Hb := Aside0.mk hC1
  have Hl := Aside0.mk hC2
  have La := Aside0.mk hl0
  have Lb := Aside0.mk hl1
  have Ll := Aside0.mk hl2
  clear hr0 hc0 hr1 hc1 hr2 hc2 hs0 hs1 ht h2 h3 h4 h5 h6 hgood her hC0 hC1 hC2 hl0 hl1 hl2 info9' hsz9 info37' hsz37
  go_enter Try.func9, Try.ntmps9
  go_wp2_with fail
  go_quiet (fail)
  have HB := Aside0.mk (pw_below_drewN (Below.refl w.heap.size w) nq)
  replace Ha := Aside0.mk (Kd.C_below Ha.out HB.out)
  replace Hb := Aside0.mk (Kd.C_below Hb.out HB.out)
  replace Hl := Aside0.mk (Kd.C_below Hl.out HB.out)
  clear hcut0 hcut1 hcut2 hj0 hj1 hj2 hj0n hj1n hj2n
  go_wp2_with fail
  refine (tripartitelaw03_To.calls k2 A2 c2 l t _ Hl.out Ll.out F2.out).mono ?_
  rintro e W1 ⟨v0_, rfl, hR, hB⟩
  replace Ha := Aside0.mk (Kd.C_below Ha.out hB)
  replace Hb := Aside0.mk (Kd.C_below Hb.out hB)
  replace Hl := Aside0.mk (Kd.C_below Hl.out hB)
  replace HB := Aside0.mk (below_step HB.out hB)
  obtain ⟨At, ct, rfl, hcX, hCX⟩ := Kd.R_reads hR
  have Ht := Aside0.mk hCX
  have Lt := Aside0.mk hcX
  clear hR hB hCX hcX
  go_wp2_with fail
  refine (edit_Of.calls k3 A0 c0 a A1 c1 b At ct t s er _ Ha.out La.out Hb.out Lb.out Ht.out Lt.out F3.out).mono ?_
  rintro e W2 ⟨v0_, rfl, hR, hB⟩
  replace Ha := Aside0.mk (Kd.C_below Ha.out hB)
  replace Hb := Aside0.mk (Kd.C_below Hb.out hB)
  replace Hl := Aside0.mk (Kd.C_below Hl.out hB)
  replace Ht := Aside0.mk (Kd.C_below Ht.out hB)
  replace HB := Aside0.mk (below_step HB.out hB)
  obtain ⟨As, cs, rfl, hcX, hCX⟩ := Kd.R_reads (Kd.S_R hR)
  have Hs := Aside0.mk hCX
  have Ls := Aside0.mk hcX
  clear hR hB hCX hcX
  go_wp2_with fail
  refine (tripartiteref04_Of.calls k4 A0 c0 a A1 c1 b A2 c2 l r ok _ Ha.out La.out Hb.out Lb.out Hl.out Ll.out F4.out).mono ?_
  rintro e W3 ⟨v0_, rfl, hR, hB⟩
  replace Ha := Aside0.mk (Kd.C_below Ha.out hB)
  replace Hb := Aside0.mk (Kd.C_below Hb.out hB)
  replace Hl := Aside0.mk (Kd.C_below Hl.out hB)
  replace Ht := Aside0.mk (Kd.C_below Ht.out hB)
  replace Hs := Aside0.mk (Kd.C_below Hs.out hB)
  replace HB := Aside0.mk (below_step HB.out hB)
  obtain ⟨Ar, cr, rfl, hcX, hCX⟩ := Kd.N_reads hR
  have Hr := Aside0.mk hCX
  have Lr := Aside0.mk hcX
  clear hR hB hCX hcX
  go_wp2_with fail
  refine (tripartitelaw04_told.calls kt true _ F1.out).mono ?_
  rintro e W4 ⟨rfl, hB⟩
  replace Ha := Aside0.mk (Kd.C_below Ha.out hB)
  replace Hb := Aside0.mk (Kd.C_below Hb.out hB)
  replace Hl := Aside0.mk (Kd.C_below Hl.out hB)
  replace Ht := Aside0.mk (Kd.C_below Ht.out hB)
  replace Hs := Aside0.mk (Kd.C_below Hs.out hB)
  replace Hr := Aside0.mk (Kd.C_below Hr.out hB)
  replace HB := Aside0.mk (below_step HB.out hB)
  clear hB
  cases ok
  · obtain rfl : er = 12 := FE.out
    go_wp2_with fail
    refine (tripartitelaw04_From.calls k5 As cs s r _ Hs.out Ls.out F5.out).mono ?_
    rintro e W5 ⟨v0_, rfl, hR, hB⟩
    replace Ha := Aside0.mk (Kd.C_below Ha.out hB)
    replace Hb := Aside0.mk (Kd.C_below Hb.out hB)
    replace Hl := Aside0.mk (Kd.C_below Hl.out hB)
    replace Ht := Aside0.mk (Kd.C_below Ht.out hB)
    replace Hs := Aside0.mk (Kd.C_below Hs.out hB)
    replace Hr := Aside0.mk (Kd.C_below Hr.out hB)
    replace HB := Aside0.mk (below_step HB.out hB)
    obtain ⟨Af, cf, rfl, hcX, hCX⟩ := Kd.R_reads (Kd.S_R hR)
    have Hf := Aside0.mk hCX
    have Lf := Aside0.mk hcX
    clear hR hB hCX hcX
    go_wp2_with fail
    refine (tripartiteref04_Same.calls k6 Af cf r Ar cr r true _ Hf.out Lf.out Hr.out Lr.out F6.out).mono ?_
    rintro e W6 ⟨rfl, hD⟩
    have hB := Drawn0.below hD
    replace Ha := Aside0.mk (Kd.C_below Ha.out hB)
    replace Hb := Aside0.mk (Kd.C_below Hb.out hB)
    replace Hl := Aside0.mk (Kd.C_below Hl.out hB)
    replace Ht := Aside0.mk (Kd.C_below Ht.out hB)
    replace Hs := Aside0.mk (Kd.C_below Hs.out hB)
    replace Hr := Aside0.mk (Kd.C_below Hr.out hB)
    replace Hf := Aside0.mk (Kd.C_below Hf.out hB)
    replace HB := Aside0.mk (below_step HB.out hB)
    clear hB hD
    go_wp2_with fail
    go_ret
    exact ⟨rfl, HB.out⟩
  · obtain rfl : er = 0 := FE.out
    go_wp2_with fail
    refine (tripartitelaw04_From.calls k5 As cs s r _ Hs.out Ls.out F5.out).mono ?_
    rintro e W5 ⟨v0_, rfl, hR, hB⟩
    replace Ha := Aside0.mk (Kd.C_below Ha.out hB)
    replace Hb := Aside0.mk (Kd.C_below Hb.out hB)
    replace Hl := Aside0.mk (Kd.C_below Hl.out hB)
    replace Ht := Aside0.mk (Kd.C_below Ht.out hB)
    replace Hs := Aside0.mk (Kd.C_below Hs.out hB)
    replace Hr := Aside0.mk (Kd.C_below Hr.out hB)
    replace HB := Aside0.mk (below_step HB.out hB)
    obtain ⟨Af, cf, rfl, hcX, hCX⟩ := Kd.R_reads (Kd.S_R hR)
    have Hf := Aside0.mk hCX
    have Lf := Aside0.mk hcX
    clear hR hB hCX hcX
    go_wp2_with fail
    refine (tripartiteref04_Same.calls k6 Af cf r Ar cr r true _ Hf.out Lf.out Hr.out Lr.out F6.out).mono ?_
    rintro e W6 ⟨rfl, hD⟩
    have hB := Drawn0.below hD
    replace Ha := Aside0.mk (Kd.C_below Ha.out hB)
    replace Hb := Aside0.mk (Kd.C_below Hb.out hB)
    replace Hl := Aside0.mk (Kd.C_below Hl.out hB)
    replace Ht := Aside0.mk (Kd.C_below Ht.out hB)
    replace Hs := Aside0.mk (Kd.C_below Hs.out hB)
    replace Hr := Aside0.mk (Kd.C_below Hr.out hB)
    replace Hf := Aside0.mk (Kd.C_below Hf.out hB)
    replace HB := Aside0.mk (below_step HB.out hB)
    clear hB hD
    obtain ⟨⟨k7, h7⟩, ⟨r2, ⟨k8, h8⟩, k9, h9⟩, ⟨d, p, h10, hd, hp⟩, ⟨k11, h11⟩, k12, h12⟩ := FG.out (by first | rfl | trivial)
    have G7 := Aside0.mk h7
    have G8 := Aside0.mk h8
    have G9 := Aside0.mk h9
    have G10 := Aside0.mk h10
    have G11 := Aside0.mk h11
    have G12 := Aside0.mk h12
    clear h7 h8 h9 h10 h11 h12
    go_wp2_with fail
    refine (edit_Apply.calls k7 As cs s A0 c0 a b 0 _ Hs.out Ls.out Ha.out La.out G7.out).mono ?_
    rintro e W7 ⟨v0_, rfl, hR, hB⟩
    replace Ha := Aside0.mk (Kd.C_below Ha.out hB)
    replace Hb := Aside0.mk (Kd.C_below Hb.out hB)
    replace Hl := Aside0.mk (Kd.C_below Hl.out hB)
    replace Ht := Aside0.mk (Kd.C_below Ht.out hB)
    replace Hs := Aside0.mk (Kd.C_below Hs.out hB)
    replace Hr := Aside0.mk (Kd.C_below Hr.out hB)
    replace Hf := Aside0.mk (Kd.C_below Hf.out hB)
    replace HB := Aside0.mk (below_step HB.out hB)
    obtain ⟨Ax, cx, rfl, hcX, hCX⟩ := Kd.R_reads hR
    have Hx := Aside0.mk hCX
    have Lx := Aside0.mk hcX
    clear hR hB hCX hcX
    go_wp2_with fail
    refine (edit_Back.calls k8 As cs s r2 _ Hs.out Ls.out G8.out).mono ?_
    rintro e W8 ⟨v0_, rfl, hR, hB⟩
    replace Ha := Aside0.mk (Kd.C_below Ha.out hB)
    replace Hb := Aside0.mk (Kd.C_below Hb.out hB)
    replace Hl := Aside0.mk (Kd.C_below Hl.out hB)
    replace Ht := Aside0.mk (Kd.C_below Ht.out hB)
    replace Hs := Aside0.mk (Kd.C_below Hs.out hB)
    replace Hr := Aside0.mk (Kd.C_below Hr.out hB)
    replace Hf := Aside0.mk (Kd.C_below Hf.out hB)
    replace Hx := Aside0.mk (Kd.C_below Hx.out hB)
    replace HB := Aside0.mk (below_step HB.out hB)
    obtain ⟨Ak, ck, rfl, hcX, hCX⟩ := Kd.R_reads (Kd.S_R hR)
    have Hk := Aside0.mk hCX
    have Lk := Aside0.mk hcX
    clear hR hB hCX hcX
    go_wp2_with fail
    refine (edit_Apply.calls k9 Ak ck r2 A1 c1 b a 0 _ Hk.out Lk.out Hb.out Lb.out G9.out).mono ?_
    rintro e W9 ⟨v0_, rfl, hR, hB⟩
    replace Ha := Aside0.mk (Kd.C_below Ha.out hB)
    replace Hb := Aside0.mk (Kd.C_below Hb.out hB)
    replace Hl := Aside0.mk (Kd.C_below Hl.out hB)
    replace Ht := Aside0.mk (Kd.C_below Ht.out hB)
    replace Hs := Aside0.mk (Kd.C_below Hs.out hB)
    replace Hr := Aside0.mk (Kd.C_below Hr.out hB)
    replace Hf := Aside0.mk (Kd.C_below Hf.out hB)
    replace Hx := Aside0.mk (Kd.C_below Hx.out hB)
    replace Hk := Aside0.mk (Kd.C_below Hk.out hB)
    replace HB := Aside0.mk (below_step HB.out hB)
    obtain ⟨Ay, cy, rfl, hcX, hCX⟩ := Kd.R_reads hR
    have Hy := Aside0.mk hCX
    have Ly := Aside0.mk hcX
    clear hR hB hCX hcX
    go_wp2_with fail
    refine (edit_Counts.calls 0 As cs s (l.length : Int) d p _ Hs.out Ls.out G10.out).mono ?_
    rintro e W10 ⟨rfl, hB⟩
    replace Ha := Aside0.mk (Kd.C_below Ha.out hB)
    replace Hb := Aside0.mk (Kd.C_below Hb.out hB)
    replace Hl := Aside0.mk (Kd.C_below Hl.out hB)
    replace Ht := Aside0.mk (Kd.C_below Ht.out hB)
    replace Hs := Aside0.mk (Kd.C_below Hs.out hB)
    replace Hr := Aside0.mk (Kd.C_below Hr.out hB)
    replace Hf := Aside0.mk (Kd.C_below Hf.out hB)
    replace Hx := Aside0.mk (Kd.C_below Hx.out hB)
    replace Hk := Aside0.mk (Kd.C_below Hk.out hB)
    replace Hy := Aside0.mk (Kd.C_below Hy.out hB)
    replace HB := Aside0.mk (below_step HB.out hB)
    clear hB
    go_wp2_with fail
    refine (tripartiteref01_Same.calls k12 Ax cx b A1 c1 b true _ Hx.out Lx.out Hb.out Lb.out G12.out).mono ?_
    rintro e W11 ⟨rfl, hD⟩
    have hB := Drawn0.below hD
    replace Ha := Aside0.mk (Kd.C_below Ha.out hB)
    replace Hb := Aside0.mk (Kd.C_below Hb.out hB)
    replace Hl := Aside0.mk (Kd.C_below Hl.out hB)
    replace Ht := Aside0.mk (Kd.C_below Ht.out hB)
    replace Hs := Aside0.mk (Kd.C_below Hs.out hB)
    replace Hr := Aside0.mk (Kd.C_below Hr.out hB)
    replace Hf := Aside0.mk (Kd.C_below Hf.out hB)
    replace Hx := Aside0.mk (Kd.C_below Hx.out hB)
    replace Hk := Aside0.mk (Kd.C_below Hk.out hB)
    replace Hy := Aside0.mk (Kd.C_below Hy.out hB)
    replace HB := Aside0.mk (below_step HB.out hB)
    clear hB hD
    go_wp2_with fail
    refine (tripartiteref01_Same.calls k11 Ay cy a A0 c0 a true _ Hy.out Ly.out Ha.out La.out G11.out).mono ?_
    rintro e W12 ⟨rfl, hD⟩
    have hB := Drawn0.below hD
    replace Ha := Aside0.mk (Kd.C_below Ha.out hB)
    replace Hb := Aside0.mk (Kd.C_below Hb.out hB)
    replace Hl := Aside0.mk (Kd.C_below Hl.out hB)
    replace Ht := Aside0.mk (Kd.C_below Ht.out hB)
    replace Hs := Aside0.mk (Kd.C_below Hs.out hB)
    replace Hr := Aside0.mk (Kd.C_below Hr.out hB)
    replace Hf := Aside0.mk (Kd.C_below Hf.out hB)
    replace Hx := Aside0.mk (Kd.C_below Hx.out hB)
    replace Hk := Aside0.mk (Kd.C_below Hk.out hB)
    replace Hy := Aside0.mk (Kd.C_below Hy.out hB)
    replace HB := Aside0.mk (below_step HB.out hB)
    clear hB hD
    have hw1 : wrap64 ((l.length : Int) + d) = (a.length : Int) := by unfold wrap64; omega
    have hw2 : wrap64 ((l.length : Int) + p) = (b.length : Int) := by unfold wrap64; omega
    clear hd hp
    go_wp2_with fail
    go_ret
    exact ⟨rfl, HB.out⟩
end Go.Proofs.Ytadafplbgophfaa.PA
end
section
/- An argument that is a slice, opened as a row that the printed functions read: of whole numbers, of strings, of bools, of pairs. -/
namespace Go.Proofs.Ytadafplbgophfaa.PA
open Go.ChangeShapes Go.WideShapes Go.Deep
open Go.RowKit Go.Proofs.YtadafplbgophfaaW.PrintWords Go.Proofs.YtadafplbgophfaaW.PrintLast Go.Proofs.YtadafplbgophfaaW.PrintMore
section
variable {H : Type} {enc : TypeId × Value → H} {P : Program} {w : World} {base : Nat} {held : Bool} {t e : TypeId} {a : Option Addr} {len cap : Nat} {d : DataW H} {ps : List MemPlace}

theorem nil_C {α : Type} (k : Kd α) (w : World) : Kd.C k w none ([] : List α).length [] := ⟨rfl, by simp, fun h => by simp at h⟩
theorem range_C {α : Type} {k : Kd α} {x : Addr} (n : Nat) (hn : n ≤ maxLen) (f : Nat → α) (h : ∀ i, i < n → ∃ c, c.length = k.sz ∧ k.K w (f i) c ∧ ∀ j u, c[j]? = some u → w.cell? (x.add (i * k.sz + j)) = some u) :
    Kd.C k w (some x) ((List.range n).map f).length ((List.range n).map f) := by
  refine ⟨rfl, by rw [List.length_map, List.length_range]; exact hn, fun _ => ⟨x, rfl, fun j p hj => ?_⟩⟩
  rw [List.getElem?_map] at hj
  obtain ⟨i, hi, rfl⟩ := Option.map_eq_some_iff.1 hj
  obtain ⟨hl, he⟩ := List.getElem?_eq_some_iff.1 hi
  rw [List.getElem_range] at he
  subst he
  rw [List.length_range] at hl
  exact h _ hl
theorem row_strs (ht : P.underlying t = some (.slice e)) (he : P.underlying e = some .string) (hc : P.cellsOf e = 1) (h : DataW.Trod enc P w base (fun _ => true) held t (.slice a len cap) d ps) :
    ∃ l : List ByteArray, len = l.length ∧ Kd.C Kd.string w a l.length l ∧ l.length ≤ maxLen ∧ l.length ≤ cap ∧ ∀ s ∈ l, s.size ≤ maxLen := by
  obtain ⟨fuel, hf⟩ := h
  rcases open_strs ht he hc hf with ⟨hcs, _⟩ | ⟨x, n, c, m, Sx, hcs, _, hl, hm, hmm, _, hx⟩
  · simp [Value.cells] at hcs
    obtain ⟨rfl, rfl, rfl⟩ := hcs
    exact ⟨[], rfl, nil_C _ _, by simp, by simp, by simp⟩
  · simp [Value.cells] at hcs
    obtain ⟨rfl, rfl, rfl⟩ := hcs
    simp only [if_true] at hmm
    subst hmm
    refine ⟨(List.range len).map Sx, by simp, range_C _ (Nat.le_trans hl hm) Sx (fun i hi => ⟨[.string (Sx i)], rfl, rfl, fun j u hu => ?_⟩), by simpa using Nat.le_trans hl hm, by simpa using hl, ?_⟩
    · obtain ⟨hj, rfl⟩ := List.getElem?_eq_some_iff.1 hu
      obtain rfl : j = 0 := by simpa using hj
      have := (hx i (Nat.lt_of_lt_of_le hi hl)).1
      simpa [Kd.string, Kd.scalar] using this
    · intro s hs
      obtain ⟨i, hi, rfl⟩ := List.mem_map.1 hs
      exact (hx i (Nat.lt_of_lt_of_le (List.mem_range.1 hi) hl)).2
theorem row_bools (ht : P.underlying t = some (.slice e)) (he : P.underlying e = some .bool) (hc : P.cellsOf e = 1) (h : DataW.Trod enc P w base (fun _ => true) held t (.slice a len cap) d ps) :
    ∃ l : List Bool, len = l.length ∧ Kd.C Kd.bool w a l.length l ∧ l.length ≤ maxLen ∧ l.length ≤ cap := by
  obtain ⟨fuel, hf⟩ := h
  rcases open_bools ht he hc hf with ⟨hcs, _⟩ | ⟨x, n, c, Sx, hcs, _, hl, hm, _, hx⟩
  · simp [Value.cells] at hcs
    obtain ⟨rfl, rfl, rfl⟩ := hcs
    exact ⟨[], rfl, nil_C _ _, by simp, by simp⟩
  · simp [Value.cells] at hcs
    obtain ⟨rfl, rfl, rfl⟩ := hcs
    refine ⟨(List.range len).map Sx, by simp, range_C _ (Nat.le_trans hl hm) Sx (fun i hi => ⟨[.bool (Sx i)], rfl, rfl, fun j u hu => ?_⟩), by simpa using Nat.le_trans hl hm, by simpa using hl⟩
    obtain ⟨hj, rfl⟩ := List.getElem?_eq_some_iff.1 hu
    obtain rfl : j = 0 := by simpa using hj
    have := hx i (Nat.lt_of_lt_of_le hi hl)
    simpa [Kd.bool, Kd.scalar] using this
theorem row_ints {q : IntKind} (ht : P.underlying t = some (.slice e)) (he : P.underlying e = some (.int q)) (hc : P.cellsOf e = 1) (h : DataW.Trod enc P w base (fun _ => true) held t (.slice a len cap) d ps) :
    ∃ l : List Int, len = l.length ∧ Kd.C (Kd.int q) w a l.length l ∧ l.length ≤ maxLen ∧ l.length ≤ cap ∧ ∀ x ∈ l, (Lit.int q x).wf = true := by
  obtain ⟨fuel, hf⟩ := h
  rcases open_ints ht he hc hf with ⟨hcs, _⟩ | ⟨x, n, c, zs, hcs, _, hl, hm, hz, _, hx, hw⟩
  · simp [Value.cells] at hcs
    obtain ⟨rfl, rfl, rfl⟩ := hcs
    exact ⟨[], rfl, nil_C _ _, by simp, by simp, by simp⟩
  · simp [Value.cells] at hcs
    obtain ⟨rfl, rfl, rfl⟩ := hcs
    simp only [if_true] at hz
    refine ⟨(List.range len).map (fun i => zs.getD i 0), by simp, range_C _ (Nat.le_trans hl hm) _ (fun i hi => ⟨[.int q (zs.getD i 0)], rfl, rfl, fun j u hu => ?_⟩), by simpa using Nat.le_trans hl hm, by simpa using hl, ?_⟩
    · obtain ⟨hj, rfl⟩ := List.getElem?_eq_some_iff.1 hu
      obtain rfl : j = 0 := by simpa using hj
      have := hx i (by rw [hz]; exact Nat.lt_of_lt_of_le hi hl)
      simpa [Kd.int, Kd.scalar] using this
    · intro s hs
      obtain ⟨i, hi, rfl⟩ := List.mem_map.1 hs
      have hi' : i < zs.length := by rw [hz]; exact Nat.lt_of_lt_of_le (List.mem_range.1 hi) hl
      have : zs.getD i 0 = zs[i] := by simp [List.getD_eq_getElem?_getD, hi']
      rw [this]
      exact hw _ (List.getElem_mem hi')
theorem row_pairs {f0 f1 : Field} (ht : P.underlying t = some (.slice e)) (he : P.underlying e = some (.struct #[f0, f1])) (ce : P.cellsOf e = 2) (o0 : f0.offset = 0) (o1 : f1.offset = 1)
    (u0 : P.underlying f0.type = some (.int .i64)) (u1 : P.underlying f1.type = some (.int .i64)) (c0 : P.cellsOf f0.type = 1) (c1 : P.cellsOf f1.type = 1) (h : DataW.Trod enc P w base (fun _ => true) held t (.slice a len cap) d ps) :
    ∃ l : List S37, len = l.length ∧ Kd.C k37 w a l.length l ∧ l.length ≤ maxLen ∧ l.length ≤ cap ∧ ∀ x ∈ l, (Lit.int .i64 x.f0).wf = true ∧ (Lit.int .i64 x.f1).wf = true := by
  obtain ⟨fuel, hf⟩ := h
  rcases open_slice_pairs ht he ce o0 o1 c0 c1 hf with ⟨hcs, _⟩ | ⟨x, n, c, m, r, V0, V1, D0, D1, P0, P1, hcs, _, hl, hm, hmm, _, hx⟩
  · simp [Value.cells] at hcs
    obtain ⟨rfl, rfl, rfl⟩ := hcs
    exact ⟨[], rfl, nil_C _ _, by simp, by simp, by simp⟩
  · simp [Value.cells] at hcs
    obtain ⟨rfl, rfl, rfl⟩ := hcs
    simp only [if_true] at hmm
    subst hmm
    have each : ∀ i, i < len → ∃ s : S37, V0 i = .int .i64 s.f0 ∧ V1 i = .int .i64 s.f1 ∧ (Lit.int .i64 s.f0).wf = true ∧ (Lit.int .i64 s.f1).wf = true := by
      intro i hi
      obtain ⟨_, _, h0, h1⟩ := hx i (Nat.lt_of_lt_of_le hi hl)
      obtain ⟨p, e0, _, w0⟩ := DataW.trod_int u0 h0
      obtain ⟨q, e1, _, w1⟩ := DataW.trod_int u1 h1
      exact ⟨⟨p, q⟩, by simpa using e0, by simpa using e1, w0, w1⟩
    haveI : Inhabited S37 := ⟨⟨0, 0⟩⟩
    obtain ⟨Sx, hS⟩ := choose_lt each
    refine ⟨(List.range len).map Sx, by simp, range_C _ (Nat.le_trans hl hm) Sx (fun i hi => ⟨_, rfl, k37_mk w (Sx i), fun j u hu => ?_⟩), by simpa using Nat.le_trans hl hm, by simpa using hl, ?_⟩
    · obtain ⟨e0, e1, _, _⟩ := hx i (Nat.lt_of_lt_of_le hi hl)
      rw [(hS i hi).1] at e0
      rw [(hS i hi).2.1] at e1
      match j, hu with
      | 0, hu => simp at hu; subst hu; exact e0
      | 1, hu => simp at hu; subst hu; exact e1
    · intro s hs
      obtain ⟨i, hi, rfl⟩ := List.mem_map.1 hs
      exact (hS i (List.mem_range.1 hi)).2.2
end
end Go.Proofs.Ytadafplbgophfaa.PA
end
