/- Part 4 of what the row of the law BuildDocs rests on: walks of functions, and plain lemmas (in part printed by the kit's print, what is not reached left out). -/
import Derived.Test.YtadafplbgophfaabuildDocs3
import Derived.Laws.IdiomArrays
import Derived.WideShapes
import Derived.ChangeShapes
import Derived.Deep.Strs
import Derived.Deep.Grids
import Derived.Deep.SlicePairs
import Derived.OpenShut
import Derived.SizedLaws
set_option linter.unusedVariables false
set_option linter.unusedSimpArgs false
section
namespace Go.Proofs.Ytadafplbgophfaa.PA
open Go.RowKit Go.Proofs.YtadafplbgophfaaW.PrintWords Go.Proofs.YtadafplbgophfaaW.PrintLast Go.Proofs.YtadafplbgophfaaW.PrintMore
attribute [local go_sem] Xx Xz Yk Yl Xj Xk Xy Ya
def Yj.f (a5 : List ByteArray) (a4 : List ByteArray) (a3 : List ByteArray) : Option (List ByteArray × List ByteArray × List ByteArray) := (some (([] : List ByteArray) : List ByteArray)).bind fun d7 => (if d7.length + a5.length < 8796093022208 then ((some (([] : List ByteArray) : List ByteArray)).bind fun d4 => (if d4.length + a4.length < 8796093022208 then ((some (([] : List ByteArray) : List ByteArray)).bind fun d3 => (if d3.length + a3.length < 8796093022208 then (some ((d7 ++ a5), (d4 ++ a4), (d3 ++ a3))) else (none))) else (none))) else (none))
def Yj.T1 : Bool × List (List Nat × List Nat) := (true, [([], []), ([], []), ([1], [1]), ([0, 2], [0, 2]), ([], []), ([], []), ([5], [5]), ([4, 6, 3], [4, 6]), ([], []), ([], []), ([9], [9]), ([8, 10, 7], [8, 10]), ([3, 7, 11], [3, 7, 11]), ([12, 11, 0, 1, 2, 3, 4, 5, 6, 7, 8, 9, 10, 11, 12], [12])])
def Yj.B1 : List Nat := [0, 0, 2, 7, 0, 0, 32, 127, 0, 0, 512, 2047, 4095, 8191]
theorem Yj.tab1 : Vx .any (Jb Try.f74 1) = Yj.T1 := by kernel_rfl
theorem Yj.bits1 : Vk Yj.T1.2 Yj.B1 = true := by kernel_rfl
set_option maxHeartbeats 8000000 in
set_option maxRecDepth 100000 in
theorem Yj.calls (a7 : Option Addr) (a8 : Nat) (a5 : List ByteArray) (a9 : Option Addr) (b0 : Nat) (a4 : List ByteArray) (b1 : Option Addr) (b2 : Nat) (a3 : List ByteArray) (r1 : List ByteArray) (r2 : List ByteArray) (r3 : List ByteArray) (w : World) (hr0_0 : Kd.C Kd.string w a7 a5.length a5) (hc0_0 : a5.length ≤ a8) (hr0_1 : Kd.C Kd.string w a9 a4.length a4) (hc0_1 : a4.length ≤ b0) (hr0_2 : Kd.C Kd.string w b1 a3.length a3) (hc0_2 : a3.length ≤ b2) (h : Yj.f a5 a4 a3 = some (r1, r2, r3)) :
  Calls Try.prog 74 #[.agg #[.slice a7 a5.length a8, .slice a9 a4.length b0, .slice b1 a3.length b2]] w fun e w' => ∃ v0_ v1_ v2_ : Value, e = .returned (.agg #[v0_, v1_, v2_]) ∧ Kd.R Kd.string 9 w' w.heap.size (fun k_ => some k_ ≠ (v1_ : Value).ownBlock ∧ some k_ ≠ (v2_ : Value).ownBlock) v0_ r1 ∧ Kd.R Kd.string 9 w' w.heap.size (fun k_ => some k_ ≠ (v0_ : Value).ownBlock ∧ some k_ ≠ (v2_ : Value).ownBlock) v1_ r2 ∧ Kd.R Kd.string 9 w' w.heap.size (fun k_ => some k_ ≠ (v0_ : Value).ownBlock ∧ some k_ ≠ (v1_ : Value).ownBlock) v2_ r3 ∧ Below w.heap.size w w' := by
 have hu107 := Try.underlying107; have hu112 := Try.underlying112; have f3 := Qa.mk hr0_0; have g8 := Qa.mk hc0_0; clear hr0_0 hc0_0; have g1 := Qa.mk hr0_1; have g9 := Qa.mk hc0_1; clear hr0_1 hc0_1; have g5 := Qa.mk hr0_2; have h0 := Qa.mk hc0_2; clear hr0_2 hc0_2; have HB := Qa.mk (Below.refl w.heap.size w); have H : ((some (([] : List ByteArray) : List ByteArray)).bind fun d7 => (if d7.length + a5.length < 8796093022208 then ((some (([] : List ByteArray) : List ByteArray)).bind fun d4 => (if d4.length + a4.length < 8796093022208 then ((some (([] : List ByteArray) : List ByteArray)).bind fun d3 => (if d3.length + a3.length < 8796093022208 then (some ((d7 ++ a5), (d4 ++ a4), (d3 ++ a3))) else (none))) else (none))) else (none))) = some (r1, r2, r3) := h; clear h; obtain ⟨d7, e5⟩ : ∃ y_ : List ByteArray, y_ = (([] : List ByteArray)) := ⟨_, rfl⟩
 replace H : (if d7.length + a5.length < 8796093022208 then ((some (([] : List ByteArray) : List ByteArray)).bind fun d4 => (if d4.length + a4.length < 8796093022208 then ((some (([] : List ByteArray) : List ByteArray)).bind fun d3 => (if d3.length + a3.length < 8796093022208 then (some ((d7 ++ a5), (d4 ++ a4), (d3 ++ a3))) else (none))) else (none))) else (none)) = some (r1, r2, r3) := by first | (rw [e5]; with_reducible exact H) | (have H2_ := (Option.bind_some _ _).symm.trans H; rw [e5]; with_reducible exact H2_) | (have H2_ := (Option.bind_some _ _).symm.trans H; with_reducible exact H2_) | with_reducible exact H | (rw [e5]; exact H) | exact H
 have e3 := Qa.mk e5; clear e5
 by_cases c2 : d7.length + a5.length < 8796093022208
 ·rw [if_pos c2] at H
  have f8 := Qa.mk c2; clear c2; obtain ⟨d6, e6⟩ : ∃ y_ : List ByteArray, y_ = (d7 ++ a5) := ⟨_, rfl⟩
  replace H : ((some (([] : List ByteArray) : List ByteArray)).bind fun d4 => (if d4.length + a4.length < 8796093022208 then ((some (([] : List ByteArray) : List ByteArray)).bind fun d3 => (if d3.length + a3.length < 8796093022208 then (some (d6, (d4 ++ a4), (d3 ++ a3))) else (none))) else (none))) = some (r1, r2, r3) := by first | (rw [e6]; with_reducible exact H) | (have H2_ := (Option.bind_some _ _).symm.trans H; rw [e6]; with_reducible exact H2_) | (have H2_ := (Option.bind_some _ _).symm.trans H; with_reducible exact H2_) | with_reducible exact H | (rw [e6]; exact H) | exact H
  have f4 := Qa.mk e6; clear e6; obtain ⟨d4, e7⟩ : ∃ y_ : List ByteArray, y_ = (([] : List ByteArray)) := ⟨_, rfl⟩
  replace H : (if d4.length + a4.length < 8796093022208 then ((some (([] : List ByteArray) : List ByteArray)).bind fun d3 => (if d3.length + a3.length < 8796093022208 then (some (d6, (d4 ++ a4), (d3 ++ a3))) else (none))) else (none)) = some (r1, r2, r3) := by first | (rw [e7]; with_reducible exact H) | (have H2_ := (Option.bind_some _ _).symm.trans H; rw [e7]; with_reducible exact H2_) | (have H2_ := (Option.bind_some _ _).symm.trans H; with_reducible exact H2_) | with_reducible exact H | (rw [e7]; exact H) | exact H
  have e0 := Qa.mk e7; clear e7
  by_cases c3 : d4.length + a4.length < 8796093022208
  ·rw [if_pos c3] at H
   have g4 := Qa.mk c3; clear c3; obtain ⟨e2, e8⟩ : ∃ y_ : List ByteArray, y_ = (d4 ++ a4) := ⟨_, rfl⟩
   replace H : ((some (([] : List ByteArray) : List ByteArray)).bind fun d3 => (if d3.length + a3.length < 8796093022208 then (some (d6, e2, (d3 ++ a3))) else (none))) = some (r1, r2, r3) := by first | (rw [e8]; with_reducible exact H) | (have H2_ := (Option.bind_some _ _).symm.trans H; rw [e8]; with_reducible exact H2_) | (have H2_ := (Option.bind_some _ _).symm.trans H; with_reducible exact H2_) | with_reducible exact H | (rw [e8]; exact H) | exact H
   have g2 := Qa.mk e8; clear e8; obtain ⟨d3, e9⟩ : ∃ y_ : List ByteArray, y_ = (([] : List ByteArray)) := ⟨_, rfl⟩
   replace H : (if d3.length + a3.length < 8796093022208 then (some (d6, e2, (d3 ++ a3))) else (none)) = some (r1, r2, r3) := by first | (rw [e9]; with_reducible exact H) | (have H2_ := (Option.bind_some _ _).symm.trans H; rw [e9]; with_reducible exact H2_) | (have H2_ := (Option.bind_some _ _).symm.trans H; with_reducible exact H2_) | with_reducible exact H | (rw [e9]; exact H) | exact H
   have d9 := Qa.mk e9; clear e9
   by_cases c4 : d3.length + a3.length < 8796093022208
   ·rw [if_pos c4] at H
    have g7 := Qa.mk c4; clear c4; obtain ⟨f5, f0⟩ : ∃ y_ : List ByteArray, y_ = (d3 ++ a3) := ⟨_, rfl⟩
    replace H : (some (d6, e2, f5)) = some (r1, r2, r3) := by first | (rw [f0]; with_reducible exact H) | (have H2_ := (Option.bind_some _ _).symm.trans H; rw [f0]; with_reducible exact H2_) | (have H2_ := (Option.bind_some _ _).symm.trans H; with_reducible exact H2_) | with_reducible exact H | (rw [f0]; exact H) | exact H
    have g6 := Qa.mk f0; clear f0
    simp only [Option.some.injEq, Prod.mk.injEq] at H
    obtain ⟨rfl, rfl, rfl⟩ := H
    go_enter Try.func74, Try.ntmps74
    try go_wp2_with (first | ((with_reducible refine Zd (N := 1) rfl ?_); refine Zc ?hg (N := 1) ?hd (cs := #[.slice a7 a5.length a8, .slice a9 a4.length b0, .slice b1 a3.length b2]) (t := 107) ?hr ?_; (case hd => rfl); (case hg => rfl); (case hr => first | (go_simp; done) | (go_simp; rfl)); intro a2 hg w5 hbox hb; have n0_ := Qa.mk (Qj bw_ hb); have n1_ := Qa.mk (hbox); have n2_ := Qa.mk ((gw_ hg : w.heap.size ≤ a2)); have n3_ := Qa.mk ((gw_ hg : w.heap.size ≤ a2)); clear HB; have HB := n0_; have a0 := n1_; have h2 := n2_; have GE101 := n3_; clear n0_ n1_ n2_ n3_; clear hb hbox hg) | ((with_reducible refine Zd (N := 2) rfl ?_); refine Zc ?hg (N := 2) ?hd (cs := #[.slice none 0 0, .slice none 0 0, .slice none 0 0]) (t := 112) ?hr ?_; (case hd => rfl); (case hg => rfl); (case hr => first | (go_simp; done) | (go_simp; rfl)); intro a6 hg w6 hbox hb; have n0_ := Qa.mk (Qq (g := a2) (o := .cells #[.slice a7 a5.length a8, .slice a9 a4.length b0, .slice b1 a3.length b2] 107 (0, 0)) (bk_ a0.out) hb); have n1_ := Qa.mk (Qj bw_ hb); have n2_ := Qa.mk (hbox); have n3_ := Qa.mk ((gw_ hg : w.heap.size ≤ a6)); have n4_ := Qa.mk ((gw_ hg : w.heap.size ≤ a6)); have n5_ := Qa.mk ((by rw [hg]; exact Nat.ne_of_lt (Zu (g := a2) (o := .cells #[.slice a7 a5.length a8, .slice a9 a4.length b0, .slice b1 a3.length b2] 107 (0, 0)) (bk_ a0.out)) : a2 ≠ a6)); have n6_ := Qa.mk ((by rw [hg]; exact Nat.ne_of_gt (Zu (g := a2) (o := .cells #[.slice a7 a5.length a8, .slice a9 a4.length b0, .slice b1 a3.length b2] 107 (0, 0)) (bk_ a0.out)) : a6 ≠ a2)); clear a0; clear HB; have a0 := n0_; have HB := n1_; have a1 := n2_; have h3 := n3_; have GE102 := n4_; have d5 := n5_; have e4 := n6_; clear n0_ n1_ n2_ n3_ n4_ n5_ n6_; clear hb hbox hg))
    have n0_ := Qa.mk (Qp a0.out); have n1_ := Qa.mk (Qp a1.out); have n2_ := Qa.mk (Qi HB.out); clear a0; clear a1; clear HB; have a0 := n0_; have a1 := n1_; have HB := n2_; clear n0_ n1_ n2_; refine Ug (n := 14) (S := fun w' => w'.cell? ⟨a2, 0, none⟩ = some (.slice a7 a5.length a8) ∧ w'.cell? ⟨a2, 1, none⟩ = some (.slice a9 a4.length b0) ∧ w'.cell? ⟨a2, 2, none⟩ = some (.slice b1 a3.length b2)) (ds := []) (bz_ 14 0) (by kernel_rfl) rfl rfl (Kj a0.out) (fun hHeld => ?_); refine Va Yj.tab1 Yj.bits1 (fun HT_ HW_ => ?_)
    generalize w6.drew = w7 at a0 a1 HB hHeld ⊢
    refine pu_ (i := 1) (N := some 4) #[false, true, false, false, false, false, false, false, false, false, false, false, false, false] ?_; refine pu_ (i := 5) (N := some 8) #[false, true, false, false, false, true, false, false, false, false, false, false, false, false] ?_; refine pu_ (i := 9) (N := some 12) #[false, true, false, false, false, true, false, false, false, true, false, false, false, false] ?_; refine ta_ (i := 2) (N := some 5) #[false, true, true, false, false, true, false, false, false, true, false, false, false, false] ?_; refine ta_ (i := 6) (N := some 9) #[false, true, true, false, false, true, true, false, false, true, false, false, false, false] ?_; refine ta_ (i := 10) (N := some 13) #[false, true, true, false, false, true, true, false, false, true, true, false, false, false] ?_; refine Jl (σ := Value × Value × Value × Value × Value) 3 (bz_ 14 2047) (fun s_ => [(3, s_.1), (6, s_.2.1), (7, s_.2.2.1), (10, s_.2.2.2.1), (11, s_.2.2.2.2)]) (fun s_ w' => (w'.cell? ⟨a2, 0, none⟩ = some (.slice a7 a5.length a8) ∧ w'.cell? ⟨a2, 1, none⟩ = some (.slice a9 a4.length b0) ∧ w'.cell? ⟨a2, 2, none⟩ = some (.slice b1 a3.length b2)) ∧ (Kd.R Kd.string 9 w' w.heap.size (fun k_ => some k_ ≠ (s_.2.2.2.1 : Value).ownBlock ∧ some k_ ≠ (s_.2.2.2.2 : Value).ownBlock) s_.2.1 d6) ∧ (Kd.R Kd.string 9 w' w.heap.size (fun k_ => some k_ ≠ (s_.2.1 : Value).ownBlock ∧ some k_ ≠ (s_.2.2.2.2 : Value).ownBlock) s_.2.2.2.1 e2) ∧ (Kd.R Kd.string 9 w' w.heap.size (fun k_ => some k_ ≠ (s_.2.1 : Value).ownBlock ∧ some k_ ≠ (s_.2.2.2.1 : Value).ownBlock) s_.2.2.2.2 d3) ∧ (w'.heap[a2]? = some (.cells #[.slice a7 a5.length a8, .slice a9 a4.length b0, .slice b1 a3.length b2] 107 (0, 0))) ∧ (w'.heap[a6]? = some (.cells #[.slice none 0 0, .slice none 0 0, .slice none 0 0] 112 (0, 0))) ∧ (Below w.heap.size w w')) ?_ ?_; rotate_left
    ·intro hJ0_3_4_7_8
     refine Jl (σ := Value × Value × Value × Value) 4 (bz_ 14 1791) (fun s_ => [(3, s_.1), (6, s_.2.1), (7, s_.2.2.1), (10, s_.2.2.2)]) (fun s_ w' => (w'.cell? ⟨a2, 0, none⟩ = some (.slice a7 a5.length a8) ∧ w'.cell? ⟨a2, 1, none⟩ = some (.slice a9 a4.length b0) ∧ w'.cell? ⟨a2, 2, none⟩ = some (.slice b1 a3.length b2)) ∧ (Kd.R Kd.string 9 w' w.heap.size (fun k_ => some k_ ≠ (s_.2.2.2 : Value).ownBlock) s_.2.1 d6) ∧ (Kd.R Kd.string 9 w' w.heap.size (fun k_ => some k_ ≠ (s_.2.1 : Value).ownBlock) s_.2.2.2 e2) ∧ (w'.heap[a2]? = some (.cells #[.slice a7 a5.length a8, .slice a9 a4.length b0, .slice b1 a3.length b2] 107 (0, 0))) ∧ (w'.heap[a6]? = some (.cells #[.slice none 0 0, .slice none 0 0, .slice none 0 0] 112 (0, 0))) ∧ (Below w.heap.size w w')) ?_ ?_; rotate_left
     ·intro hJ0_3_4_7
      refine Jl (σ := Value × Value × Value × Value) 4 (bz_ 14 1919) (fun s_ => [(3, s_.1), (6, s_.2.1), (7, s_.2.2.1), (11, s_.2.2.2)]) (fun s_ w' => (w'.cell? ⟨a2, 0, none⟩ = some (.slice a7 a5.length a8) ∧ w'.cell? ⟨a2, 1, none⟩ = some (.slice a9 a4.length b0) ∧ w'.cell? ⟨a2, 2, none⟩ = some (.slice b1 a3.length b2)) ∧ (Kd.R Kd.string 9 w' w.heap.size (fun k_ => some k_ ≠ (s_.2.2.1 : Value).ownBlock ∧ some k_ ≠ (s_.2.2.2 : Value).ownBlock) s_.2.1 d6) ∧ (Kd.R Kd.string 9 w' w.heap.size (fun k_ => some k_ ≠ (s_.2.1 : Value).ownBlock ∧ some k_ ≠ (s_.2.2.2 : Value).ownBlock) s_.2.2.1 d4) ∧ (Kd.R Kd.string 9 w' w.heap.size (fun k_ => some k_ ≠ (s_.2.1 : Value).ownBlock ∧ some k_ ≠ (s_.2.2.1 : Value).ownBlock) s_.2.2.2 d3) ∧ (w'.heap[a2]? = some (.cells #[.slice a7 a5.length a8, .slice a9 a4.length b0, .slice b1 a3.length b2] 107 (0, 0))) ∧ (w'.heap[a6]? = some (.cells #[.slice none 0 0, .slice none 0 0, .slice none 0 0] 112 (0, 0))) ∧ (Below w.heap.size w w')) ?_ ?_; rotate_left
      ·intro hJ0_3_4_8
       refine Jl (σ := Value × Value × Value) 5 (bz_ 14 1663) (fun s_ => [(3, s_.1), (6, s_.2.1), (7, s_.2.2)]) (fun s_ w' => (w'.cell? ⟨a2, 0, none⟩ = some (.slice a7 a5.length a8) ∧ w'.cell? ⟨a2, 1, none⟩ = some (.slice a9 a4.length b0) ∧ w'.cell? ⟨a2, 2, none⟩ = some (.slice b1 a3.length b2)) ∧ (Kd.R Kd.string 9 w' w.heap.size (fun k_ => some k_ ≠ (s_.2.2 : Value).ownBlock) s_.2.1 d6) ∧ (Kd.R Kd.string 9 w' w.heap.size (fun k_ => some k_ ≠ (s_.2.1 : Value).ownBlock) s_.2.2 d4) ∧ (w'.heap[a2]? = some (.cells #[.slice a7 a5.length a8, .slice a9 a4.length b0, .slice b1 a3.length b2] 107 (0, 0))) ∧ (w'.heap[a6]? = some (.cells #[.slice none 0 0, .slice none 0 0, .slice none 0 0] 112 (0, 0))) ∧ (Below w.heap.size w w')) ?_ ?_; rotate_left
       ·intro hJ0_3_4
        refine Jl (σ := Value × Value × Value) 5 (bz_ 14 1903) (fun s_ => [(3, s_.1), (6, s_.2.1), (11, s_.2.2)]) (fun s_ w' => (w'.cell? ⟨a2, 0, none⟩ = some (.slice a7 a5.length a8) ∧ w'.cell? ⟨a2, 1, none⟩ = some (.slice a9 a4.length b0) ∧ w'.cell? ⟨a2, 2, none⟩ = some (.slice b1 a3.length b2)) ∧ (Kd.R Kd.string 9 w' w.heap.size (fun k_ => some k_ ≠ (s_.2.2 : Value).ownBlock) s_.2.1 d6) ∧ (Kd.R Kd.string 9 w' w.heap.size (fun k_ => some k_ ≠ (s_.2.1 : Value).ownBlock) s_.2.2 d3) ∧ (w'.heap[a2]? = some (.cells #[.slice a7 a5.length a8, .slice a9 a4.length b0, .slice b1 a3.length b2] 107 (0, 0))) ∧ (w'.heap[a6]? = some (.cells #[.slice none 0 0, .slice none 0 0, .slice none 0 0] 112 (0, 0))) ∧ (Below w.heap.size w w')) ?_ ?_; rotate_left
        ·intro hJ0_3_8
         refine Jl (σ := Value × Value × Value) 5 (bz_ 14 1911) (fun s_ => [(3, s_.1), (7, s_.2.1), (11, s_.2.2)]) (fun s_ w' => (w'.cell? ⟨a2, 0, none⟩ = some (.slice a7 a5.length a8) ∧ w'.cell? ⟨a2, 1, none⟩ = some (.slice a9 a4.length b0) ∧ w'.cell? ⟨a2, 2, none⟩ = some (.slice b1 a3.length b2)) ∧ (Kd.R Kd.string 9 w' w.heap.size (fun k_ => some k_ ≠ (s_.2.1 : Value).ownBlock ∧ some k_ ≠ (s_.2.2 : Value).ownBlock) s_.1 d7) ∧ (Kd.R Kd.string 9 w' w.heap.size (fun k_ => some k_ ≠ (s_.1 : Value).ownBlock ∧ some k_ ≠ (s_.2.2 : Value).ownBlock) s_.2.1 d4) ∧ (Kd.R Kd.string 9 w' w.heap.size (fun k_ => some k_ ≠ (s_.1 : Value).ownBlock ∧ some k_ ≠ (s_.2.1 : Value).ownBlock) s_.2.2 d3) ∧ (w'.heap[a2]? = some (.cells #[.slice a7 a5.length a8, .slice a9 a4.length b0, .slice b1 a3.length b2] 107 (0, 0))) ∧ (w'.heap[a6]? = some (.cells #[.slice none 0 0, .slice none 0 0, .slice none 0 0] 112 (0, 0))) ∧ (Below w.heap.size w w')) ?_ ?_; rotate_left
         ·intro hJ0_4_8
          refine Jl (σ := Value × Value) 6 (bz_ 14 1647) (fun s_ => [(3, s_.1), (6, s_.2)]) (fun s_ w' => (w'.cell? ⟨a2, 0, none⟩ = some (.slice a7 a5.length a8) ∧ w'.cell? ⟨a2, 1, none⟩ = some (.slice a9 a4.length b0) ∧ w'.cell? ⟨a2, 2, none⟩ = some (.slice b1 a3.length b2)) ∧ (Kd.R Kd.string 9 w' w.heap.size (fun _ => True) s_.2 d6) ∧ (w'.heap[a2]? = some (.cells #[.slice a7 a5.length a8, .slice a9 a4.length b0, .slice b1 a3.length b2] 107 (0, 0))) ∧ (w'.heap[a6]? = some (.cells #[.slice none 0 0, .slice none 0 0, .slice none 0 0] 112 (0, 0))) ∧ (Below w.heap.size w w')) ?_ ?_; rotate_left
          ·intro hJ0_3
           refine Jl (σ := Value × Value) 6 (bz_ 14 1655) (fun s_ => [(3, s_.1), (7, s_.2)]) (fun s_ w' => (w'.cell? ⟨a2, 0, none⟩ = some (.slice a7 a5.length a8) ∧ w'.cell? ⟨a2, 1, none⟩ = some (.slice a9 a4.length b0) ∧ w'.cell? ⟨a2, 2, none⟩ = some (.slice b1 a3.length b2)) ∧ (Kd.R Kd.string 9 w' w.heap.size (fun k_ => some k_ ≠ (s_.2 : Value).ownBlock) s_.1 d7) ∧ (Kd.R Kd.string 9 w' w.heap.size (fun k_ => some k_ ≠ (s_.1 : Value).ownBlock) s_.2 d4) ∧ (w'.heap[a2]? = some (.cells #[.slice a7 a5.length a8, .slice a9 a4.length b0, .slice b1 a3.length b2] 107 (0, 0))) ∧ (w'.heap[a6]? = some (.cells #[.slice none 0 0, .slice none 0 0, .slice none 0 0] 112 (0, 0))) ∧ (Below w.heap.size w w')) ?_ ?_; rotate_left
           ·intro hJ0_4
            refine Jl (σ := Value × Value) 6 (bz_ 14 1895) (fun s_ => [(3, s_.1), (11, s_.2)]) (fun s_ w' => (w'.cell? ⟨a2, 0, none⟩ = some (.slice a7 a5.length a8) ∧ w'.cell? ⟨a2, 1, none⟩ = some (.slice a9 a4.length b0) ∧ w'.cell? ⟨a2, 2, none⟩ = some (.slice b1 a3.length b2)) ∧ (Kd.R Kd.string 9 w' w.heap.size (fun k_ => some k_ ≠ (s_.2 : Value).ownBlock) s_.1 d7) ∧ (Kd.R Kd.string 9 w' w.heap.size (fun k_ => some k_ ≠ (s_.1 : Value).ownBlock) s_.2 d3) ∧ (w'.heap[a2]? = some (.cells #[.slice a7 a5.length a8, .slice a9 a4.length b0, .slice b1 a3.length b2] 107 (0, 0))) ∧ (w'.heap[a6]? = some (.cells #[.slice none 0 0, .slice none 0 0, .slice none 0 0] 112 (0, 0))) ∧ (Below w.heap.size w w')) ?_ ?_; rotate_left
            ·intro hJ0_8
             refine Jl (σ := Value × Value) 6 (bz_ 14 1910) (fun s_ => [(7, s_.1), (11, s_.2)]) (fun s_ w' => (w'.cell? ⟨a2, 0, none⟩ = some (.slice a7 a5.length a8) ∧ w'.cell? ⟨a2, 1, none⟩ = some (.slice a9 a4.length b0) ∧ w'.cell? ⟨a2, 2, none⟩ = some (.slice b1 a3.length b2)) ∧ (Kd.R Kd.string 9 w' w.heap.size (fun k_ => some k_ ≠ (s_.2 : Value).ownBlock) s_.1 d4) ∧ (Kd.R Kd.string 9 w' w.heap.size (fun k_ => some k_ ≠ (s_.1 : Value).ownBlock) s_.2 d3) ∧ (w'.heap[a2]? = some (.cells #[.slice a7 a5.length a8, .slice a9 a4.length b0, .slice b1 a3.length b2] 107 (0, 0))) ∧ (w'.heap[a6]? = some (.cells #[.slice none 0 0, .slice none 0 0, .slice none 0 0] 112 (0, 0))) ∧ (Below w.heap.size w w')) ?_ ?_; rotate_left
             ·intro hJ4_8
              refine Jl (σ := Value) 7 (bz_ 14 1639) (fun s_ => [(3, s_)]) (fun s_ w' => (w'.cell? ⟨a2, 0, none⟩ = some (.slice a7 a5.length a8) ∧ w'.cell? ⟨a2, 1, none⟩ = some (.slice a9 a4.length b0) ∧ w'.cell? ⟨a2, 2, none⟩ = some (.slice b1 a3.length b2)) ∧ (Kd.R Kd.string 9 w' w.heap.size (fun _ => True) s_ d7) ∧ (w'.heap[a2]? = some (.cells #[.slice a7 a5.length a8, .slice a9 a4.length b0, .slice b1 a3.length b2] 107 (0, 0))) ∧ (w'.heap[a6]? = some (.cells #[.slice none 0 0, .slice none 0 0, .slice none 0 0] 112 (0, 0))) ∧ (Below w.heap.size w w')) ?_ ?_; rotate_left
              ·intro hJ0
               refine Jl (σ := Value) 7 (bz_ 14 1654) (fun s_ => [(7, s_)]) (fun s_ w' => (w'.cell? ⟨a2, 0, none⟩ = some (.slice a7 a5.length a8) ∧ w'.cell? ⟨a2, 1, none⟩ = some (.slice a9 a4.length b0) ∧ w'.cell? ⟨a2, 2, none⟩ = some (.slice b1 a3.length b2)) ∧ (Kd.R Kd.string 9 w' w.heap.size (fun _ => True) s_ d4) ∧ (w'.heap[a2]? = some (.cells #[.slice a7 a5.length a8, .slice a9 a4.length b0, .slice b1 a3.length b2] 107 (0, 0))) ∧ (w'.heap[a6]? = some (.cells #[.slice none 0 0, .slice none 0 0, .slice none 0 0] 112 (0, 0))) ∧ (Below w.heap.size w w')) ?_ ?_; rotate_left
               ·intro hJ4
                refine Jl (σ := Value) 7 (bz_ 14 1894) (fun s_ => [(11, s_)]) (fun s_ w' => (w'.cell? ⟨a2, 0, none⟩ = some (.slice a7 a5.length a8) ∧ w'.cell? ⟨a2, 1, none⟩ = some (.slice a9 a4.length b0) ∧ w'.cell? ⟨a2, 2, none⟩ = some (.slice b1 a3.length b2)) ∧ (Kd.R Kd.string 9 w' w.heap.size (fun _ => True) s_ d3) ∧ (w'.heap[a2]? = some (.cells #[.slice a7 a5.length a8, .slice a9 a4.length b0, .slice b1 a3.length b2] 107 (0, 0))) ∧ (w'.heap[a6]? = some (.cells #[.slice none 0 0, .slice none 0 0, .slice none 0 0] 112 (0, 0))) ∧ (Below w.heap.size w w')) ?_ ?_; rotate_left
                ·intro hJ8
                 refine Qkm (i := 0) (j := 4) (k := 8) (Ni := some 3) (Nj := some 7) (Nk := some 11) (bz_ 14 1639) (bz_ 14 1654) (bz_ 14 1894) rfl rfl rfl rfl rfl rfl (Qjs HT_.out (by kernel_rfl)) (by decide) (by decide) (by decide) (fun K hK => ?_) (fun K hK => ?_) (fun K hK => ?_)
                 ·skip
                  refine Kd.R_lit_step Kd.string _ 9 ?hg (N := 3) ?hd (xs := ([] : List ByteArray)) (inner := []) (ok := fun _ => True) (okp := fun _ => True) ?hr ?hp (fun _ hk => hk) trivial (Below.refl _ _) (Nat.le_refl _) (by simp) ?_; (case hd => rfl); (case hg => rfl); (case hr => first | (go_simp; done) | (go_simp; rfl)); (case hp => exact (Yi.none _ _)); intro b9 w8 ho9 hb hg_ hnew_; clear hg_ hnew_
                  (first | rw [← e3.out] at ho9 | (simp only [Int.reduceToNat] at ho9; rw [← e3.out] at ho9))
                  have n0_ := Qa.mk (Kd.R_lower ho9 (Qo bw_)); have n1_ := Qa.mk (Qq (g := a2) (o := .cells #[.slice a7 a5.length a8, .slice a9 a4.length b0, .slice b1 a3.length b2] 107 (0, 0)) (bk_ a0.out) hb); have n2_ := Qa.mk (Qq (g := a6) (o := .cells #[.slice none 0 0, .slice none 0 0, .slice none 0 0] 112 (0, 0)) (bk_ a1.out) hb); have n3_ := Qa.mk (Qj bw_ hb); clear a0; clear a1; clear HB; have b6 := n0_; have a0 := n1_; have a1 := n2_; have HB := n3_; clear n0_ n1_ n2_ n3_; clear hb ho9; refine hK.out _ _ (Kj a0.out) (fun hHeld => ?_); clear hK K; refine nN_ 3 ?_; exact np_ (hJ0 (b9) _ ⟨hHeld, (ro_ b6.out), (bk_ a0.out), (bk_ a1.out), bw_⟩)
                 ·skip
                  refine Kd.R_lit_step Kd.string _ 9 ?hg (N := 7) ?hd (xs := ([] : List ByteArray)) (inner := []) (ok := fun _ => True) (okp := fun _ => True) ?hr ?hp (fun _ hk => hk) trivial (Below.refl _ _) (Nat.le_refl _) (by simp) ?_; (case hd => rfl); (case hg => rfl); (case hr => first | (go_simp; done) | (go_simp; rfl)); (case hp => exact (Yi.none _ _)); intro b8 w8 ho9 hb hg_ hnew_; clear hg_ hnew_
                  (first | rw [← e0.out] at ho9 | (simp only [Int.reduceToNat] at ho9; rw [← e0.out] at ho9))
                  have n0_ := Qa.mk (Kd.R_lower ho9 (Qo bw_)); have n1_ := Qa.mk (Qq (g := a2) (o := .cells #[.slice a7 a5.length a8, .slice a9 a4.length b0, .slice b1 a3.length b2] 107 (0, 0)) (bk_ a0.out) hb); have n2_ := Qa.mk (Qq (g := a6) (o := .cells #[.slice none 0 0, .slice none 0 0, .slice none 0 0] 112 (0, 0)) (bk_ a1.out) hb); have n3_ := Qa.mk (Qj bw_ hb); clear a0; clear a1; clear HB; have b4 := n0_; have a0 := n1_; have a1 := n2_; have HB := n3_; clear n0_ n1_ n2_ n3_; clear hb ho9; refine hK.out _ _ (Kj a0.out) (fun hHeld => ?_); clear hK K; refine nN_ 7 ?_; exact np_ (hJ4 (b8) _ ⟨hHeld, (ro_ b4.out), (bk_ a0.out), (bk_ a1.out), bw_⟩)
                 ·skip
                  refine Kd.R_lit_step Kd.string _ 9 ?hg (N := 11) ?hd (xs := ([] : List ByteArray)) (inner := []) (ok := fun _ => True) (okp := fun _ => True) ?hr ?hp (fun _ hk => hk) trivial (Below.refl _ _) (Nat.le_refl _) (by simp) ?_; (case hd => rfl); (case hg => rfl); (case hr => first | (go_simp; done) | (go_simp; rfl)); (case hp => exact (Yi.none _ _)); intro b7 w8 ho9 hb hg_ hnew_; clear hg_ hnew_
                  (first | rw [← d9.out] at ho9 | (simp only [Int.reduceToNat] at ho9; rw [← d9.out] at ho9))
                  have n0_ := Qa.mk (Kd.R_lower ho9 (Qo bw_)); have n1_ := Qa.mk (Qq (g := a2) (o := .cells #[.slice a7 a5.length a8, .slice a9 a4.length b0, .slice b1 a3.length b2] 107 (0, 0)) (bk_ a0.out) hb); have n2_ := Qa.mk (Qq (g := a6) (o := .cells #[.slice none 0 0, .slice none 0 0, .slice none 0 0] 112 (0, 0)) (bk_ a1.out) hb); have n3_ := Qa.mk (Qj bw_ hb); clear a0; clear a1; clear HB; have b3 := n0_; have a0 := n1_; have a1 := n2_; have HB := n3_; clear n0_ n1_ n2_ n3_; clear hb ho9; refine hK.out _ _ (Kj a0.out) (fun hHeld => ?_); clear hK K; refine nN_ 11 ?_; exact np_ (hJ8 (b7) _ ⟨hHeld, (ro_ b3.out), (bk_ a0.out), (bk_ a1.out), bw_⟩)
                ·skip
                 rintro b7 w10 ⟨hS_, h0_, h1_, h2_, h3_⟩; have n0_ : Qa (Kd.R Kd.string 9 w10 w.heap.size (fun _ => True) b7 d3) := ⟨h0_⟩; have n1_ : Qa (w10.heap[a2]? = some (.cells #[.slice a7 a5.length a8, .slice a9 a4.length b0, .slice b1 a3.length b2] 107 (0, 0))) := ⟨h1_⟩; have n2_ : Qa (w10.heap[a6]? = some (.cells #[.slice none 0 0, .slice none 0 0, .slice none 0 0] 112 (0, 0))) := ⟨h2_⟩; have n3_ : Qa (Below w.heap.size w w10) := ⟨h3_⟩; clear a0; clear a1; clear HB; clear h0_ h1_ h2_ h3_; have b3 := n0_; have a0 := n1_; have a1 := n2_; have HB := n3_; clear n0_ n1_ n2_ n3_; have hHeld : w10.cell? ⟨a2, 0, none⟩ = some (.slice a7 a5.length a8) ∧ w10.cell? ⟨a2, 1, none⟩ = some (.slice a9 a4.length b0) ∧ w10.cell? ⟨a2, 2, none⟩ = some (.slice b1 a3.length b2) := hS_; refine np_ ?_; refine Qcr (i := 0) (j := 4) (Ni := some 3) (Nj := some 7) (bz_ 14 1895) (bz_ 14 1910) rfl rfl rfl rfl (Jk HT_.out (by kernel_rfl)) (by decide) (by decide) (fun K hK => ?_) (fun K hK => ?_)
                 ·skip
                  refine Kd.R_lit_step Kd.string _ 9 ?hg (N := 3) ?hd (xs := ([] : List ByteArray)) (inner := []) (ok := fun _ => True) (okp := fun _ => True) ?hr ?hp (fun _ hk => hk) trivial (Below.refl _ _) (Nat.le_refl _) (by simp) ?_; (case hd => rfl); (case hg => rfl); (case hr => first | (go_simp; done) | (go_simp; rfl)); (case hp => exact (Yi.none _ _)); intro b9 w11 ho12 hb hg_ hnew_; clear hg_ hnew_
                  (first | rw [← e3.out] at ho12 | (simp only [Int.reduceToNat] at ho12; rw [← e3.out] at ho12))
                  have n0_ := Qa.mk (Kd.R_elder' (ro_ b3.out) (Kd.R_base ho12) hb); have n1_ := Qa.mk (Kd.R_lower (Kd.R_new' ho12 (Kd.R_lt (ro_ b3.out))) (Qo bw_)); have n2_ := Qa.mk (Qq (g := a2) (o := .cells #[.slice a7 a5.length a8, .slice a9 a4.length b0, .slice b1 a3.length b2] 107 (0, 0)) (bk_ a0.out) hb); have n3_ := Qa.mk (Qq (g := a6) (o := .cells #[.slice none 0 0, .slice none 0 0, .slice none 0 0] 112 (0, 0)) (bk_ a1.out) hb); have n4_ := Qa.mk (Qj bw_ hb); clear b3; clear a0; clear a1; clear HB; have b3 := n0_; have b6 := n1_; have a0 := n2_; have a1 := n3_; have HB := n4_; clear n0_ n1_ n2_ n3_ n4_; clear hb ho12; refine hK.out _ _ (Kj a0.out) (fun hHeld => ?_); clear hK K; refine nN_ 3 ?_; exact np_ (hJ0_8 (b9, b7) _ ⟨hHeld, (ro_ (Kd.R_mono b6.out (fun _ hk => hk.2))), (ro_ (Kd.R_mono b3.out (fun _ hk => hk.2))), (bk_ a0.out), (bk_ a1.out), bw_⟩)
                 ·skip
                  refine Kd.R_lit_step Kd.string _ 9 ?hg (N := 7) ?hd (xs := ([] : List ByteArray)) (inner := []) (ok := fun _ => True) (okp := fun _ => True) ?hr ?hp (fun _ hk => hk) trivial (Below.refl _ _) (Nat.le_refl _) (by simp) ?_; (case hd => rfl); (case hg => rfl); (case hr => first | (go_simp; done) | (go_simp; rfl)); (case hp => exact (Yi.none _ _)); intro b8 w11 ho12 hb hg_ hnew_; clear hg_ hnew_
                  (first | rw [← e0.out] at ho12 | (simp only [Int.reduceToNat] at ho12; rw [← e0.out] at ho12))
                  have n0_ := Qa.mk (Kd.R_elder' (ro_ b3.out) (Kd.R_base ho12) hb); have n1_ := Qa.mk (Kd.R_lower (Kd.R_new' ho12 (Kd.R_lt (ro_ b3.out))) (Qo bw_)); have n2_ := Qa.mk (Qq (g := a2) (o := .cells #[.slice a7 a5.length a8, .slice a9 a4.length b0, .slice b1 a3.length b2] 107 (0, 0)) (bk_ a0.out) hb); have n3_ := Qa.mk (Qq (g := a6) (o := .cells #[.slice none 0 0, .slice none 0 0, .slice none 0 0] 112 (0, 0)) (bk_ a1.out) hb); have n4_ := Qa.mk (Qj bw_ hb); clear b3; clear a0; clear a1; clear HB; have b3 := n0_; have b4 := n1_; have a0 := n2_; have a1 := n3_; have HB := n4_; clear n0_ n1_ n2_ n3_ n4_; clear hb ho12; refine hK.out _ _ (Kj a0.out) (fun hHeld => ?_); clear hK K; refine nN_ 7 ?_; exact np_ (hJ4_8 (b8, b7) _ ⟨hHeld, (ro_ (Kd.R_mono b4.out (fun _ hk => hk.2))), (ro_ (Kd.R_mono b3.out (fun _ hk => hk.2))), (bk_ a0.out), (bk_ a1.out), bw_⟩)
               ·skip
                rintro b8 w10 ⟨hS_, h0_, h1_, h2_, h3_⟩; have n0_ : Qa (Kd.R Kd.string 9 w10 w.heap.size (fun _ => True) b8 d4) := ⟨h0_⟩; have n1_ : Qa (w10.heap[a2]? = some (.cells #[.slice a7 a5.length a8, .slice a9 a4.length b0, .slice b1 a3.length b2] 107 (0, 0))) := ⟨h1_⟩; have n2_ : Qa (w10.heap[a6]? = some (.cells #[.slice none 0 0, .slice none 0 0, .slice none 0 0] 112 (0, 0))) := ⟨h2_⟩; have n3_ : Qa (Below w.heap.size w w10) := ⟨h3_⟩; clear a0; clear a1; clear HB; clear h0_ h1_ h2_ h3_; have b4 := n0_; have a0 := n1_; have a1 := n2_; have HB := n3_; clear n0_ n1_ n2_ n3_; have hHeld : w10.cell? ⟨a2, 0, none⟩ = some (.slice a7 a5.length a8) ∧ w10.cell? ⟨a2, 1, none⟩ = some (.slice a9 a4.length b0) ∧ w10.cell? ⟨a2, 2, none⟩ = some (.slice b1 a3.length b2) := hS_; refine np_ ?_; refine Qcr (i := 0) (j := 8) (Ni := some 3) (Nj := some 11) (bz_ 14 1655) (bz_ 14 1910) rfl rfl rfl rfl (Jk HT_.out (by kernel_rfl)) (by decide) (by decide) (fun K hK => ?_) (fun K hK => ?_)
                ·skip
                 refine Kd.R_lit_step Kd.string _ 9 ?hg (N := 3) ?hd (xs := ([] : List ByteArray)) (inner := []) (ok := fun _ => True) (okp := fun _ => True) ?hr ?hp (fun _ hk => hk) trivial (Below.refl _ _) (Nat.le_refl _) (by simp) ?_; (case hd => rfl); (case hg => rfl); (case hr => first | (go_simp; done) | (go_simp; rfl)); (case hp => exact (Yi.none _ _)); intro b9 w11 ho12 hb hg_ hnew_; clear hg_ hnew_
                 (first | rw [← e3.out] at ho12 | (simp only [Int.reduceToNat] at ho12; rw [← e3.out] at ho12))
                 have n0_ := Qa.mk (Kd.R_elder' (ro_ b4.out) (Kd.R_base ho12) hb); have n1_ := Qa.mk (Kd.R_lower (Kd.R_new' ho12 (Kd.R_lt (ro_ b4.out))) (Qo bw_)); have n2_ := Qa.mk (Qq (g := a2) (o := .cells #[.slice a7 a5.length a8, .slice a9 a4.length b0, .slice b1 a3.length b2] 107 (0, 0)) (bk_ a0.out) hb); have n3_ := Qa.mk (Qq (g := a6) (o := .cells #[.slice none 0 0, .slice none 0 0, .slice none 0 0] 112 (0, 0)) (bk_ a1.out) hb); have n4_ := Qa.mk (Qj bw_ hb); clear b4; clear a0; clear a1; clear HB; have b4 := n0_; have b6 := n1_; have a0 := n2_; have a1 := n3_; have HB := n4_; clear n0_ n1_ n2_ n3_ n4_; clear hb ho12; refine hK.out _ _ (Kj a0.out) (fun hHeld => ?_); clear hK K; refine nN_ 3 ?_; exact np_ (hJ0_4 (b9, b8) _ ⟨hHeld, (ro_ (Kd.R_mono b6.out (fun _ hk => hk.2))), (ro_ (Kd.R_mono b4.out (fun _ hk => hk.2))), (bk_ a0.out), (bk_ a1.out), bw_⟩)
                ·skip
                 refine Kd.R_lit_step Kd.string _ 9 ?hg (N := 11) ?hd (xs := ([] : List ByteArray)) (inner := []) (ok := fun _ => True) (okp := fun _ => True) ?hr ?hp (fun _ hk => hk) trivial (Below.refl _ _) (Nat.le_refl _) (by simp) ?_; (case hd => rfl); (case hg => rfl); (case hr => first | (go_simp; done) | (go_simp; rfl)); (case hp => exact (Yi.none _ _)); intro b7 w11 ho12 hb hg_ hnew_; clear hg_ hnew_
                 (first | rw [← d9.out] at ho12 | (simp only [Int.reduceToNat] at ho12; rw [← d9.out] at ho12))
                 have n0_ := Qa.mk (Kd.R_elder' (ro_ b4.out) (Kd.R_base ho12) hb); have n1_ := Qa.mk (Kd.R_lower (Kd.R_new' ho12 (Kd.R_lt (ro_ b4.out))) (Qo bw_)); have n2_ := Qa.mk (Qq (g := a2) (o := .cells #[.slice a7 a5.length a8, .slice a9 a4.length b0, .slice b1 a3.length b2] 107 (0, 0)) (bk_ a0.out) hb); have n3_ := Qa.mk (Qq (g := a6) (o := .cells #[.slice none 0 0, .slice none 0 0, .slice none 0 0] 112 (0, 0)) (bk_ a1.out) hb); have n4_ := Qa.mk (Qj bw_ hb); clear b4; clear a0; clear a1; clear HB; have b4 := n0_; have b3 := n1_; have a0 := n2_; have a1 := n3_; have HB := n4_; clear n0_ n1_ n2_ n3_ n4_; clear hb ho12; refine hK.out _ _ (Kj a0.out) (fun hHeld => ?_); clear hK K; refine nN_ 11 ?_; exact np_ (hJ4_8 (b8, b7) _ ⟨hHeld, (ro_ (Kd.R_mono b4.out (fun _ hk => hk.2))), (ro_ (Kd.R_mono b3.out (fun _ hk => hk.2))), (bk_ a0.out), (bk_ a1.out), bw_⟩)
              ·skip
               rintro b9 w10 ⟨hS_, h0_, h1_, h2_, h3_⟩; have n0_ : Qa (Kd.R Kd.string 9 w10 w.heap.size (fun _ => True) b9 d7) := ⟨h0_⟩; have n1_ : Qa (w10.heap[a2]? = some (.cells #[.slice a7 a5.length a8, .slice a9 a4.length b0, .slice b1 a3.length b2] 107 (0, 0))) := ⟨h1_⟩; have n2_ : Qa (w10.heap[a6]? = some (.cells #[.slice none 0 0, .slice none 0 0, .slice none 0 0] 112 (0, 0))) := ⟨h2_⟩; have n3_ : Qa (Below w.heap.size w w10) := ⟨h3_⟩; clear a0; clear a1; clear HB; clear h0_ h1_ h2_ h3_; have b6 := n0_; have a0 := n1_; have a1 := n2_; have HB := n3_; clear n0_ n1_ n2_ n3_; have hHeld : w10.cell? ⟨a2, 0, none⟩ = some (.slice a7 a5.length a8) ∧ w10.cell? ⟨a2, 1, none⟩ = some (.slice a9 a4.length b0) ∧ w10.cell? ⟨a2, 2, none⟩ = some (.slice b1 a3.length b2) := hS_; refine np_ ?_; refine Qkm (i := 3) (j := 4) (k := 8) (Ni := some 6) (Nj := some 7) (Nk := some 11) (bz_ 14 1647) (bz_ 14 1655) (bz_ 14 1895) rfl rfl rfl rfl rfl rfl (Qjs HT_.out (by kernel_rfl)) (by decide) (by decide) (by decide) (fun K hK => ?_) (fun K hK => ?_) (fun K hK => ?_)
               ·skip
                refine Kd.R_append_rows_step Kd.string (w0 := w) w.heap.size (by rfl) (.tmp 3) (.tmp 5) 27 9 (.string ⟨#[]⟩) 16 rfl Try.underlying27 Ko rfl (by decide) (by omega) b9 d7 a5 _ _ _ (fun _ => True) (fun _ => False) rfl rfl ?aO ?aR (fun _ _ h => h) (fun _ h => h.elim) ?aF ?aB ?aS ?aL ?_
                (case aR => repeat (first | exact (Kd.C_below f3.out HB.out) | (with_reducible refine Kd.C_alloc ?_ _) | (with_reducible refine Kd.C_drewN ?_ _) | (with_reducible refine Kd.C_drew ?_)))
                (case aB => exact bw_)
                (case aF => exact (fun _ _ => trivial))
                (case aO => exact (ro_ b6.out))
                (case aS => exact (Qo bw_))
                (case aL => have := f8.out; omega)
                intro d0 w11 ho hb hg hat
                rw [← f4.out] at ho
                have n0_ := Qa.mk (Ym (g := a2) (o := .cells #[.slice a7 a5.length a8, .slice a9 a4.length b0, .slice b1 a3.length b2] 107 (0, 0)) (bk_ a0.out) hg (Kd.R_ne b6.out a0.out (by decide))); have n1_ := Qa.mk (Ym (g := a6) (o := .cells #[.slice none 0 0, .slice none 0 0, .slice none 0 0] 112 (0, 0)) (bk_ a1.out) hg (Kd.R_ne b6.out a1.out (by decide))); have n2_ := Qa.mk (hb); have n3_ := Qa.mk (ho); clear a0; clear a1; clear HB; clear b6; have a0 := n0_; have a1 := n1_; have HB := n2_; have b5 := n3_; clear n0_ n1_ n2_ n3_; clear ho hb hg hat; refine hK.out _ _ (Kj a0.out) (fun hHeld => ?_); clear hK K; refine nN_ 6 ?_; exact np_ (hJ0_3 (b9, d0) _ ⟨hHeld, (ro_ b5.out), (bk_ a0.out), (bk_ a1.out), bw_⟩)
               ·skip
                refine Kd.R_lit_step Kd.string _ 9 ?hg (N := 7) ?hd (xs := ([] : List ByteArray)) (inner := []) (ok := fun _ => True) (okp := fun _ => True) ?hr ?hp (fun _ hk => hk) trivial (Below.refl _ _) (Nat.le_refl _) (by simp) ?_; (case hd => rfl); (case hg => rfl); (case hr => first | (go_simp; done) | (go_simp; rfl)); (case hp => exact (Yi.none _ _)); intro b8 w11 ho12 hb hg_ hnew_; clear hg_ hnew_
                (first | rw [← e0.out] at ho12 | (simp only [Int.reduceToNat] at ho12; rw [← e0.out] at ho12))
                have n0_ := Qa.mk (Kd.R_elder' (ro_ b6.out) (Kd.R_base ho12) hb); have n1_ := Qa.mk (Kd.R_lower (Kd.R_new' ho12 (Kd.R_lt (ro_ b6.out))) (Qo bw_)); have n2_ := Qa.mk (Qq (g := a2) (o := .cells #[.slice a7 a5.length a8, .slice a9 a4.length b0, .slice b1 a3.length b2] 107 (0, 0)) (bk_ a0.out) hb); have n3_ := Qa.mk (Qq (g := a6) (o := .cells #[.slice none 0 0, .slice none 0 0, .slice none 0 0] 112 (0, 0)) (bk_ a1.out) hb); have n4_ := Qa.mk (Qj bw_ hb); clear b6; clear a0; clear a1; clear HB; have b6 := n0_; have b4 := n1_; have a0 := n2_; have a1 := n3_; have HB := n4_; clear n0_ n1_ n2_ n3_ n4_; clear hb ho12; refine hK.out _ _ (Kj a0.out) (fun hHeld => ?_); clear hK K; refine nN_ 7 ?_; exact np_ (hJ0_4 (b9, b8) _ ⟨hHeld, (ro_ (Kd.R_mono b6.out (fun _ hk => hk.2))), (ro_ (Kd.R_mono b4.out (fun _ hk => hk.2))), (bk_ a0.out), (bk_ a1.out), bw_⟩)
               ·skip
                refine Kd.R_lit_step Kd.string _ 9 ?hg (N := 11) ?hd (xs := ([] : List ByteArray)) (inner := []) (ok := fun _ => True) (okp := fun _ => True) ?hr ?hp (fun _ hk => hk) trivial (Below.refl _ _) (Nat.le_refl _) (by simp) ?_; (case hd => rfl); (case hg => rfl); (case hr => first | (go_simp; done) | (go_simp; rfl)); (case hp => exact (Yi.none _ _)); intro b7 w11 ho12 hb hg_ hnew_; clear hg_ hnew_
                (first | rw [← d9.out] at ho12 | (simp only [Int.reduceToNat] at ho12; rw [← d9.out] at ho12))
                have n0_ := Qa.mk (Kd.R_elder' (ro_ b6.out) (Kd.R_base ho12) hb); have n1_ := Qa.mk (Kd.R_lower (Kd.R_new' ho12 (Kd.R_lt (ro_ b6.out))) (Qo bw_)); have n2_ := Qa.mk (Qq (g := a2) (o := .cells #[.slice a7 a5.length a8, .slice a9 a4.length b0, .slice b1 a3.length b2] 107 (0, 0)) (bk_ a0.out) hb); have n3_ := Qa.mk (Qq (g := a6) (o := .cells #[.slice none 0 0, .slice none 0 0, .slice none 0 0] 112 (0, 0)) (bk_ a1.out) hb); have n4_ := Qa.mk (Qj bw_ hb); clear b6; clear a0; clear a1; clear HB; have b6 := n0_; have b3 := n1_; have a0 := n2_; have a1 := n3_; have HB := n4_; clear n0_ n1_ n2_ n3_ n4_; clear hb ho12; refine hK.out _ _ (Kj a0.out) (fun hHeld => ?_); clear hK K; refine nN_ 11 ?_; exact np_ (hJ0_8 (b9, b7) _ ⟨hHeld, (ro_ (Kd.R_mono b6.out (fun _ hk => hk.2))), (ro_ (Kd.R_mono b3.out (fun _ hk => hk.2))), (bk_ a0.out), (bk_ a1.out), bw_⟩)
             ·skip
              rintro ⟨b8, b7⟩ w12 ⟨hS_, h0_, h1_, h2_, h3_, h4_⟩; have n0_ : Qa (Kd.R Kd.string 9 w12 w.heap.size (fun k_ => some k_ ≠ (b7 : Value).ownBlock) b8 d4) := ⟨h0_⟩; have n1_ : Qa (Kd.R Kd.string 9 w12 w.heap.size (fun k_ => some k_ ≠ (b8 : Value).ownBlock) b7 d3) := ⟨h1_⟩; have n2_ : Qa (w12.heap[a2]? = some (.cells #[.slice a7 a5.length a8, .slice a9 a4.length b0, .slice b1 a3.length b2] 107 (0, 0))) := ⟨h2_⟩; have n3_ : Qa (w12.heap[a6]? = some (.cells #[.slice none 0 0, .slice none 0 0, .slice none 0 0] 112 (0, 0))) := ⟨h3_⟩; have n4_ : Qa (Below w.heap.size w w12) := ⟨h4_⟩; clear a0; clear a1; clear HB; clear h0_ h1_ h2_ h3_ h4_; have b4 := n0_; have b3 := n1_; have a0 := n2_; have a1 := n3_; have HB := n4_; clear n0_ n1_ n2_ n3_ n4_; have hHeld : w12.cell? ⟨a2, 0, none⟩ = some (.slice a7 a5.length a8) ∧ w12.cell? ⟨a2, 1, none⟩ = some (.slice a9 a4.length b0) ∧ w12.cell? ⟨a2, 2, none⟩ = some (.slice b1 a3.length b2) := hS_; refine np_ ?_; refine on_ (i := 0) (N := some 3) #[true, true, true, false, true, true, true, false, true, true, true, false, false, false] (fun K hK => ?_); refine Kd.R_lit_step Kd.string _ 9 ?hg (N := 3) ?hd (xs := ([] : List ByteArray)) (inner := []) (ok := fun _ => True) (okp := fun _ => True) ?hr ?hp (fun _ hk => hk) trivial (Below.refl _ _) (Nat.le_refl _) (by simp) ?_; (case hd => rfl); (case hg => rfl); (case hr => first | (go_simp; done) | (go_simp; rfl)); (case hp => exact (Yi.none _ _)); intro b9 w13 ho14 hb hg_ hnew_; clear hg_ hnew_
              (first | rw [← e3.out] at ho14 | (simp only [Int.reduceToNat] at ho14; rw [← e3.out] at ho14))
              have n0_ := Qa.mk (Kd.R_elder' (ro_ b4.out) (Kd.R_base ho14) hb); have n1_ := Qa.mk (Kd.R_elder' (ro_ b3.out) (Kd.R_base ho14) hb); have n2_ := Qa.mk (Kd.R_lower (Kd.R_new' (Kd.R_new' ho14 (Kd.R_lt (ro_ b4.out))) (Kd.R_lt (ro_ b3.out))) (Qo bw_)); have n3_ := Qa.mk (Qq (g := a2) (o := .cells #[.slice a7 a5.length a8, .slice a9 a4.length b0, .slice b1 a3.length b2] 107 (0, 0)) (bk_ a0.out) hb); have n4_ := Qa.mk (Qq (g := a6) (o := .cells #[.slice none 0 0, .slice none 0 0, .slice none 0 0] 112 (0, 0)) (bk_ a1.out) hb); have n5_ := Qa.mk (Qj bw_ hb); clear b4; clear b3; clear a0; clear a1; clear HB; have b4 := n0_; have b3 := n1_; have b6 := n2_; have a0 := n3_; have a1 := n4_; have HB := n5_; clear n0_ n1_ n2_ n3_ n4_ n5_; clear hb ho14; refine hK.out _ _ (Kj a0.out) (fun hHeld => ?_); clear hK K; refine nN_ 3 ?_; exact np_ (hJ0_4_8 (b9, b8, b7) _ ⟨hHeld, (ro_ (Kd.R_mono b6.out (fun _ hk => ⟨hk.1.2, hk.2⟩))), (ro_ (Kd.R_mono b4.out (fun _ hk => ⟨hk.2, hk.1⟩))), (ro_ (Kd.R_mono b3.out (fun _ hk => ⟨hk.2, hk.1⟩))), (bk_ a0.out), (bk_ a1.out), bw_⟩)
            ·skip
             rintro ⟨b9, b7⟩ w12 ⟨hS_, h0_, h1_, h2_, h3_, h4_⟩; have n0_ : Qa (Kd.R Kd.string 9 w12 w.heap.size (fun k_ => some k_ ≠ (b7 : Value).ownBlock) b9 d7) := ⟨h0_⟩; have n1_ : Qa (Kd.R Kd.string 9 w12 w.heap.size (fun k_ => some k_ ≠ (b9 : Value).ownBlock) b7 d3) := ⟨h1_⟩; have n2_ : Qa (w12.heap[a2]? = some (.cells #[.slice a7 a5.length a8, .slice a9 a4.length b0, .slice b1 a3.length b2] 107 (0, 0))) := ⟨h2_⟩; have n3_ : Qa (w12.heap[a6]? = some (.cells #[.slice none 0 0, .slice none 0 0, .slice none 0 0] 112 (0, 0))) := ⟨h3_⟩; have n4_ : Qa (Below w.heap.size w w12) := ⟨h4_⟩; clear a0; clear a1; clear HB; clear h0_ h1_ h2_ h3_ h4_; have b6 := n0_; have b3 := n1_; have a0 := n2_; have a1 := n3_; have HB := n4_; clear n0_ n1_ n2_ n3_ n4_; have hHeld : w12.cell? ⟨a2, 0, none⟩ = some (.slice a7 a5.length a8) ∧ w12.cell? ⟨a2, 1, none⟩ = some (.slice a9 a4.length b0) ∧ w12.cell? ⟨a2, 2, none⟩ = some (.slice b1 a3.length b2) := hS_; refine np_ ?_; refine Qcr (i := 3) (j := 4) (Ni := some 6) (Nj := some 7) (bz_ 14 1903) (bz_ 14 1911) rfl rfl rfl rfl (Jk HT_.out (by kernel_rfl)) (by decide) (by decide) (fun K hK => ?_) (fun K hK => ?_)
             ·skip
              refine Kd.R_append_rows_step Kd.string (w0 := w) w.heap.size (by rfl) (.tmp 3) (.tmp 5) 27 9 (.string ⟨#[]⟩) 16 rfl Try.underlying27 Ko rfl (by decide) (by omega) b9 d7 a5 _ _ _ (fun k_ => some k_ ≠ (b7 : Value).ownBlock) (fun _ => False) rfl rfl ?aO ?aR (fun _ _ h => h) (fun _ h => h.elim) ?aF ?aB ?aS ?aL ?_
              (case aR => repeat (first | exact (Kd.C_below f3.out HB.out) | (with_reducible refine Kd.C_alloc ?_ _) | (with_reducible refine Kd.C_drewN ?_ _) | (with_reducible refine Kd.C_drew ?_)))
              (case aB => exact bw_)
              (case aF => exact (fun k_ hk => Kd.fresh' (Kd.R_lt (ro_ b3.out)) k_ hk))
              (case aO => exact (ro_ b6.out))
              (case aS => exact (Qo bw_))
              (case aL => have := f8.out; omega)
              intro d0 w13 ho hb hg hat
              rw [← f4.out] at ho
              have n0_ := Qa.mk (Ym (g := a2) (o := .cells #[.slice a7 a5.length a8, .slice a9 a4.length b0, .slice b1 a3.length b2] 107 (0, 0)) (bk_ a0.out) hg (Kd.R_ne b6.out a0.out (by decide))); have n1_ := Qa.mk (Ym (g := a6) (o := .cells #[.slice none 0 0, .slice none 0 0, .slice none 0 0] 112 (0, 0)) (bk_ a1.out) hg (Kd.R_ne b6.out a1.out (by decide))); have n2_ := Qa.mk (Kd.R_after (ok := (fun _ => True)) (ro_ (Kd.R_mono b3.out (fun _ hk => ⟨trivial, hk⟩))) hg hat); have n3_ := Qa.mk (hb); have n4_ := Qa.mk (ho); clear a0; clear a1; clear b3; clear HB; clear b6; have a0 := n0_; have a1 := n1_; have b3 := n2_; have HB := n3_; have b5 := n4_; clear n0_ n1_ n2_ n3_ n4_; clear ho hb hg hat; refine hK.out _ _ (Kj a0.out) (fun hHeld => ?_); clear hK K; refine nN_ 6 ?_; exact np_ (hJ0_3_8 (b9, d0, b7) _ ⟨hHeld, (ro_ b5.out), (ro_ (Kd.R_mono b3.out (fun _ hk => hk.2))), (bk_ a0.out), (bk_ a1.out), bw_⟩)
             ·skip
              refine Kd.R_lit_step Kd.string _ 9 ?hg (N := 7) ?hd (xs := ([] : List ByteArray)) (inner := []) (ok := fun _ => True) (okp := fun _ => True) ?hr ?hp (fun _ hk => hk) trivial (Below.refl _ _) (Nat.le_refl _) (by simp) ?_; (case hd => rfl); (case hg => rfl); (case hr => first | (go_simp; done) | (go_simp; rfl)); (case hp => exact (Yi.none _ _)); intro b8 w13 ho14 hb hg_ hnew_; clear hg_ hnew_
              (first | rw [← e0.out] at ho14 | (simp only [Int.reduceToNat] at ho14; rw [← e0.out] at ho14))
              have n0_ := Qa.mk (Kd.R_elder' (ro_ b6.out) (Kd.R_base ho14) hb); have n1_ := Qa.mk (Kd.R_elder' (ro_ b3.out) (Kd.R_base ho14) hb); have n2_ := Qa.mk (Kd.R_lower (Kd.R_new' (Kd.R_new' ho14 (Kd.R_lt (ro_ b6.out))) (Kd.R_lt (ro_ b3.out))) (Qo bw_)); have n3_ := Qa.mk (Qq (g := a2) (o := .cells #[.slice a7 a5.length a8, .slice a9 a4.length b0, .slice b1 a3.length b2] 107 (0, 0)) (bk_ a0.out) hb); have n4_ := Qa.mk (Qq (g := a6) (o := .cells #[.slice none 0 0, .slice none 0 0, .slice none 0 0] 112 (0, 0)) (bk_ a1.out) hb); have n5_ := Qa.mk (Qj bw_ hb); clear b6; clear b3; clear a0; clear a1; clear HB; have b6 := n0_; have b3 := n1_; have b4 := n2_; have a0 := n3_; have a1 := n4_; have HB := n5_; clear n0_ n1_ n2_ n3_ n4_ n5_; clear hb ho14; refine hK.out _ _ (Kj a0.out) (fun hHeld => ?_); clear hK K; refine nN_ 7 ?_; exact np_ (hJ0_4_8 (b9, b8, b7) _ ⟨hHeld, (ro_ (Kd.R_mono b6.out (fun _ hk => ⟨hk.2, hk.1⟩))), (ro_ (Kd.R_mono b4.out (fun _ hk => ⟨hk.1.2, hk.2⟩))), (ro_ b3.out), (bk_ a0.out), (bk_ a1.out), bw_⟩)
           ·skip
            rintro ⟨b9, b8⟩ w12 ⟨hS_, h0_, h1_, h2_, h3_, h4_⟩; have n0_ : Qa (Kd.R Kd.string 9 w12 w.heap.size (fun k_ => some k_ ≠ (b8 : Value).ownBlock) b9 d7) := ⟨h0_⟩; have n1_ : Qa (Kd.R Kd.string 9 w12 w.heap.size (fun k_ => some k_ ≠ (b9 : Value).ownBlock) b8 d4) := ⟨h1_⟩; have n2_ : Qa (w12.heap[a2]? = some (.cells #[.slice a7 a5.length a8, .slice a9 a4.length b0, .slice b1 a3.length b2] 107 (0, 0))) := ⟨h2_⟩; have n3_ : Qa (w12.heap[a6]? = some (.cells #[.slice none 0 0, .slice none 0 0, .slice none 0 0] 112 (0, 0))) := ⟨h3_⟩; have n4_ : Qa (Below w.heap.size w w12) := ⟨h4_⟩; clear a0; clear a1; clear HB; clear h0_ h1_ h2_ h3_ h4_; have b6 := n0_; have b4 := n1_; have a0 := n2_; have a1 := n3_; have HB := n4_; clear n0_ n1_ n2_ n3_ n4_; have hHeld : w12.cell? ⟨a2, 0, none⟩ = some (.slice a7 a5.length a8) ∧ w12.cell? ⟨a2, 1, none⟩ = some (.slice a9 a4.length b0) ∧ w12.cell? ⟨a2, 2, none⟩ = some (.slice b1 a3.length b2) := hS_; refine np_ ?_; refine Qcr (i := 3) (j := 8) (Ni := some 6) (Nj := some 11) (bz_ 14 1663) (bz_ 14 1911) rfl rfl rfl rfl (Jk HT_.out (by kernel_rfl)) (by decide) (by decide) (fun K hK => ?_) (fun K hK => ?_)
            ·skip
             refine Kd.R_append_rows_step Kd.string (w0 := w) w.heap.size (by rfl) (.tmp 3) (.tmp 5) 27 9 (.string ⟨#[]⟩) 16 rfl Try.underlying27 Ko rfl (by decide) (by omega) b9 d7 a5 _ _ _ (fun k_ => some k_ ≠ (b8 : Value).ownBlock) (fun _ => False) rfl rfl ?aO ?aR (fun _ _ h => h) (fun _ h => h.elim) ?aF ?aB ?aS ?aL ?_
             (case aR => repeat (first | exact (Kd.C_below f3.out HB.out) | (with_reducible refine Kd.C_alloc ?_ _) | (with_reducible refine Kd.C_drewN ?_ _) | (with_reducible refine Kd.C_drew ?_)))
             (case aB => exact bw_)
             (case aF => exact (fun k_ hk => Kd.fresh' (Kd.R_lt (ro_ b4.out)) k_ hk))
             (case aO => exact (ro_ b6.out))
             (case aS => exact (Qo bw_))
             (case aL => have := f8.out; omega)
             intro d0 w13 ho hb hg hat
             rw [← f4.out] at ho
             have n0_ := Qa.mk (Ym (g := a2) (o := .cells #[.slice a7 a5.length a8, .slice a9 a4.length b0, .slice b1 a3.length b2] 107 (0, 0)) (bk_ a0.out) hg (Kd.R_ne b6.out a0.out (by decide))); have n1_ := Qa.mk (Ym (g := a6) (o := .cells #[.slice none 0 0, .slice none 0 0, .slice none 0 0] 112 (0, 0)) (bk_ a1.out) hg (Kd.R_ne b6.out a1.out (by decide))); have n2_ := Qa.mk (Kd.R_after (ok := (fun _ => True)) (ro_ (Kd.R_mono b4.out (fun _ hk => ⟨trivial, hk⟩))) hg hat); have n3_ := Qa.mk (hb); have n4_ := Qa.mk (ho); clear a0; clear a1; clear b4; clear HB; clear b6; have a0 := n0_; have a1 := n1_; have b4 := n2_; have HB := n3_; have b5 := n4_; clear n0_ n1_ n2_ n3_ n4_; clear ho hb hg hat; refine hK.out _ _ (Kj a0.out) (fun hHeld => ?_); clear hK K; refine nN_ 6 ?_; exact np_ (hJ0_3_4 (b9, d0, b8) _ ⟨hHeld, (ro_ b5.out), (ro_ (Kd.R_mono b4.out (fun _ hk => hk.2))), (bk_ a0.out), (bk_ a1.out), bw_⟩)
            ·skip
             refine Kd.R_lit_step Kd.string _ 9 ?hg (N := 11) ?hd (xs := ([] : List ByteArray)) (inner := []) (ok := fun _ => True) (okp := fun _ => True) ?hr ?hp (fun _ hk => hk) trivial (Below.refl _ _) (Nat.le_refl _) (by simp) ?_; (case hd => rfl); (case hg => rfl); (case hr => first | (go_simp; done) | (go_simp; rfl)); (case hp => exact (Yi.none _ _)); intro b7 w13 ho14 hb hg_ hnew_; clear hg_ hnew_
             (first | rw [← d9.out] at ho14 | (simp only [Int.reduceToNat] at ho14; rw [← d9.out] at ho14))
             have n0_ := Qa.mk (Kd.R_elder' (ro_ b6.out) (Kd.R_base ho14) hb); have n1_ := Qa.mk (Kd.R_elder' (ro_ b4.out) (Kd.R_base ho14) hb); have n2_ := Qa.mk (Kd.R_lower (Kd.R_new' (Kd.R_new' ho14 (Kd.R_lt (ro_ b6.out))) (Kd.R_lt (ro_ b4.out))) (Qo bw_)); have n3_ := Qa.mk (Qq (g := a2) (o := .cells #[.slice a7 a5.length a8, .slice a9 a4.length b0, .slice b1 a3.length b2] 107 (0, 0)) (bk_ a0.out) hb); have n4_ := Qa.mk (Qq (g := a6) (o := .cells #[.slice none 0 0, .slice none 0 0, .slice none 0 0] 112 (0, 0)) (bk_ a1.out) hb); have n5_ := Qa.mk (Qj bw_ hb); clear b6; clear b4; clear a0; clear a1; clear HB; have b6 := n0_; have b4 := n1_; have b3 := n2_; have a0 := n3_; have a1 := n4_; have HB := n5_; clear n0_ n1_ n2_ n3_ n4_ n5_; clear hb ho14; refine hK.out _ _ (Kj a0.out) (fun hHeld => ?_); clear hK K; refine nN_ 11 ?_; exact np_ (hJ0_4_8 (b9, b8, b7) _ ⟨hHeld, (ro_ b6.out), (ro_ b4.out), (ro_ (Kd.R_mono b3.out (fun _ hk => ⟨hk.1.2, hk.2⟩))), (bk_ a0.out), (bk_ a1.out), bw_⟩)
          ·skip
           rintro ⟨b9, d0⟩ w11 ⟨hS_, h0_, h1_, h2_, h3_⟩; have n0_ : Qa (Kd.R Kd.string 9 w11 w.heap.size (fun _ => True) d0 d6) := ⟨h0_⟩; have n1_ : Qa (w11.heap[a2]? = some (.cells #[.slice a7 a5.length a8, .slice a9 a4.length b0, .slice b1 a3.length b2] 107 (0, 0))) := ⟨h1_⟩; have n2_ : Qa (w11.heap[a6]? = some (.cells #[.slice none 0 0, .slice none 0 0, .slice none 0 0] 112 (0, 0))) := ⟨h2_⟩; have n3_ : Qa (Below w.heap.size w w11) := ⟨h3_⟩; clear a0; clear a1; clear HB; clear h0_ h1_ h2_ h3_; have b5 := n0_; have a0 := n1_; have a1 := n2_; have HB := n3_; clear n0_ n1_ n2_ n3_; have hHeld : w11.cell? ⟨a2, 0, none⟩ = some (.slice a7 a5.length a8) ∧ w11.cell? ⟨a2, 1, none⟩ = some (.slice a9 a4.length b0) ∧ w11.cell? ⟨a2, 2, none⟩ = some (.slice b1 a3.length b2) := hS_; refine np_ ?_; refine Qcr (i := 4) (j := 8) (Ni := some 7) (Nj := some 11) (bz_ 14 1663) (bz_ 14 1903) rfl rfl rfl rfl (Jk HT_.out (by kernel_rfl)) (by decide) (by decide) (fun K hK => ?_) (fun K hK => ?_)
           ·skip
            refine Kd.R_lit_step Kd.string _ 9 ?hg (N := 7) ?hd (xs := ([] : List ByteArray)) (inner := []) (ok := fun _ => True) (okp := fun _ => True) ?hr ?hp (fun _ hk => hk) trivial (Below.refl _ _) (Nat.le_refl _) (by simp) ?_; (case hd => rfl); (case hg => rfl); (case hr => first | (go_simp; done) | (go_simp; rfl)); (case hp => exact (Yi.none _ _)); intro b8 w12 ho13 hb hg_ hnew_; clear hg_ hnew_
            (first | rw [← e0.out] at ho13 | (simp only [Int.reduceToNat] at ho13; rw [← e0.out] at ho13))
            have n0_ := Qa.mk (Kd.R_elder' (ro_ b5.out) (Kd.R_base ho13) hb); have n1_ := Qa.mk (Kd.R_lower (Kd.R_new' ho13 (Kd.R_lt (ro_ b5.out))) (Qo bw_)); have n2_ := Qa.mk (Qq (g := a2) (o := .cells #[.slice a7 a5.length a8, .slice a9 a4.length b0, .slice b1 a3.length b2] 107 (0, 0)) (bk_ a0.out) hb); have n3_ := Qa.mk (Qq (g := a6) (o := .cells #[.slice none 0 0, .slice none 0 0, .slice none 0 0] 112 (0, 0)) (bk_ a1.out) hb); have n4_ := Qa.mk (Qj bw_ hb); clear b5; clear a0; clear a1; clear HB; have b5 := n0_; have b4 := n1_; have a0 := n2_; have a1 := n3_; have HB := n4_; clear n0_ n1_ n2_ n3_ n4_; clear hb ho13; refine hK.out _ _ (Kj a0.out) (fun hHeld => ?_); clear hK K; refine nN_ 7 ?_; exact np_ (hJ0_3_4 (b9, d0, b8) _ ⟨hHeld, (ro_ (Kd.R_mono b5.out (fun _ hk => hk.2))), (ro_ (Kd.R_mono b4.out (fun _ hk => hk.2))), (bk_ a0.out), (bk_ a1.out), bw_⟩)
           ·skip
            refine Kd.R_lit_step Kd.string _ 9 ?hg (N := 11) ?hd (xs := ([] : List ByteArray)) (inner := []) (ok := fun _ => True) (okp := fun _ => True) ?hr ?hp (fun _ hk => hk) trivial (Below.refl _ _) (Nat.le_refl _) (by simp) ?_; (case hd => rfl); (case hg => rfl); (case hr => first | (go_simp; done) | (go_simp; rfl)); (case hp => exact (Yi.none _ _)); intro b7 w12 ho13 hb hg_ hnew_; clear hg_ hnew_
            (first | rw [← d9.out] at ho13 | (simp only [Int.reduceToNat] at ho13; rw [← d9.out] at ho13))
            have n0_ := Qa.mk (Kd.R_elder' (ro_ b5.out) (Kd.R_base ho13) hb); have n1_ := Qa.mk (Kd.R_lower (Kd.R_new' ho13 (Kd.R_lt (ro_ b5.out))) (Qo bw_)); have n2_ := Qa.mk (Qq (g := a2) (o := .cells #[.slice a7 a5.length a8, .slice a9 a4.length b0, .slice b1 a3.length b2] 107 (0, 0)) (bk_ a0.out) hb); have n3_ := Qa.mk (Qq (g := a6) (o := .cells #[.slice none 0 0, .slice none 0 0, .slice none 0 0] 112 (0, 0)) (bk_ a1.out) hb); have n4_ := Qa.mk (Qj bw_ hb); clear b5; clear a0; clear a1; clear HB; have b5 := n0_; have b3 := n1_; have a0 := n2_; have a1 := n3_; have HB := n4_; clear n0_ n1_ n2_ n3_ n4_; clear hb ho13; refine hK.out _ _ (Kj a0.out) (fun hHeld => ?_); clear hK K; refine nN_ 11 ?_; exact np_ (hJ0_3_8 (b9, d0, b7) _ ⟨hHeld, (ro_ (Kd.R_mono b5.out (fun _ hk => hk.2))), (ro_ (Kd.R_mono b3.out (fun _ hk => hk.2))), (bk_ a0.out), (bk_ a1.out), bw_⟩)
         ·skip
          rintro ⟨b9, b8, b7⟩ w14 ⟨hS_, h0_, h1_, h2_, h3_, h4_, h5_⟩; have n0_ : Qa (Kd.R Kd.string 9 w14 w.heap.size (fun k_ => some k_ ≠ (b8 : Value).ownBlock ∧ some k_ ≠ (b7 : Value).ownBlock) b9 d7) := ⟨h0_⟩; have n1_ : Qa (Kd.R Kd.string 9 w14 w.heap.size (fun k_ => some k_ ≠ (b9 : Value).ownBlock ∧ some k_ ≠ (b7 : Value).ownBlock) b8 d4) := ⟨h1_⟩; have n2_ : Qa (Kd.R Kd.string 9 w14 w.heap.size (fun k_ => some k_ ≠ (b9 : Value).ownBlock ∧ some k_ ≠ (b8 : Value).ownBlock) b7 d3) := ⟨h2_⟩; have n3_ : Qa (w14.heap[a2]? = some (.cells #[.slice a7 a5.length a8, .slice a9 a4.length b0, .slice b1 a3.length b2] 107 (0, 0))) := ⟨h3_⟩; have n4_ : Qa (w14.heap[a6]? = some (.cells #[.slice none 0 0, .slice none 0 0, .slice none 0 0] 112 (0, 0))) := ⟨h4_⟩; have n5_ : Qa (Below w.heap.size w w14) := ⟨h5_⟩; clear a0; clear a1; clear HB; clear h0_ h1_ h2_ h3_ h4_ h5_; have b6 := n0_; have b4 := n1_; have b3 := n2_; have a0 := n3_; have a1 := n4_; have HB := n5_; clear n0_ n1_ n2_ n3_ n4_ n5_; have hHeld : w14.cell? ⟨a2, 0, none⟩ = some (.slice a7 a5.length a8) ∧ w14.cell? ⟨a2, 1, none⟩ = some (.slice a9 a4.length b0) ∧ w14.cell? ⟨a2, 2, none⟩ = some (.slice b1 a3.length b2) := hS_; refine np_ ?_; refine on_ (i := 3) (N := some 6) #[true, true, true, true, true, true, true, false, true, true, true, false, false, false] (fun K hK => ?_); refine Kd.R_append_rows_step Kd.string (w0 := w) w.heap.size (by rfl) (.tmp 3) (.tmp 5) 27 9 (.string ⟨#[]⟩) 16 rfl Try.underlying27 Ko rfl (by decide) (by omega) b9 d7 a5 _ _ _ (fun k_ => some k_ ≠ (b8 : Value).ownBlock ∧ some k_ ≠ (b7 : Value).ownBlock) (fun _ => False) rfl rfl ?aO ?aR (fun _ _ h => h) (fun _ h => h.elim) ?aF ?aB ?aS ?aL ?_
          (case aR => repeat (first | exact (Kd.C_below f3.out HB.out) | (with_reducible refine Kd.C_alloc ?_ _) | (with_reducible refine Kd.C_drewN ?_ _) | (with_reducible refine Kd.C_drew ?_)))
          (case aB => exact bw_)
          (case aF => exact (fun k_ hk => ⟨Kd.fresh' (Kd.R_lt (ro_ b4.out)) k_ hk, Kd.fresh' (Kd.R_lt (ro_ b3.out)) k_ hk⟩))
          (case aO => exact (ro_ b6.out))
          (case aS => exact (Qo bw_))
          (case aL => have := f8.out; omega)
          intro d0 w15 ho hb hg hat
          rw [← f4.out] at ho
          have n0_ := Qa.mk (Ym (g := a2) (o := .cells #[.slice a7 a5.length a8, .slice a9 a4.length b0, .slice b1 a3.length b2] 107 (0, 0)) (bk_ a0.out) hg (Kd.R_ne b6.out a0.out (by decide))); have n1_ := Qa.mk (Ym (g := a6) (o := .cells #[.slice none 0 0, .slice none 0 0, .slice none 0 0] 112 (0, 0)) (bk_ a1.out) hg (Kd.R_ne b6.out a1.out (by decide))); have n2_ := Qa.mk (Kd.R_after (ok := (fun k_ => some k_ ≠ (b7 : Value).ownBlock)) (ro_ (Kd.R_mono b4.out (fun _ hk => ⟨hk.2, hk.1⟩))) hg hat); have n3_ := Qa.mk (Kd.R_after (ok := (fun k_ => some k_ ≠ (b8 : Value).ownBlock)) (ro_ (Kd.R_mono b3.out (fun _ hk => ⟨hk.2, hk.1⟩))) hg hat); have n4_ := Qa.mk (hb); have n5_ := Qa.mk (ho); clear a0; clear a1; clear b4; clear b3; clear HB; clear b6; have a0 := n0_; have a1 := n1_; have b4 := n2_; have b3 := n3_; have HB := n4_; have b5 := n5_; clear n0_ n1_ n2_ n3_ n4_ n5_; clear ho hb hg hat; refine hK.out _ _ (Kj a0.out) (fun hHeld => ?_); clear hK K; refine nN_ 6 ?_; exact np_ (hJ0_3_4_8 (b9, d0, b8, b7) _ ⟨hHeld, (ro_ b5.out), (ro_ (Kd.R_mono b4.out (fun _ hk => ⟨hk.2, hk.1⟩))), (ro_ (Kd.R_mono b3.out (fun _ hk => ⟨hk.2, hk.1⟩))), (bk_ a0.out), (bk_ a1.out), bw_⟩)
        ·skip
         rintro ⟨b9, d0, b7⟩ w13 ⟨hS_, h0_, h1_, h2_, h3_, h4_⟩; have n0_ : Qa (Kd.R Kd.string 9 w13 w.heap.size (fun k_ => some k_ ≠ (b7 : Value).ownBlock) d0 d6) := ⟨h0_⟩; have n1_ : Qa (Kd.R Kd.string 9 w13 w.heap.size (fun k_ => some k_ ≠ (d0 : Value).ownBlock) b7 d3) := ⟨h1_⟩; have n2_ : Qa (w13.heap[a2]? = some (.cells #[.slice a7 a5.length a8, .slice a9 a4.length b0, .slice b1 a3.length b2] 107 (0, 0))) := ⟨h2_⟩; have n3_ : Qa (w13.heap[a6]? = some (.cells #[.slice none 0 0, .slice none 0 0, .slice none 0 0] 112 (0, 0))) := ⟨h3_⟩; have n4_ : Qa (Below w.heap.size w w13) := ⟨h4_⟩; clear a0; clear a1; clear HB; clear h0_ h1_ h2_ h3_ h4_; have b5 := n0_; have b3 := n1_; have a0 := n2_; have a1 := n3_; have HB := n4_; clear n0_ n1_ n2_ n3_ n4_; have hHeld : w13.cell? ⟨a2, 0, none⟩ = some (.slice a7 a5.length a8) ∧ w13.cell? ⟨a2, 1, none⟩ = some (.slice a9 a4.length b0) ∧ w13.cell? ⟨a2, 2, none⟩ = some (.slice b1 a3.length b2) := hS_; refine np_ ?_; refine on_ (i := 4) (N := some 7) #[true, true, true, true, true, true, true, false, true, true, true, false, false, false] (fun K hK => ?_); refine Kd.R_lit_step Kd.string _ 9 ?hg (N := 7) ?hd (xs := ([] : List ByteArray)) (inner := []) (ok := fun _ => True) (okp := fun _ => True) ?hr ?hp (fun _ hk => hk) trivial (Below.refl _ _) (Nat.le_refl _) (by simp) ?_; (case hd => rfl); (case hg => rfl); (case hr => first | (go_simp; done) | (go_simp; rfl)); (case hp => exact (Yi.none _ _)); intro b8 w14 ho15 hb hg_ hnew_; clear hg_ hnew_
         (first | rw [← e0.out] at ho15 | (simp only [Int.reduceToNat] at ho15; rw [← e0.out] at ho15))
         have n0_ := Qa.mk (Kd.R_elder' (ro_ b5.out) (Kd.R_base ho15) hb); have n1_ := Qa.mk (Kd.R_elder' (ro_ b3.out) (Kd.R_base ho15) hb); have n2_ := Qa.mk (Kd.R_lower (Kd.R_new' (Kd.R_new' ho15 (Kd.R_lt (ro_ b5.out))) (Kd.R_lt (ro_ b3.out))) (Qo bw_)); have n3_ := Qa.mk (Qq (g := a2) (o := .cells #[.slice a7 a5.length a8, .slice a9 a4.length b0, .slice b1 a3.length b2] 107 (0, 0)) (bk_ a0.out) hb); have n4_ := Qa.mk (Qq (g := a6) (o := .cells #[.slice none 0 0, .slice none 0 0, .slice none 0 0] 112 (0, 0)) (bk_ a1.out) hb); have n5_ := Qa.mk (Qj bw_ hb); clear b5; clear b3; clear a0; clear a1; clear HB; have b5 := n0_; have b3 := n1_; have b4 := n2_; have a0 := n3_; have a1 := n4_; have HB := n5_; clear n0_ n1_ n2_ n3_ n4_ n5_; clear hb ho15; refine hK.out _ _ (Kj a0.out) (fun hHeld => ?_); clear hK K; refine nN_ 7 ?_; exact np_ (hJ0_3_4_8 (b9, d0, b8, b7) _ ⟨hHeld, (ro_ (Kd.R_mono b5.out (fun _ hk => ⟨hk.2, hk.1⟩))), (ro_ (Kd.R_mono b4.out (fun _ hk => ⟨hk.1.2, hk.2⟩))), (ro_ b3.out), (bk_ a0.out), (bk_ a1.out), bw_⟩)
       ·skip
        rintro ⟨b9, d0, b8⟩ w13 ⟨hS_, h0_, h1_, h2_, h3_, h4_⟩; have n0_ : Qa (Kd.R Kd.string 9 w13 w.heap.size (fun k_ => some k_ ≠ (b8 : Value).ownBlock) d0 d6) := ⟨h0_⟩; have n1_ : Qa (Kd.R Kd.string 9 w13 w.heap.size (fun k_ => some k_ ≠ (d0 : Value).ownBlock) b8 d4) := ⟨h1_⟩; have n2_ : Qa (w13.heap[a2]? = some (.cells #[.slice a7 a5.length a8, .slice a9 a4.length b0, .slice b1 a3.length b2] 107 (0, 0))) := ⟨h2_⟩; have n3_ : Qa (w13.heap[a6]? = some (.cells #[.slice none 0 0, .slice none 0 0, .slice none 0 0] 112 (0, 0))) := ⟨h3_⟩; have n4_ : Qa (Below w.heap.size w w13) := ⟨h4_⟩; clear a0; clear a1; clear HB; clear h0_ h1_ h2_ h3_ h4_; have b5 := n0_; have b4 := n1_; have a0 := n2_; have a1 := n3_; have HB := n4_; clear n0_ n1_ n2_ n3_ n4_; have hHeld : w13.cell? ⟨a2, 0, none⟩ = some (.slice a7 a5.length a8) ∧ w13.cell? ⟨a2, 1, none⟩ = some (.slice a9 a4.length b0) ∧ w13.cell? ⟨a2, 2, none⟩ = some (.slice b1 a3.length b2) := hS_; refine np_ ?_; refine Qcr (i := 7) (j := 8) (Ni := some 10) (Nj := some 11) (bz_ 14 1791) (bz_ 14 1919) rfl rfl rfl rfl (Jk HT_.out (by kernel_rfl)) (by decide) (by decide) (fun K hK => ?_) (fun K hK => ?_)
        ·skip
         refine Kd.R_append_rows_step Kd.string (w0 := w) w.heap.size (by rfl) (.tmp 7) (.tmp 9) 27 9 (.string ⟨#[]⟩) 16 rfl Try.underlying27 Ko rfl (by decide) (by omega) b8 d4 a4 _ _ _ (fun k_ => some k_ ≠ (d0 : Value).ownBlock) (fun _ => False) rfl rfl ?aO ?aR (fun _ _ h => h) (fun _ h => h.elim) ?aF ?aB ?aS ?aL ?_
         (case aR => repeat (first | exact (Kd.C_below g1.out HB.out) | (with_reducible refine Kd.C_alloc ?_ _) | (with_reducible refine Kd.C_drewN ?_ _) | (with_reducible refine Kd.C_drew ?_)))
         (case aB => exact bw_)
         (case aF => exact (fun k_ hk => Kd.fresh' (Kd.R_lt (ro_ b5.out)) k_ hk))
         (case aO => exact (ro_ b4.out))
         (case aS => exact (Qo bw_))
         (case aL => have := g4.out; omega)
         intro e1 w14 ho hb hg hat
         rw [← g2.out] at ho
         have n0_ := Qa.mk (Ym (g := a2) (o := .cells #[.slice a7 a5.length a8, .slice a9 a4.length b0, .slice b1 a3.length b2] 107 (0, 0)) (bk_ a0.out) hg (Kd.R_ne b4.out a0.out (by decide))); have n1_ := Qa.mk (Ym (g := a6) (o := .cells #[.slice none 0 0, .slice none 0 0, .slice none 0 0] 112 (0, 0)) (bk_ a1.out) hg (Kd.R_ne b4.out a1.out (by decide))); have n2_ := Qa.mk (Kd.R_after (ok := (fun _ => True)) (ro_ (Kd.R_mono b5.out (fun _ hk => ⟨trivial, hk⟩))) hg hat); have n3_ := Qa.mk (hb); have n4_ := Qa.mk (ho); clear a0; clear a1; clear b5; clear HB; clear b4; have a0 := n0_; have a1 := n1_; have b5 := n2_; have HB := n3_; have d8 := n4_; clear n0_ n1_ n2_ n3_ n4_; clear ho hb hg hat; refine hK.out _ _ (Kj a0.out) (fun hHeld => ?_); clear hK K; refine nN_ 10 ?_; exact np_ (hJ0_3_4_7 (b9, d0, b8, e1) _ ⟨hHeld, (ro_ (Kd.R_mono b5.out (fun _ hk => hk.2))), (ro_ d8.out), (bk_ a0.out), (bk_ a1.out), bw_⟩)
        ·skip
         refine Kd.R_lit_step Kd.string _ 9 ?hg (N := 11) ?hd (xs := ([] : List ByteArray)) (inner := []) (ok := fun _ => True) (okp := fun _ => True) ?hr ?hp (fun _ hk => hk) trivial (Below.refl _ _) (Nat.le_refl _) (by simp) ?_; (case hd => rfl); (case hg => rfl); (case hr => first | (go_simp; done) | (go_simp; rfl)); (case hp => exact (Yi.none _ _)); intro b7 w14 ho15 hb hg_ hnew_; clear hg_ hnew_
         (first | rw [← d9.out] at ho15 | (simp only [Int.reduceToNat] at ho15; rw [← d9.out] at ho15))
         have n0_ := Qa.mk (Kd.R_elder' (ro_ b5.out) (Kd.R_base ho15) hb); have n1_ := Qa.mk (Kd.R_elder' (ro_ b4.out) (Kd.R_base ho15) hb); have n2_ := Qa.mk (Kd.R_lower (Kd.R_new' (Kd.R_new' ho15 (Kd.R_lt (ro_ b5.out))) (Kd.R_lt (ro_ b4.out))) (Qo bw_)); have n3_ := Qa.mk (Qq (g := a2) (o := .cells #[.slice a7 a5.length a8, .slice a9 a4.length b0, .slice b1 a3.length b2] 107 (0, 0)) (bk_ a0.out) hb); have n4_ := Qa.mk (Qq (g := a6) (o := .cells #[.slice none 0 0, .slice none 0 0, .slice none 0 0] 112 (0, 0)) (bk_ a1.out) hb); have n5_ := Qa.mk (Qj bw_ hb); clear b5; clear b4; clear a0; clear a1; clear HB; have b5 := n0_; have b4 := n1_; have b3 := n2_; have a0 := n3_; have a1 := n4_; have HB := n5_; clear n0_ n1_ n2_ n3_ n4_ n5_; clear hb ho15; refine hK.out _ _ (Kj a0.out) (fun hHeld => ?_); clear hK K; refine nN_ 11 ?_; exact np_ (hJ0_3_4_8 (b9, d0, b8, b7) _ ⟨hHeld, (ro_ b5.out), (ro_ b4.out), (ro_ (Kd.R_mono b3.out (fun _ hk => ⟨hk.1.2, hk.2⟩))), (bk_ a0.out), (bk_ a1.out), bw_⟩)
      ·skip
       rintro ⟨b9, d0, b8, b7⟩ w15 ⟨hS_, h0_, h1_, h2_, h3_, h4_, h5_⟩; have n0_ : Qa (Kd.R Kd.string 9 w15 w.heap.size (fun k_ => some k_ ≠ (b8 : Value).ownBlock ∧ some k_ ≠ (b7 : Value).ownBlock) d0 d6) := ⟨h0_⟩; have n1_ : Qa (Kd.R Kd.string 9 w15 w.heap.size (fun k_ => some k_ ≠ (d0 : Value).ownBlock ∧ some k_ ≠ (b7 : Value).ownBlock) b8 d4) := ⟨h1_⟩; have n2_ : Qa (Kd.R Kd.string 9 w15 w.heap.size (fun k_ => some k_ ≠ (d0 : Value).ownBlock ∧ some k_ ≠ (b8 : Value).ownBlock) b7 d3) := ⟨h2_⟩; have n3_ : Qa (w15.heap[a2]? = some (.cells #[.slice a7 a5.length a8, .slice a9 a4.length b0, .slice b1 a3.length b2] 107 (0, 0))) := ⟨h3_⟩; have n4_ : Qa (w15.heap[a6]? = some (.cells #[.slice none 0 0, .slice none 0 0, .slice none 0 0] 112 (0, 0))) := ⟨h4_⟩; have n5_ : Qa (Below w.heap.size w w15) := ⟨h5_⟩; clear a0; clear a1; clear HB; clear h0_ h1_ h2_ h3_ h4_ h5_; have b5 := n0_; have b4 := n1_; have b3 := n2_; have a0 := n3_; have a1 := n4_; have HB := n5_; clear n0_ n1_ n2_ n3_ n4_ n5_; have hHeld : w15.cell? ⟨a2, 0, none⟩ = some (.slice a7 a5.length a8) ∧ w15.cell? ⟨a2, 1, none⟩ = some (.slice a9 a4.length b0) ∧ w15.cell? ⟨a2, 2, none⟩ = some (.slice b1 a3.length b2) := hS_; refine np_ ?_; refine on_ (i := 7) (N := some 10) #[true, true, true, true, true, true, true, true, true, true, true, false, false, false] (fun K hK => ?_); refine Kd.R_append_rows_step Kd.string (w0 := w) w.heap.size (by rfl) (.tmp 7) (.tmp 9) 27 9 (.string ⟨#[]⟩) 16 rfl Try.underlying27 Ko rfl (by decide) (by omega) b8 d4 a4 _ _ _ (fun k_ => some k_ ≠ (d0 : Value).ownBlock ∧ some k_ ≠ (b7 : Value).ownBlock) (fun _ => False) rfl rfl ?aO ?aR (fun _ _ h => h) (fun _ h => h.elim) ?aF ?aB ?aS ?aL ?_
       (case aR => repeat (first | exact (Kd.C_below g1.out HB.out) | (with_reducible refine Kd.C_alloc ?_ _) | (with_reducible refine Kd.C_drewN ?_ _) | (with_reducible refine Kd.C_drew ?_)))
       (case aB => exact bw_)
       (case aF => exact (fun k_ hk => ⟨Kd.fresh' (Kd.R_lt (ro_ b5.out)) k_ hk, Kd.fresh' (Kd.R_lt (ro_ b3.out)) k_ hk⟩))
       (case aO => exact (ro_ b4.out))
       (case aS => exact (Qo bw_))
       (case aL => have := g4.out; omega)
       intro e1 w16 ho hb hg hat
       rw [← g2.out] at ho
       have n0_ := Qa.mk (Ym (g := a2) (o := .cells #[.slice a7 a5.length a8, .slice a9 a4.length b0, .slice b1 a3.length b2] 107 (0, 0)) (bk_ a0.out) hg (Kd.R_ne b4.out a0.out (by decide))); have n1_ := Qa.mk (Ym (g := a6) (o := .cells #[.slice none 0 0, .slice none 0 0, .slice none 0 0] 112 (0, 0)) (bk_ a1.out) hg (Kd.R_ne b4.out a1.out (by decide))); have n2_ := Qa.mk (Kd.R_after (ok := (fun k_ => some k_ ≠ (b7 : Value).ownBlock)) (ro_ (Kd.R_mono b5.out (fun _ hk => ⟨hk.2, hk.1⟩))) hg hat); have n3_ := Qa.mk (Kd.R_after (ok := (fun k_ => some k_ ≠ (d0 : Value).ownBlock)) (ro_ b3.out) hg hat); have n4_ := Qa.mk (hb); have n5_ := Qa.mk (ho); clear a0; clear a1; clear b5; clear b3; clear HB; clear b4; have a0 := n0_; have a1 := n1_; have b5 := n2_; have b3 := n3_; have HB := n4_; have d8 := n5_; clear n0_ n1_ n2_ n3_ n4_ n5_; clear ho hb hg hat; refine hK.out _ _ (Kj a0.out) (fun hHeld => ?_); clear hK K; refine nN_ 10 ?_; exact np_ (hJ0_3_4_7_8 (b9, d0, b8, e1, b7) _ ⟨hHeld, (ro_ (Kd.R_mono b5.out (fun _ hk => ⟨hk.2, hk.1⟩))), (ro_ d8.out), (ro_ b3.out), (bk_ a0.out), (bk_ a1.out), bw_⟩)
     ·skip
      rintro ⟨b9, d0, b8, e1⟩ w14 ⟨hS_, h0_, h1_, h2_, h3_, h4_⟩; have n0_ : Qa (Kd.R Kd.string 9 w14 w.heap.size (fun k_ => some k_ ≠ (e1 : Value).ownBlock) d0 d6) := ⟨h0_⟩; have n1_ : Qa (Kd.R Kd.string 9 w14 w.heap.size (fun k_ => some k_ ≠ (d0 : Value).ownBlock) e1 e2) := ⟨h1_⟩; have n2_ : Qa (w14.heap[a2]? = some (.cells #[.slice a7 a5.length a8, .slice a9 a4.length b0, .slice b1 a3.length b2] 107 (0, 0))) := ⟨h2_⟩; have n3_ : Qa (w14.heap[a6]? = some (.cells #[.slice none 0 0, .slice none 0 0, .slice none 0 0] 112 (0, 0))) := ⟨h3_⟩; have n4_ : Qa (Below w.heap.size w w14) := ⟨h4_⟩; clear a0; clear a1; clear HB; clear h0_ h1_ h2_ h3_ h4_; have b5 := n0_; have d8 := n1_; have a0 := n2_; have a1 := n3_; have HB := n4_; clear n0_ n1_ n2_ n3_ n4_; have hHeld : w14.cell? ⟨a2, 0, none⟩ = some (.slice a7 a5.length a8) ∧ w14.cell? ⟨a2, 1, none⟩ = some (.slice a9 a4.length b0) ∧ w14.cell? ⟨a2, 2, none⟩ = some (.slice b1 a3.length b2) := hS_; refine np_ ?_; refine on_ (i := 8) (N := some 11) #[true, true, true, true, true, true, true, true, true, true, true, false, false, false] (fun K hK => ?_); refine Kd.R_lit_step Kd.string _ 9 ?hg (N := 11) ?hd (xs := ([] : List ByteArray)) (inner := []) (ok := fun _ => True) (okp := fun _ => True) ?hr ?hp (fun _ hk => hk) trivial (Below.refl _ _) (Nat.le_refl _) (by simp) ?_; (case hd => rfl); (case hg => rfl); (case hr => first | (go_simp; done) | (go_simp; rfl)); (case hp => exact (Yi.none _ _)); intro b7 w15 ho16 hb hg_ hnew_; clear hg_ hnew_
      (first | rw [← d9.out] at ho16 | (simp only [Int.reduceToNat] at ho16; rw [← d9.out] at ho16))
      have n0_ := Qa.mk (Kd.R_elder' (ro_ b5.out) (Kd.R_base ho16) hb); have n1_ := Qa.mk (Kd.R_elder' (ro_ d8.out) (Kd.R_base ho16) hb); have n2_ := Qa.mk (Kd.R_lower (Kd.R_new' (Kd.R_new' ho16 (Kd.R_lt (ro_ b5.out))) (Kd.R_lt (ro_ d8.out))) (Qo bw_)); have n3_ := Qa.mk (Qq (g := a2) (o := .cells #[.slice a7 a5.length a8, .slice a9 a4.length b0, .slice b1 a3.length b2] 107 (0, 0)) (bk_ a0.out) hb); have n4_ := Qa.mk (Qq (g := a6) (o := .cells #[.slice none 0 0, .slice none 0 0, .slice none 0 0] 112 (0, 0)) (bk_ a1.out) hb); have n5_ := Qa.mk (Qj bw_ hb); clear b5; clear d8; clear a0; clear a1; clear HB; have b5 := n0_; have d8 := n1_; have b3 := n2_; have a0 := n3_; have a1 := n4_; have HB := n5_; clear n0_ n1_ n2_ n3_ n4_ n5_; clear hb ho16; refine hK.out _ _ (Kj a0.out) (fun hHeld => ?_); clear hK K; refine nN_ 11 ?_; exact np_ (hJ0_3_4_7_8 (b9, d0, b8, e1, b7) _ ⟨hHeld, (ro_ b5.out), (ro_ d8.out), (ro_ (Kd.R_mono b3.out (fun _ hk => ⟨hk.1.2, hk.2⟩))), (bk_ a0.out), (bk_ a1.out), bw_⟩)
    rintro ⟨b9, d0, b8, e1, b7⟩ w16 ⟨hS_, h0_, h1_, h2_, h3_, h4_, h5_⟩; have n0_ : Qa (Kd.R Kd.string 9 w16 w.heap.size (fun k_ => some k_ ≠ (e1 : Value).ownBlock ∧ some k_ ≠ (b7 : Value).ownBlock) d0 d6) := ⟨h0_⟩; have n1_ : Qa (Kd.R Kd.string 9 w16 w.heap.size (fun k_ => some k_ ≠ (d0 : Value).ownBlock ∧ some k_ ≠ (b7 : Value).ownBlock) e1 e2) := ⟨h1_⟩; have n2_ : Qa (Kd.R Kd.string 9 w16 w.heap.size (fun k_ => some k_ ≠ (d0 : Value).ownBlock ∧ some k_ ≠ (e1 : Value).ownBlock) b7 d3) := ⟨h2_⟩; have n3_ : Qa (w16.heap[a2]? = some (.cells #[.slice a7 a5.length a8, .slice a9 a4.length b0, .slice b1 a3.length b2] 107 (0, 0))) := ⟨h3_⟩; have n4_ : Qa (w16.heap[a6]? = some (.cells #[.slice none 0 0, .slice none 0 0, .slice none 0 0] 112 (0, 0))) := ⟨h4_⟩; have n5_ : Qa (Below w.heap.size w w16) := ⟨h5_⟩; clear a0; clear a1; clear HB; clear h0_ h1_ h2_ h3_ h4_ h5_; have b5 := n0_; have d8 := n1_; have b3 := n2_; have a0 := n3_; have a1 := n4_; have HB := n5_; clear n0_ n1_ n2_ n3_ n4_ n5_; have hHeld : w16.cell? ⟨a2, 0, none⟩ = some (.slice a7 a5.length a8) ∧ w16.cell? ⟨a2, 1, none⟩ = some (.slice a9 a4.length b0) ∧ w16.cell? ⟨a2, 2, none⟩ = some (.slice b1 a3.length b2) := hS_; refine np_ ?_; refine on_ (i := 11) (N := some 14) #[true, true, true, true, true, true, true, true, true, true, true, true, false, false] (fun K hK => ?_); refine Kd.R_append_rows_step Kd.string (w0 := w) w.heap.size (by rfl) (.tmp 11) (.tmp 13) 27 9 (.string ⟨#[]⟩) 16 rfl Try.underlying27 Ko rfl (by decide) (by omega) b7 d3 a3 _ _ _ (fun k_ => some k_ ≠ (d0 : Value).ownBlock ∧ some k_ ≠ (e1 : Value).ownBlock) (fun _ => False) rfl rfl ?aO ?aR (fun _ _ h => h) (fun _ h => h.elim) ?aF ?aB ?aS ?aL ?_
    (case aR => repeat (first | exact (Kd.C_below g5.out HB.out) | (with_reducible refine Kd.C_alloc ?_ _) | (with_reducible refine Kd.C_drewN ?_ _) | (with_reducible refine Kd.C_drew ?_)))
    (case aB => exact bw_)
    (case aF => exact (fun k_ hk => ⟨Kd.fresh' (Kd.R_lt (ro_ b5.out)) k_ hk, Kd.fresh' (Kd.R_lt (ro_ d8.out)) k_ hk⟩))
    (case aO => exact (ro_ b3.out))
    (case aS => exact (Qo bw_))
    (case aL => have := g7.out; omega)
    intro h4 w17 ho hb hg hat
    rw [← g6.out] at ho
    have n0_ := Qa.mk (Ym (g := a2) (o := .cells #[.slice a7 a5.length a8, .slice a9 a4.length b0, .slice b1 a3.length b2] 107 (0, 0)) (bk_ a0.out) hg (Kd.R_ne b3.out a0.out (by decide))); have n1_ := Qa.mk (Ym (g := a6) (o := .cells #[.slice none 0 0, .slice none 0 0, .slice none 0 0] 112 (0, 0)) (bk_ a1.out) hg (Kd.R_ne b3.out a1.out (by decide))); have n2_ := Qa.mk (Kd.R_after (ok := (fun k_ => some k_ ≠ (e1 : Value).ownBlock)) (ro_ b5.out) hg hat); have n3_ := Qa.mk (Kd.R_after (ok := (fun k_ => some k_ ≠ (d0 : Value).ownBlock)) (ro_ d8.out) hg hat); have n4_ := Qa.mk (hb); have n5_ := Qa.mk (ho); clear a0; clear a1; clear b5; clear d8; clear HB; clear b3; have a0 := n0_; have a1 := n1_; have b5 := n2_; have d8 := n3_; have HB := n4_; have g3 := n5_; clear n0_ n1_ n2_ n3_ n4_ n5_; clear ho hb hg hat; obtain ⟨f9, g0, eo18⟩ := Kd.R_slice g3.out
    (first | subst eo18 | (injection eo18 with f1_ f2_ f3_; have f4_ := f1_.symm; have f5_ := f3_.symm; clear f1_ f2_ f3_; subst f4_; subst f5_))
    obtain ⟨f6, f7, eo19⟩ := Kd.R_slice d8.out
    (first | subst eo19 | (injection eo19 with f1_ f2_ f3_; have f4_ := f1_.symm; have f5_ := f3_.symm; clear f1_ f2_ f3_; subst f4_; subst f5_))
    obtain ⟨f1, f2, eo20⟩ := Kd.R_slice b5.out
    (first | subst eo20 | (injection eo20 with f1_ f2_ f3_; have f4_ := f1_.symm; have f5_ := f3_.symm; clear f1_ f2_ f3_; subst f4_; subst f5_))
    refine hK.out _ _ (Kj a0.out) (fun hHeld => ?_); clear hK K; refine nN_ 14 ?_; refine pu_ (i := 12) (N := some 15) #[true, true, true, true, true, true, true, true, true, true, true, true, true, false] ?_; refine on_ (i := 13) (N := none) #[true, true, true, true, true, true, true, true, true, true, true, true, true, true] (fun K hK => ?_); have hs21 : w17.cell? ⟨a6, 0, none⟩ = some (.slice none 0 0) := (Qc a1.out 0).trans rfl; have hfs21 := Qe a1.out 0; have hns21_0 := d5.out; have hms21_0 := e4.out; have hs22 : w17.cell? ⟨a6, 1, none⟩ = some (.slice none 0 0) := (Qc a1.out 1).trans rfl; have hfs22 := Qe a1.out 1; have hns22_0 := d5.out; have hms22_0 := e4.out; have hs23 : w17.cell? ⟨a6, 2, none⟩ = some (.slice none 0 0) := (Qc a1.out 2).trans rfl; have hfs23 := Qe a1.out 2; have hns23_0 := d5.out; have hms23_0 := e4.out; refine Jz (w1 := ?_) (by rfl) rfl ?_ ?_; rotate_left
    ·go_simp
     rfl
    refine hK.out _ _ ⟨((Ze (p := ⟨a6, _, none⟩) d5.out _).trans (((Ze (p := ⟨a6, _, none⟩) d5.out _).trans (((Ze (p := ⟨a6, _, none⟩) d5.out _).trans (hHeld.1)))))), ((Ze (p := ⟨a6, _, none⟩) d5.out _).trans (((Ze (p := ⟨a6, _, none⟩) d5.out _).trans (((Ze (p := ⟨a6, _, none⟩) d5.out _).trans (hHeld.2.1)))))), ((Ze (p := ⟨a6, _, none⟩) d5.out _).trans (((Ze (p := ⟨a6, _, none⟩) d5.out _).trans (((Ze (p := ⟨a6, _, none⟩) d5.out _).trans (hHeld.2.2))))))⟩ (fun hHeld => ?_); clear hK K; refine Ki (Vq HT_.out (by kernel_rfl)) ?_
    try go_wp2
    refine bodyPost_ret (results_cell_row rfl _ _ a6 112 #[.slice f1 d6.length f2, .slice f6 e2.length f7, .slice f9 f5.length g0] (0, 0) _ rfl (by (with_reducible repeat (first | refine Qn ?_ _ | refine Qp ?_ | refine Ql ?_ _)); refine Za (cs := #[.slice f1 d6.length f2, .slice f6 e2.length f7, .slice none 0 0]) ?_ 2 _ rfl; (with_reducible repeat (first | refine Qn ?_ _ | refine Qp ?_ | refine Ql ?_ _)); refine Za (cs := #[.slice f1 d6.length f2, .slice none 0 0, .slice none 0 0]) ?_ 1 _ rfl; (with_reducible repeat (first | refine Qn ?_ _ | refine Qp ?_ | refine Ql ?_ _)); refine Za (cs := #[.slice none 0 0, .slice none 0 0, .slice none 0 0]) ?_ 0 _ rfl; (with_reducible repeat (first | refine Qn ?_ _ | refine Qp ?_ | refine Ql ?_ _)); exact a1.out) Try.underlying112 rfl (by kernel_rfl)) rfl ?_; exact ⟨_, _, _, by first | rfl | (simp [Qt, Qu] <;> rfl) | (simp [*, Qt, Qu] <;> rfl), by (with_reducible repeat (first | apply Kd.R_alloc | apply Kd.R_drewN | apply Kd.R_drew)); exact Kd.R_mono (Kd.R_far (p := ⟨a6, 2, none⟩) (Kd.R_far (p := ⟨a6, 1, none⟩) (Kd.R_far (p := ⟨a6, 0, none⟩) (Kd.R_types b5.out a1.out (by decide)) (fun _ hk => hk.2) (.slice f1 d6.length f2)) (fun _ hk => hk.2) (.slice f6 e2.length f7)) (fun _ hk => hk.2) (.slice f9 f5.length g0)) (fun _ hk => ⟨hk.1.1, hk.1.2⟩), by (with_reducible repeat (first | apply Kd.R_alloc | apply Kd.R_drewN | apply Kd.R_drew)); exact Kd.R_mono (Kd.R_far (p := ⟨a6, 2, none⟩) (Kd.R_far (p := ⟨a6, 1, none⟩) (Kd.R_far (p := ⟨a6, 0, none⟩) (Kd.R_types d8.out a1.out (by decide)) (fun _ hk => hk.2) (.slice f1 d6.length f2)) (fun _ hk => hk.2) (.slice f6 e2.length f7)) (fun _ hk => hk.2) (.slice f9 f5.length g0)) (fun _ hk => ⟨hk.1.1, hk.1.2⟩), by (with_reducible repeat (first | apply Kd.R_alloc | apply Kd.R_drewN | apply Kd.R_drew)); exact Kd.R_mono (Kd.R_far (p := ⟨a6, 2, none⟩) (Kd.R_far (p := ⟨a6, 1, none⟩) (Kd.R_far (p := ⟨a6, 0, none⟩) (Kd.R_types g3.out a1.out (by decide)) (fun _ hk => hk.2) (.slice f1 d6.length f2)) (fun _ hk => hk.2) (.slice f6 e2.length f7)) (fun _ hk => hk.2) (.slice f9 f5.length g0)) (fun _ hk => ⟨hk.1.1, hk.1.2⟩), bw_⟩
   ·rw [if_neg c4] at H
    exact absurd H (by simp)
  ·rw [if_neg c3] at H
   exact absurd H (by simp)
 ·rw [if_neg c2] at H
  exact absurd H (by simp)
def Uu.f (a0 : Bool) (a1 : Int) (a2 : Int) (a3 : Int) (a4 : Int) (a5 : Int) (a6 : Int) : Option (Bool × Int × Int × Int × Int × Int × Int) := some (a0, a1, a2, a3, a4, a5, a6)
set_option maxHeartbeats 8000000 in
set_option maxRecDepth 100000 in
theorem Uu.calls (a0 : Bool) (a1 : Int) (a2 : Int) (a3 : Int) (a4 : Int) (a5 : Int) (a6 : Int) (r1 : Bool) (r2 : Int) (r3 : Int) (r4 : Int) (r5 : Int) (r6 : Int) (r7 : Int) (w : World) (h : Uu.f a0 a1 a2 a3 a4 a5 a6 = some (r1, r2, r3, r4, r5, r6, r7)) :
  Calls Try.prog 121 #[.agg #[.bool a0, .int .i64 a1, .int .i64 a2, .int .i64 a3, .int .i64 a4, .int .i64 a5, .int .i64 a6]] w fun e w' => e = .returned (.agg #[.bool r1, .int .i64 r2, .int .i64 r3, .int .i64 r4, .int .i64 r5, .int .i64 r6, .int .i64 r7]) ∧ Below w.heap.size w w' := by
 have hu81 := Try.underlying81; have hu78 := Try.underlying78; have hu76 := Try.underlying76; have HB := Qa.mk (Below.refl w.heap.size w); have H : (some (a0, a1, a2, a3, a4, a5, a6)) = some (r1, r2, r3, r4, r5, r6, r7) := h; clear h
 simp only [Option.some.injEq, Prod.mk.injEq] at H
 obtain ⟨rfl, rfl, rfl, rfl, rfl, rfl, rfl⟩ := H
 go_enter Try.func121, Try.ntmps121
 go_wp2_with (first | ((with_reducible refine Zd (N := 1) rfl ?_); refine Zc ?hg (N := 1) ?hd (cs := #[.bool a0, .int .i64 a1, .int .i64 a2, .int .i64 a3, .int .i64 a4, .int .i64 a5, .int .i64 a6]) (t := 81) ?hr ?_; (case hd => rfl); (case hg => rfl); (case hr => first | (go_simp; done) | (go_simp; rfl)); intro a7 hg w2 hbox hb; have n0_ := Qa.mk (Qj bw_ hb); have n1_ := Qa.mk (hbox); have n2_ := Qa.mk ((gw_ hg : w.heap.size ≤ a7)); have n3_ := Qa.mk ((gw_ hg : w.heap.size ≤ a7)); clear HB; have HB := n0_; have a8 := n1_; have f3 := n2_; have GE101 := n3_; clear n0_ n1_ n2_ n3_; clear hb hbox hg) | ((with_reducible refine Zd (N := 2) rfl ?_); refine Zc ?hg (N := 2) ?hd (cs := #[.bool false, .int .i64 0, .int .i64 0, .int .i64 0, .int .i64 0, .int .i64 0, .int .i64 0]) (t := 78) ?hr ?_; (case hd => rfl); (case hg => rfl); (case hr => first | (go_simp; done) | (go_simp; rfl)); intro a9 hg w3 hbox hb; have n0_ := Qa.mk (Qq (g := a7) (o := .cells #[.bool a0, .int .i64 a1, .int .i64 a2, .int .i64 a3, .int .i64 a4, .int .i64 a5, .int .i64 a6] 81 (0, 0)) (bk_ a8.out) hb); have n1_ := Qa.mk (Qj bw_ hb); have n2_ := Qa.mk (hbox); have n3_ := Qa.mk ((gw_ hg : w.heap.size ≤ a9)); have n4_ := Qa.mk ((gw_ hg : w.heap.size ≤ a9)); have n5_ := Qa.mk ((by rw [hg]; exact Nat.ne_of_lt (Zu (g := a7) (o := .cells #[.bool a0, .int .i64 a1, .int .i64 a2, .int .i64 a3, .int .i64 a4, .int .i64 a5, .int .i64 a6] 81 (0, 0)) (bk_ a8.out)) : a7 ≠ a9)); have n6_ := Qa.mk ((by rw [hg]; exact Nat.ne_of_gt (Zu (g := a7) (o := .cells #[.bool a0, .int .i64 a1, .int .i64 a2, .int .i64 a3, .int .i64 a4, .int .i64 a5, .int .i64 a6] 81 (0, 0)) (bk_ a8.out)) : a9 ≠ a7)); clear a8; clear HB; have a8 := n0_; have HB := n1_; have b0 := n2_; have f4 := n3_; have GE102 := n4_; have b1 := n5_; have b2 := n6_; clear n0_ n1_ n2_ n3_ n4_ n5_ n6_; clear hb hbox hg; have f5 := b1.out; have f6 := b2.out; obtain ⟨b3, b4, b5, b6, b7, b8, b9⟩ := Qbv a8.out; obtain ⟨d0, d3, d4, d5, d6, d7, d8⟩ := Qdx a8.out; obtain ⟨d9, e0, e1, e2, e3, e4, e5⟩ := Qbv b0.out; obtain ⟨e6, e7, e8, e9, f0, f1, f2⟩ := Qdx b0.out)); refine bodyPost_ret (results_cell_row rfl _ _ a9 78 #[.bool a0, .int .i64 a1, .int .i64 a2, .int .i64 a3, .int .i64 a4, .int .i64 a5, .int .i64 a6] (0, 0) _ rfl (by (with_reducible repeat (first | refine Qn ?_ _ | refine Qp ?_ | refine Ql ?_ _)); refine Za (cs := #[.bool a0, .int .i64 a1, .int .i64 a2, .int .i64 a3, .int .i64 a4, .int .i64 a5, .int .i64 0]) ?_ 6 _ rfl; (with_reducible repeat (first | refine Qn ?_ _ | refine Qp ?_ | refine Ql ?_ _)); refine Za (cs := #[.bool a0, .int .i64 a1, .int .i64 a2, .int .i64 a3, .int .i64 a4, .int .i64 0, .int .i64 0]) ?_ 5 _ rfl; (with_reducible repeat (first | refine Qn ?_ _ | refine Qp ?_ | refine Ql ?_ _)); refine Za (cs := #[.bool a0, .int .i64 a1, .int .i64 a2, .int .i64 a3, .int .i64 0, .int .i64 0, .int .i64 0]) ?_ 4 _ rfl; (with_reducible repeat (first | refine Qn ?_ _ | refine Qp ?_ | refine Ql ?_ _)); refine Za (cs := #[.bool a0, .int .i64 a1, .int .i64 a2, .int .i64 0, .int .i64 0, .int .i64 0, .int .i64 0]) ?_ 3 _ rfl; (with_reducible repeat (first | refine Qn ?_ _ | refine Qp ?_ | refine Ql ?_ _)); refine Za (cs := #[.bool a0, .int .i64 a1, .int .i64 0, .int .i64 0, .int .i64 0, .int .i64 0, .int .i64 0]) ?_ 2 _ rfl; (with_reducible repeat (first | refine Qn ?_ _ | refine Qp ?_ | refine Ql ?_ _)); refine Za (cs := #[.bool a0, .int .i64 0, .int .i64 0, .int .i64 0, .int .i64 0, .int .i64 0, .int .i64 0]) ?_ 1 _ rfl; (with_reducible repeat (first | refine Qn ?_ _ | refine Qp ?_ | refine Ql ?_ _)); refine Za (cs := #[.bool false, .int .i64 0, .int .i64 0, .int .i64 0, .int .i64 0, .int .i64 0, .int .i64 0]) ?_ 0 _ rfl; (with_reducible repeat (first | refine Qn ?_ _ | refine Qp ?_ | refine Ql ?_ _)); exact b0.out) Try.underlying78 rfl (by kernel_rfl)) rfl ?_; exact ⟨by first | rfl | (simp [Qt, Qu] <;> rfl) | (simp [*, Qt, Qu] <;> rfl), bw_⟩
def Zq.l0 : Nat → List (S81) → List (S78) → Int → Option ((List (S78)))
 | 0, _, _, _ => none
 | k + 1, x0, x3, x4 => if x4 < (x0.length : Int) then (if 0 ≤ x4 then ((Uu.f ((Vt x0 x4).f0) ((Vt x0 x4).f1.f0) ((Vt x0 x4).f1.f1) ((Vt x0 x4).f2.f0) ((Vt x0 x4).f2.f1) ((Vt x0 x4).f3.f0) ((Vt x0 x4).f3.f1)).bind fun a1 => (if x3.length < 2513169434916 then (Zq.l0 k x0 (x3 ++ [(⟨a1.1, (⟨a1.2.1, a1.2.2.1⟩ : S76), (⟨a1.2.2.2.1, a1.2.2.2.2.1⟩ : S76), (⟨a1.2.2.2.2.2.1, a1.2.2.2.2.2.2⟩ : S76)⟩ : S78)]) (wrap64 (x4 + 1))) else (none))) else (none)) else (some x3)
def Zq.f (k : Nat) (l0 : List (S81)) : Option ((List (S78))) := Zq.l0 k l0 ([] : List (S78)) 0
set_option maxHeartbeats 8000000 in
set_option maxRecDepth 100000 in
theorem Zq.calls (k : Nat) (A0 : Option Addr) (c0 : Nat) (l0 : List (S81)) (r : List (S78)) (w : World) (hr0 : Kd.C k81 w A0 l0.length l0) (hc0 : l0.length ≤ c0) (h : Zq.f k l0 = some r) :
  Calls Try.prog 75 #[.slice A0 l0.length c0] w fun e w' => ∃ v0_ : Value, e = .returned (v0_) ∧ Kd.R k78 78 w' w.heap.size (fun _ => True) v0_ r ∧ Below w.heap.size w w' := by
 have hu81 := Try.underlying81; have HR0 := Qa.mk hr0; have HC0 := Qa.mk hc0; clear hr0 hc0; have HB := Qa.mk (Below.refl w.heap.size w); have H : (Zq.l0 k l0 ([] : List (S78)) 0) = some r := h; clear h; have H' := Qa.mk H; clear H
 go_enter Try.func75, Try.ntmps75
 go_wp2
 go_loopg [3, 4] k (fun kq v3 v4 w' => ∃ (a2 : List (S78)) (a0 : Int), v4 = .int .i64 a0 ∧ Qa (Zq.l0 kq l0 a2 a0 = some r) ∧ Qa (kq ≤ k) ∧ Qa (Kd.R k78 78 w' w.heap.size (fun _ => True) v3 a2) ∧ Qa (Below w.heap.size w w'))
 case atStart => exact ⟨(([] : List (S78))), (0), sm_, H', ⟨Nat.le_refl _⟩, ⟨by first | exact Kd.R_nil _ _ _ _ _ | exact Kd.N_nil _ _ _ _ _ | exact Kd.V_nil _ _ _ _ _ | exact Kd.Q_nil _ _ _ _ _ | exact Kd.S_nil _ _ _ _ _⟩, ⟨bw_⟩⟩
 case round =>
  clear H'; obtain ⟨a2, a0, rfl, HA, HK1, a4, HB⟩ := hrel
  cases gk with
  | zero => exact absurd HA.out (by simp [Zq.l0])
  | succ k1 =>
   have H := HA.out; clear HA
   simp only [Zq.l0] at H
   by_cases c2 : a0 < (l0.length : Int)
   ·rw [if_pos c2] at H
    have d6 : decide (a0 < (l0.length : Int)) = true := decide_eq_true c2; clear c2
    by_cases c3 : 0 ≤ a0
    ·rw [if_pos c3] at H
     have e0 : decide (0 ≤ a0) = true := decide_eq_true c3; clear c3; replace H := Option.bind_eq_some_iff.mp H; obtain ⟨⟨a5, a6, a7, a8, a9, b0, b1⟩, A40, H⟩ := H; replace H : (if a2.length < 2513169434916 then (Zq.l0 k1 l0 (a2 ++ [(⟨a5, (⟨a6, a7⟩ : S76), (⟨a8, a9⟩ : S76), (⟨b0, b1⟩ : S76)⟩ : S78)]) (wrap64 (a0 + 1))) else (none)) = some r := H; have A4 := Qa.mk A40; clear A40
     by_cases c5 : a2.length < 2513169434916
     ·rw [if_pos c5] at H
      have d7 := Qa.mk c5; clear c5; obtain ⟨d3, a3⟩ : ∃ y_ : List (S78), y_ = (a2 ++ [(⟨a5, (⟨a6, a7⟩ : S76), (⟨a8, a9⟩ : S76), (⟨b0, b1⟩ : S76)⟩ : S78)]) := ⟨_, rfl⟩
      replace H : (Zq.l0 k1 l0 d3 (wrap64 (a0 + 1))) = some r := by first | (rw [a3]; with_reducible exact H) | (have H2_ := (Option.bind_some _ _).symm.trans H; rw [a3]; with_reducible exact H2_) | (have H2_ := (Option.bind_some _ _).symm.trans H; with_reducible exact H2_) | with_reducible exact H | (rw [a3]; exact H) | exact H
      have d4 := Qa.mk a3; clear a3; have H' := Qa.mk H; clear H; have b9 : 0 ≤ (a0 : Int) := of_decide_eq_true Zx; have d0 : a0 < (l0.length : Int) := of_decide_eq_true Zx; obtain ⟨d9, d8, b2, b3, b4, b5, b6, b7, b8⟩ := Qjv HR0.out a0 b9 d0
      cases d8; replace b2 := Qg HB.out b2; replace b3 := Qg HB.out b3; replace b4 := Qg HB.out b4; replace b5 := Qg HB.out b5; replace b6 := Qg HB.out b6; replace b7 := Qg HB.out b7; replace b8 := Qg HB.out b8; replace b9 := eq_true b9; replace d0 := eq_true d0; go_wp2_with (first | ((with_reducible refine Xo (f := 121) rfl ?_); refine Vb (some 16) rfl rfl Try.func121 (by kernel_rfl) rfl #[.agg #[.bool ((Vt l0 a0).f0), .int .i64 ((Vt l0 a0).f1.f0), .int .i64 ((Vt l0 a0).f1.f1), .int .i64 ((Vt l0 a0).f2.f0), .int .i64 ((Vt l0 a0).f2.f1), .int .i64 ((Vt l0 a0).f3.f0), .int .i64 ((Vt l0 a0).f3.f1)]] rfl (by (try simp only [List.map_toArray, List.map_cons, List.map_nil]); first | done | rfl | (simp only [List.length_drop, List.length_take]; rfl)) ?_; (with_reducible refine (Uu.calls ((Vt l0 a0).f0) ((Vt l0 a0).f1.f0) ((Vt l0 a0).f1.f1) ((Vt l0 a0).f2.f0) ((Vt l0 a0).f2.f1) ((Vt l0 a0).f3.f0) ((Vt l0 a0).f3.f1) a5 a6 a7 a8 a9 b0 b1 _ A4.out).mono ?_); rintro e w6 ⟨rfl, hb⟩; refine ⟨_, rfl, ?_⟩; have n0_ := Qa.mk (Kd.R_below (ro_ a4.out) hb); have n1_ := Qa.mk (Qj bw_ hb); clear a4; clear HB; have a4 := n0_; have HB := n1_; clear n0_ n1_; (try clear hb); (try clear hb2); (try clear hk); (try clear hi)) | ((with_reducible refine Xl (b := .append) (xs := #[.tmp 11, .tmp 17]) rfl ?_); at_builtin; refine Kd.R_append k78 (w0 := w) w.heap.size rfl (.tmp 11) (.tmp 17) 67 78 (.agg #[(.bool false), (.int .i64 0), (.int .i64 0), (.int .i64 0), (.int .i64 0), (.int .i64 0), (.int .i64 0)]) 56 rfl Try.underlying67 Qpp rfl (by decide) (by omega) u3 a2 (⟨a5, (⟨a6, a7⟩ : S76), (⟨a8, a9⟩ : S76), (⟨b0, b1⟩ : S76)⟩ : S78) [.bool a5, .int .i64 a6, .int .i64 a7, .int .i64 a8, .int .i64 a9, .int .i64 b0, .int .i64 b1] (fun _ => True) (fun _ => False) rfl rfl ?aP (fun _ hk => hk.elim) ?aF ?aO ?aB ?aS ?aL ?_; (case aP => exact Qkx _ _ _ (⟨a5, (⟨a6, a7⟩ : S76), (⟨a8, a9⟩ : S76), (⟨b0, b1⟩ : S76)⟩ : S78)); (case aB => exact bw_); (case aF => exact (fun _ _ => trivial)); (case aO => exact (ro_ a4.out)); (case aS => exact (Qo bw_)); (case aL => have := d7.out; omega); intro e1 w7 ho hb hg hat; rw [← d4.out] at ho; have n0_ := Qa.mk (hb); have n1_ := Qa.mk (ho); clear HB; clear a4; have HB := n0_; have d5 := n1_; clear n0_ n1_; clear ho hb hg hat))
      go_roundg k1
      case measure => have := HK1.out; omega
      case rel => exact ⟨(d3), (wrap64 (a0 + 1)), sm_, H', ⟨by have := HK1.out; omega⟩, ⟨ro_ d5.out⟩, ⟨bw_⟩⟩
     ·rw [if_neg c5] at H
      exact absurd H (by simp)
    ·rw [if_neg c3] at H
     exact absurd H (by simp)
   ·rw [if_neg c2] at H
    have d6 : decide (a0 < (l0.length : Int)) = false := decide_eq_false c2; clear c2; obtain rfl := Option.some.inj H
    go_wp2
    go_ret; exact ⟨_, by first | rfl | (simp [Qt, Qu] <;> rfl) | (simp [*, Qt, Qu] <;> rfl), ro_ a4.out, bw_⟩
def Zt.l0 : Nat → Int → List (Yv) → Int → Int → Option (Int)
 | 0, _, _, _, _ => none
 | k + 1, x3, x6, x7, x8 => if x8 < x7 then (if 0 ≤ x8 then (if x8 < (x6.length : Int) then (if (Qb x6 x8).f1 = true then (Zt.l0 k (wrap64 (x3 + 1)) x6 x7 (wrap64 (x8 + 1))) else (Zt.l0 k x3 x6 x7 (wrap64 (x8 + 1)))) else (none)) else (none)) else (some x3)
def Zt.f (k : Nat) (l0 : List (Yv)) : Option (Int) := Zt.l0 k 0 l0 (l0.length : Int) 0
set_option maxHeartbeats 8000000 in
set_option maxRecDepth 100000 in
theorem Zt.calls (k : Nat) (A0 : Option Addr) (c0 : Nat) (l0 : List (Yv)) (r : Int) (w : World) (hr0 : Kd.C Je w A0 l0.length l0) (hc0 : l0.length ≤ c0) (h : Zt.f k l0 = some r) :
  Calls Try.prog 76 #[.slice A0 l0.length c0] w fun e w' => e = .returned (.int .i64 r) ∧ Below w.heap.size w w' := by
 have hu120 := Try.underlying120; have HR0 := Qa.mk hr0; have HC0 := Qa.mk hc0; clear hr0 hc0; have HB := Qa.mk (Below.refl w.heap.size w); have H : (Zt.l0 k 0 l0 (l0.length : Int) 0) = some r := h; clear h; have H' := Qa.mk H; clear H
 go_enter Try.func76, Try.ntmps76
 go_wp2
 go_loopg [3, 8] k (fun kq v3 v8 w' => ∃ (b0 : Int) (a0 : Int), v3 = .int .i64 b0 ∧ v8 = .int .i64 a0 ∧ Qa (Zt.l0 kq b0 l0 (l0.length : Int) a0 = some r) ∧ Qa (kq ≤ k) ∧ Qa (Below w.heap.size w w'))
 case atStart => exact ⟨(0), (0), sm_, sm_, H', ⟨Nat.le_refl _⟩, ⟨bw_⟩⟩
 case round =>
  clear H'; obtain ⟨b0, a0, rfl, rfl, HA, HK1, HB⟩ := hrel
  cases gk with
  | zero => exact absurd HA.out (by simp [Zt.l0])
  | succ k1 =>
   have H := HA.out; clear HA
   simp only [Zt.l0] at H
   by_cases c2 : a0 < (l0.length : Int)
   ·rw [if_pos c2] at H
    have b8 : decide (a0 < (l0.length : Int)) = true := decide_eq_true c2; clear c2
    by_cases c3 : 0 ≤ a0
    ·rw [if_pos c3] at H
     have g8 : decide (0 ≤ a0) = true := decide_eq_true c3; clear c3
     by_cases c4 : a0 < (l0.length : Int)
     ·rw [if_pos c4] at H
      have g9 : decide (a0 < (l0.length : Int)) = true := decide_eq_true c4; clear c4; obtain ⟨bq5, hbq5⟩ : ∃ b_ : Bool, b_ = ((Qb l0 a0).f1) := ⟨_, rfl⟩
      replace H : (if bq5 = true then (Zt.l0 k1 (wrap64 (b0 + 1)) l0 (l0.length : Int) (wrap64 (a0 + 1))) else (Zt.l0 k1 b0 l0 (l0.length : Int) (wrap64 (a0 + 1)))) = some r := by rw [← hbq5] at H; exact H
      have Nbq5 := Qa.mk hbq5; clear hbq5
      by_cases c6 : bq5 = true
      ·subst c6
       have H1 : (Zt.l0 k1 (wrap64 (b0 + 1)) l0 (l0.length : Int) (wrap64 (a0 + 1))) = some r := by rw [if_pos rfl] at H; exact H
       clear H; have H := H1; clear H1; have H' := Qa.mk H; clear H; have b1 : 0 ≤ (a0 : Int) := of_decide_eq_true Zx; have b2 : a0 < (l0.length : Int) := of_decide_eq_true Zx; obtain ⟨b6, b5, a3, a4, a5, a1, a6, a7, a8, a9, a2⟩ := Ky HR0.out a0 b1 b2
       (try rw [← Nbq5.out] at a1)
       (try rw [← Nbq5.out] at a2)
       cases b5; replace a3 := Qg HB.out a3; replace a4 := Qg HB.out a4; replace a5 := Qg HB.out a5; replace a1 := Qg HB.out a1; replace a6 := Qg HB.out a6; replace a7 := Qg HB.out a7; replace a8 := Qg HB.out a8; replace a9 := Qg HB.out a9; replace a2 := Qg HB.out a2; replace b1 := eq_true b1; replace b2 := eq_true b2; go_wp2_with (first | ((with_reducible refine Zd (N := 5) rfl ?_); refine Zc ?hg (N := 5) ?hd (cs := #[.string (⟨#[]⟩ : ByteArray), .string (⟨#[]⟩ : ByteArray), .string (⟨#[]⟩ : ByteArray), .bool false, .string (⟨#[]⟩ : ByteArray), .string (⟨#[]⟩ : ByteArray), .string (⟨#[]⟩ : ByteArray), .string (⟨#[]⟩ : ByteArray), .bool false]) (t := 120) ?hr ?_; (case hd => rfl); (case hg => rfl); (case hr => first | (go_simp; done) | (go_simp; rfl)); intro b3 hg w7 hbox hb; have n0_ := Qa.mk (Qj bw_ hb); have n1_ := Qa.mk (hbox); have n2_ := Qa.mk ((gw_ hg : w.heap.size ≤ b3)); have n3_ := Qa.mk ((gw_ hg : w.heap.size ≤ b3)); clear HB; have HB := n0_; have b4 := n1_; have b7 := n2_; have GE102 := n3_; clear n0_ n1_ n2_ n3_; clear hb hbox hg; obtain ⟨e9, f0, f2, f3, f4, f5, f6, f7, f8⟩ := Ju b4.out; obtain ⟨f9, g0, g1, g2, g3, g4, g5, g6, g7⟩ := Jv b4.out))
       go_roundg k1
       case measure => have := HK1.out; omega
       case rel => exact ⟨(wrap64 (b0 + 1)), (wrap64 (a0 + 1)), sm_, sm_, H', ⟨by have := HK1.out; omega⟩, ⟨bw_⟩⟩
      ·replace c6 := Bool.eq_false_iff.mpr c6
       subst c6
       have H1 : (Zt.l0 k1 b0 l0 (l0.length : Int) (wrap64 (a0 + 1))) = some r := by rw [if_neg (show ¬ (false = true) by decide)] at H; exact H
       clear H; have H := H1; clear H1; have H' := Qa.mk H; clear H; have b1 : 0 ≤ (a0 : Int) := of_decide_eq_true Zx; have b2 : a0 < (l0.length : Int) := of_decide_eq_true Zx; obtain ⟨b6, b5, a3, a4, a5, a1, a6, a7, a8, a9, a2⟩ := Ky HR0.out a0 b1 b2
       (try rw [← Nbq5.out] at a1)
       (try rw [← Nbq5.out] at a2)
       cases b5; replace a3 := Qg HB.out a3; replace a4 := Qg HB.out a4; replace a5 := Qg HB.out a5; replace a1 := Qg HB.out a1; replace a6 := Qg HB.out a6; replace a7 := Qg HB.out a7; replace a8 := Qg HB.out a8; replace a9 := Qg HB.out a9; replace a2 := Qg HB.out a2; replace b1 := eq_true b1; replace b2 := eq_true b2; go_wp2_with (first | ((with_reducible refine Zd (N := 5) rfl ?_); refine Zc ?hg (N := 5) ?hd (cs := #[.string (⟨#[]⟩ : ByteArray), .string (⟨#[]⟩ : ByteArray), .string (⟨#[]⟩ : ByteArray), .bool false, .string (⟨#[]⟩ : ByteArray), .string (⟨#[]⟩ : ByteArray), .string (⟨#[]⟩ : ByteArray), .string (⟨#[]⟩ : ByteArray), .bool false]) (t := 120) ?hr ?_; (case hd => rfl); (case hg => rfl); (case hr => first | (go_simp; done) | (go_simp; rfl)); intro b3 hg w9 hbox hb; have n0_ := Qa.mk (Qj bw_ hb); have n1_ := Qa.mk (hbox); have n2_ := Qa.mk ((gw_ hg : w.heap.size ≤ b3)); have n3_ := Qa.mk ((gw_ hg : w.heap.size ≤ b3)); clear HB; have HB := n0_; have b4 := n1_; have b7 := n2_; have GE102 := n3_; clear n0_ n1_ n2_ n3_; clear hb hbox hg; obtain ⟨b9, d0, d3, d4, d5, d6, d7, d8, d9⟩ := Ju b4.out; obtain ⟨e0, e1, e2, e3, e4, e5, e6, e7, e8⟩ := Jv b4.out))
       go_roundg k1
       case measure => have := HK1.out; omega
       case rel => exact ⟨(b0), (wrap64 (a0 + 1)), sm_, sm_, H', ⟨by have := HK1.out; omega⟩, ⟨bw_⟩⟩
     ·rw [if_neg c4] at H
      exact absurd H (by simp)
    ·rw [if_neg c3] at H
     exact absurd H (by simp)
   ·rw [if_neg c2] at H
    have b8 : decide (a0 < (l0.length : Int)) = false := decide_eq_false c2; clear c2; obtain rfl := Option.some.inj H
    go_wp2
    go_ret; exact ⟨by first | rfl | (simp [Qt, Qu] <;> rfl) | (simp [*, Qt, Qu] <;> rfl), bw_⟩
def Zg.l0 : Nat → List ByteArray → ByteArray → Int → Option (ByteArray)
 | 0, _, _, _ => none
 | k + 1, x0, x3, x4 => if x4 < (x0.length : Int) then (if 0 ≤ x4 then (if x3.size + (Ye ByteArray.empty x0 x4).size ≤ 9223372036854775807 then (Zg.l0 k x0 (x3 ++ (Ye ByteArray.empty x0 x4)) (wrap64 (x4 + 1))) else (none)) else (none)) else (some x3)
def Zg.f (k : Nat) (l0 : List ByteArray) : Option (ByteArray) := Zg.l0 k l0 (⟨#[]⟩ : ByteArray) 0
set_option maxHeartbeats 8000000 in
set_option maxRecDepth 100000 in
theorem Zg.calls (k : Nat) (A0 : Option Addr) (c0 : Nat) (l0 : List ByteArray) (r : ByteArray) (w : World) (hr0 : Kd.C Kd.string w A0 l0.length l0) (hc0 : l0.length ≤ c0) (h : Zg.f k l0 = some r) :
  Calls Try.prog 78 #[.slice A0 l0.length c0] w fun e w' => e = .returned (.string r) ∧ Zl w w' := by
 have HR0 := Qa.mk hr0; have HC0 := Qa.mk hc0; clear hr0 hc0; have H : (Zg.l0 k l0 (⟨#[]⟩ : ByteArray) 0) = some r := h; clear h; have H' := Qa.mk H; clear H
 go_enter Try.func78, Try.ntmps78
 go_wp2
 go_loopg [3, 4] k (fun kq v3 v4 w' => ∃ (a1 : ByteArray) (a0 : Int), v3 = .string a1 ∧ v4 = .int .i64 a0 ∧ Qa (Zg.l0 kq l0 a1 a0 = some r) ∧ Qa (kq ≤ k) ∧ Zl w w')
 case atStart => exact ⟨((⟨#[]⟩ : ByteArray)), (0), sm_, sm_, H', ⟨Nat.le_refl _⟩, by repeat (first | exact Zl.refl _ | apply Zl.step)⟩
 case round =>
  clear H'; obtain ⟨a1, a0, rfl, rfl, HA, HK1, ⟨m1, rfl⟩⟩ := hrel
  cases gk with
  | zero => exact absurd HA.out (by simp [Zg.l0])
  | succ k1 =>
   have H := HA.out; clear HA
   simp only [Zg.l0] at H
   by_cases c2 : a0 < (l0.length : Int)
   ·rw [if_pos c2] at H
    have a4 : decide (a0 < (l0.length : Int)) = true := decide_eq_true c2; clear c2
    by_cases c3 : 0 ≤ a0
    ·rw [if_pos c3] at H
     have a8 : decide (0 ≤ a0) = true := decide_eq_true c3; clear c3
     by_cases c4 : a1.size + (Ye ByteArray.empty l0 a0).size ≤ 9223372036854775807
     ·rw [if_pos c4] at H
      have a9 := eq_true c4; have b0 : decide (a1.size + (Ye ByteArray.empty l0 a0).size ≤ 9223372036854775807) = true := decide_eq_true c4
      try have b1 : (9223372036854775807 < a1.size + (Ye ByteArray.empty l0 a0).size) = False := eq_false (Nat.not_lt.2 c4)
      have H' := Qa.mk H; clear H; have a2 : 0 ≤ (a0 : Int) := of_decide_eq_true Zx; have a3 : a0 < (l0.length : Int) := of_decide_eq_true Zx; obtain ⟨a7, a5, a6⟩ := Kd.at_string HR0.out a0 a2 a3
      cases a5; replace a2 := eq_true a2; replace a3 := eq_true a3
      go_wp2
      go_roundg k1
      case measure => have := HK1.out; omega
      case rel => exact ⟨(a1 ++ (Ye ByteArray.empty l0 a0)), (wrap64 (a0 + 1)), sm_, sm_, H', ⟨by have := HK1.out; omega⟩, by repeat (first | exact Zl.refl _ | apply Zl.step)⟩
     ·rw [if_neg c4] at H
      exact absurd H (by simp)
    ·rw [if_neg c3] at H
     exact absurd H (by simp)
   ·rw [if_neg c2] at H
    have a4 : decide (a0 < (l0.length : Int)) = false := decide_eq_false c2; clear c2; obtain rfl := Option.some.inj H
    go_wp2
    go_ret; exact ⟨sm_, by repeat (first | exact Zl.refl _ | apply Zl.step)⟩
end Go.Proofs.Ytadafplbgophfaa.PA
end
section
namespace Go.Proofs.Ytadafplbgophfaa.PA
open Go.RowKit Go.Proofs.YtadafplbgophfaaW.PrintWords Go.Proofs.YtadafplbgophfaaW.PrintLast Go.Proofs.YtadafplbgophfaaW.PrintMore
attribute [local go_sem] Xx Xz Yk Yl Xj Xk Xy Ya
attribute [local go_sem high] Qjx
def Yb.f (a0 : ByteArray) (a1 : ByteArray) (a2 : ByteArray) (a3 : Bool) (a8 : ByteArray) (a4 : ByteArray) (a5 : ByteArray) (a6 : ByteArray) (a7 : Bool) : Option (Bool) := some (a0.toList == ([] : List UInt8) && (a1.toList == ([] : List UInt8) && (a2.toList == ([] : List UInt8) && (!a3 && (a4.toList == ([] : List UInt8) && (a5.toList == ([] : List UInt8) && (a6.toList == ([] : List UInt8) && (!a7))))))))
set_option maxHeartbeats 8000000 in
set_option maxRecDepth 100000 in
theorem Yb.calls (a0 : ByteArray) (a1 : ByteArray) (a2 : ByteArray) (a3 : Bool) (a8 : ByteArray) (a4 : ByteArray) (a5 : ByteArray) (a6 : ByteArray) (a7 : Bool) (r : Bool) (w : World) (h : Yb.f a0 a1 a2 a3 a8 a4 a5 a6 a7 = some r) :
  Calls Try.prog 134 #[.agg #[.string a0, .string a1, .string a2, .bool a3, .string a8, .string a4, .string a5, .string a6, .bool a7]] w fun e w' => e = .returned (.bool r) ∧ Below w.heap.size w w' := by
 have hu123 := Try.underlying123; have HB := Qa.mk (Below.refl w.heap.size w); have H : (some (a0.toList == ([] : List UInt8) && (a1.toList == ([] : List UInt8) && (a2.toList == ([] : List UInt8) && (!a3 && (a4.toList == ([] : List UInt8) && (a5.toList == ([] : List UInt8) && (a6.toList == ([] : List UInt8) && (!a7))))))))) = some r := h; clear h; obtain rfl := Option.some.inj H
 go_enter Try.func134, Try.ntmps134
 go_wp2_with (first | ((with_reducible refine Zd (N := 1) rfl ?_); refine Zc ?hg (N := 1) ?hd (cs := #[.string a0, .string a1, .string a2, .bool a3, .string a8, .string a4, .string a5, .string a6, .bool a7]) (t := 123) ?hr ?_; (case hd => rfl); (case hg => rfl); (case hr => first | (go_simp; done) | (go_simp; rfl)); intro a9 hg w2 hbox hb; have n0_ := Qa.mk (Qj bw_ hb); have n1_ := Qa.mk (hbox); have n2_ := Qa.mk ((gw_ hg : w.heap.size ≤ a9)); have n3_ := Qa.mk ((gw_ hg : w.heap.size ≤ a9)); clear HB; have HB := n0_; have b0 := n1_; have e1 := n2_; have GE101 := n3_; clear n0_ n1_ n2_ n3_; clear hb hbox hg; obtain ⟨b1, b2, b3, b4, b5, b6, b7, b8, b9⟩ := Ju b0.out; obtain ⟨d0, d3, d4, d5, d6, d7, d8, d9, e0⟩ := Jv b0.out)); go_ret; exact ⟨by first | rfl | (simp [Qt, Qu] <;> rfl) | (simp [*, Qt, Qu] <;> rfl), bw_⟩
end Go.Proofs.Ytadafplbgophfaa.PA
end
section
namespace Go.Proofs.Ytadafplbgophfaa.PA
open Go.RowKit Go.Proofs.YtadafplbgophfaaW.PrintWords Go.Proofs.YtadafplbgophfaaW.PrintLast Go.Proofs.YtadafplbgophfaaW.PrintMore
attribute [local go_sem] Xx Xz Yk Yl Xj Xk Xy Ya
mutual
def Qy.l0 : Nat → List (Xi) → List (Xi) → Int → Option ((List (Xi)))
 | 0, _, _, _ => none
 | k + 1, x0, x3, x4 => if x4 < (x0.length : Int) then (if 0 ≤ x4 then ((Yb.f ((Qd x0 x4).f0) ((Qd x0 x4).f1) ((Qd x0 x4).f2) ((Qd x0 x4).f3) ((Qd x0 x4).f4) ((Qd x0 x4).f5) ((Qd x0 x4).f6) ((Qd x0 x4).f7) ((Qd x0 x4).f8)).bind fun n2 => (if n2 = true then (Qy.j1 k x0 x3 x4 (x3.length : Int) (((Qd x0 x4).f4).toList == ([] : List UInt8))) else (Qy.j1 k x0 x3 x4 (x3.length : Int) false))) else (none)) else (some x3)
def Qy.j1 : Nat → List (Xi) → List (Xi) → Int → Int → Bool → Option ((List (Xi)))
 | 0, _, _, _, _, _ => none
 | k + 1, x0, x3, x4, x5, x26 => if x26 = true then (Qy.l0 k x0 x3 (wrap64 (x4 + 1))) else (if 0 ≤ x4 then (if x4 < (x0.length : Int) then ((Yb.f ((Qd x0 x4).f0) ((Qd x0 x4).f1) ((Qd x0 x4).f2) ((Qd x0 x4).f3) ((Qd x0 x4).f4) ((Qd x0 x4).f5) ((Qd x0 x4).f6) ((Qd x0 x4).f7) ((Qd x0 x4).f8)).bind fun g5 => (if g5 = true then (if x5 > 0 then (if 0 ≤ (wrap64 (x5 - 1)) then (if (wrap64 (x5 - 1)) < (x3.length : Int) then ((Yb.f ((Qd x3 (wrap64 (x5 - 1))).f0) ((Qd x3 (wrap64 (x5 - 1))).f1) ((Qd x3 (wrap64 (x5 - 1))).f2) ((Qd x3 (wrap64 (x5 - 1))).f3) ((Qd x3 (wrap64 (x5 - 1))).f4) ((Qd x3 (wrap64 (x5 - 1))).f5) ((Qd x3 (wrap64 (x5 - 1))).f6) ((Qd x3 (wrap64 (x5 - 1))).f7) ((Qd x3 (wrap64 (x5 - 1))).f8)).bind fun b6 => (if b6 = true then (if ((Qd x3 (wrap64 (x5 - 1))).f4).size + ((Qd x0 x4).f4).size ≤ 9223372036854775807 then (Qy.l0 k x0 (x3.set ((wrap64 (x5 - 1)) : Int).toNat (⟨(Qd x3 (wrap64 (x5 - 1))).f0, (Qd x3 (wrap64 (x5 - 1))).f1, (Qd x3 (wrap64 (x5 - 1))).f2, (Qd x3 (wrap64 (x5 - 1))).f3, ((Qd x3 (wrap64 (x5 - 1))).f4) ++ ((Qd x0 x4).f4), (Qd x3 (wrap64 (x5 - 1))).f5, (Qd x3 (wrap64 (x5 - 1))).f6, (Qd x3 (wrap64 (x5 - 1))).f7, (Qd x3 (wrap64 (x5 - 1))).f8⟩ : Xi)) (wrap64 (x4 + 1))) else (none)) else (if x3.length < 1099511627776 then (Qy.l0 k x0 (x3 ++ [(⟨(Qd x0 x4).f0, (Qd x0 x4).f1, (Qd x0 x4).f2, (Qd x0 x4).f3, (Qd x0 x4).f4, (Qd x0 x4).f5, (Qd x0 x4).f6, (Qd x0 x4).f7, (Qd x0 x4).f8⟩ : Xi)]) (wrap64 (x4 + 1))) else (none)))) else (none)) else (none)) else (if x3.length < 1099511627776 then (Qy.l0 k x0 (x3 ++ [(⟨(Qd x0 x4).f0, (Qd x0 x4).f1, (Qd x0 x4).f2, (Qd x0 x4).f3, (Qd x0 x4).f4, (Qd x0 x4).f5, (Qd x0 x4).f6, (Qd x0 x4).f7, (Qd x0 x4).f8⟩ : Xi)]) (wrap64 (x4 + 1))) else (none))) else (if x3.length < 1099511627776 then (Qy.l0 k x0 (x3 ++ [(⟨(Qd x0 x4).f0, (Qd x0 x4).f1, (Qd x0 x4).f2, (Qd x0 x4).f3, (Qd x0 x4).f4, (Qd x0 x4).f5, (Qd x0 x4).f6, (Qd x0 x4).f7, (Qd x0 x4).f8⟩ : Xi)]) (wrap64 (x4 + 1))) else (none)))) else (none)) else (none))
end
def Qy.f (k : Nat) (l0 : List (Xi)) : Option ((List (Xi))) := Qy.l0 k l0 ([] : List (Xi)) 0
def Qy.T8 : Bool × List (List Nat × List Nat) := (true, [([], []), ([], []), ([1], [1]), ([], []), ([], []), ([4], [4]), ([3, 5], [3, 5]), ([6], [6]), ([7], [7]), ([], []), ([], []), ([9, 10], [9, 10]), ([11], [11]), ([12], [12]), ([8, 13], [8, 13]), ([0, 2, 0, 1, 2, 3, 4, 5, 6, 7, 8, 9, 10, 11, 12, 13, 14], [0, 2]), ([15, 0, 1, 2, 3, 4, 5, 6, 7, 8, 9, 10, 11, 12, 13, 14], [15]), ([16, 14, 0, 1, 2, 3, 4, 5, 6, 7, 8, 9, 10, 11, 12, 13, 14], [14, 16])])
def Qy.B8 : List Nat := [0, 0, 2, 0, 0, 16, 56, 120, 248, 0, 0, 1536, 3584, 7680, 16376, 32767, 65535, 131071]
theorem Qy.tab8 : Vx .any (Jb Try.f113 8) = Qy.T8 := by kernel_rfl
theorem Qy.bits8 : Vk Qy.T8.2 Qy.B8 = true := by kernel_rfl
set_option maxHeartbeats 8000000 in
set_option maxRecDepth 100000 in
theorem Qy.calls (k : Nat) (A0 : Option Addr) (c0 : Nat) (l0 : List (Xi)) (r : List (Xi)) (w : World) (hr0 : Kd.C Kf w A0 l0.length l0) (hc0 : l0.length ≤ c0) (h : Qy.f k l0 = some r) :
  Calls Try.prog 113 #[.slice A0 l0.length c0] w fun e w' => ∃ v0_ : Value, e = .returned (v0_) ∧ Kd.R Kf 123 w' w.heap.size (fun _ => True) v0_ r ∧ Below w.heap.size w w' := by
 have hu123 := Try.underlying123; have HR0 := Qa.mk hr0; have HC0 := Qa.mk hc0; clear hr0 hc0; have HB := Qa.mk (Below.refl w.heap.size w); have H : (Qy.l0 k l0 ([] : List (Xi)) 0) = some r := h; clear h; have H' := Qa.mk H; clear H
 go_enter Try.func113, Try.ntmps113
 go_wp2
 go_loopg [3, 4] k (fun kq v3 v4 w' => ∃ (a1 : List (Xi)) (a0 : Int), v4 = .int .i64 a0 ∧ Qa (Qy.l0 kq l0 a1 a0 = some r) ∧ Qa (kq ≤ k) ∧ Qa (Kd.R Kf 123 w' w.heap.size (fun _ => True) v3 a1) ∧ Qa (Below w.heap.size w w'))
 case atStart => exact ⟨(([] : List (Xi))), (0), sm_, H', ⟨Nat.le_refl _⟩, ⟨by first | exact Kd.R_nil _ _ _ _ _ | exact Kd.N_nil _ _ _ _ _ | exact Kd.V_nil _ _ _ _ _ | exact Kd.Q_nil _ _ _ _ _ | exact Kd.S_nil _ _ _ _ _⟩, ⟨bw_⟩⟩
 case round =>
  clear H'
  try clear c1
  obtain ⟨a1, a0, rfl, HA, HK1, a3, HB⟩ := hrel
  cases gk with
  | zero => exact absurd HA.out (by simp [Qy.l0])
  | succ k1 =>
   have H := HA.out; clear HA
   simp only [Qy.l0] at H
   by_cases c2 : a0 < (l0.length : Int)
   ·rw [if_pos c2] at H
    have q2 : decide (a0 < (l0.length : Int)) = true := decide_eq_true c2; clear c2; have HC3 := Qa.mk H; clear H; obtain ⟨Ao4, co4, eo4⟩ := Kd.R_slice a3.out; subst eo4
    go_upto_region 6 with (fail)
    go_cut [26] (fun v26 wc => ∃ (kq : Nat) (i5 : Bool), v26 = .bool i5 ∧ Qa (Qy.j1 kq l0 a1 a0 (a1.length : Int) i5 = some r) ∧ Qa (kq ≤ k1) ∧ Qa (Kd.R Kf 123 wc w.heap.size (fun _ => True) (.slice Ao4 a1.length co4) a1) ∧ Qa (Below w.heap.size w wc))
    case first =>
     have H := HC3.out; clear HC3
     by_cases c5 : 0 ≤ a0
     ·rw [if_pos c5] at H
      have o5 : decide (0 ≤ a0) = true := decide_eq_true c5; clear c5
      (first | rw [o5] | (simp only [Yx, Vi]; rw [o5]) | skip)
      replace H := Option.bind_eq_some_iff.mp H; obtain ⟨n2, A60, H⟩ := H; replace H : (if n2 = true then (Qy.j1 k1 l0 a1 a0 (a1.length : Int) (((Qd l0 a0).f4).toList == ([] : List UInt8))) else (Qy.j1 k1 l0 a1 a0 (a1.length : Int) false)) = some r := H; have A6 := Qa.mk A60; clear A60
      by_cases c7 : n2 = true
      ·subst c7
       have H1 : (Qy.j1 k1 l0 a1 a0 (a1.length : Int) (((Qd l0 a0).f4).toList == ([] : List UInt8))) = some r := by rw [if_pos rfl] at H; exact H
       clear H; have H := H1; clear H1; have H' := Qa.mk H; clear H; have d8 : 0 ≤ (a0 : Int) := of_decide_eq_true Zx; have d9 : a0 < (l0.length : Int) := of_decide_eq_true Zx; obtain ⟨q0, o6, b7, b8, b9, d0, d3, d4, d5, d6, d7⟩ := Ub HR0.out a0 d8 d9
       cases o6; replace b7 := Qg HB.out b7; replace b8 := Qg HB.out b8; replace b9 := Qg HB.out b9; replace d0 := Qg HB.out d0; replace d3 := Qg HB.out d3; replace d4 := Qg HB.out d4; replace d5 := Qg HB.out d5; replace d6 := Qg HB.out d6; replace d7 := Qg HB.out d7; replace d8 := eq_true d8; replace d9 := eq_true d9; go_wp2_with (first | ((with_reducible refine Xo (f := 134) rfl ?_); refine Vb (some 18) rfl rfl Try.func134 (by kernel_rfl) rfl #[.agg #[.string ((Qd l0 a0).f0), .string ((Qd l0 a0).f1), .string ((Qd l0 a0).f2), .bool ((Qd l0 a0).f3), .string ((Qd l0 a0).f4), .string ((Qd l0 a0).f5), .string ((Qd l0 a0).f6), .string ((Qd l0 a0).f7), .bool ((Qd l0 a0).f8)]] rfl (by (try simp only [List.map_toArray, List.map_cons, List.map_nil]); first | done | rfl | (simp only [List.length_drop, List.length_take]; rfl)) ?_; (with_reducible refine (Yb.calls ((Qd l0 a0).f0) ((Qd l0 a0).f1) ((Qd l0 a0).f2) ((Qd l0 a0).f3) ((Qd l0 a0).f4) ((Qd l0 a0).f5) ((Qd l0 a0).f6) ((Qd l0 a0).f7) ((Qd l0 a0).f8) true _ A6.out).mono ?_); rintro e w8 ⟨rfl, hb⟩; refine ⟨_, rfl, ?_⟩; have n0_ := Qa.mk (Kd.R_below (ro_ a3.out) hb); have n1_ := Qa.mk (Qj bw_ hb); clear a3; clear HB; have a3 := n0_; have HB := n1_; clear n0_ n1_; (try clear hb); (try clear hb2); (try clear hk); (try clear hi); have n3 : 0 ≤ (a0 : Int) := of_decide_eq_true Zx; have n4 : a0 < (l0.length : Int) := of_decide_eq_true Zx; obtain ⟨r0, s8, g6, g7, g8, g9, h0, h2, h3, h4, h5⟩ := Ub HR0.out a0 n3 n4; obtain rfl : q0 = r0 := (by injection s8); replace g6 := Qg HB.out g6; replace g7 := Qg HB.out g7; replace g8 := Qg HB.out g8; replace g9 := Qg HB.out g9; replace h0 := Qg HB.out h0; replace h2 := Qg HB.out h2; replace h3 := Qg HB.out h3; replace h4 := Qg HB.out h4; replace h5 := Qg HB.out h5; replace n3 := eq_true n3; replace n4 := eq_true n4))
       go_meet
       case rel => exact ⟨_, ((((Qd l0 a0).f4).toList == ([] : List UInt8))), sm_, H', ⟨by have := HK1.out; first | omega | exact Nat.le_refl _⟩, ⟨ro_ a3.out⟩, ⟨bw_⟩⟩
      ·replace c7 := Bool.eq_false_iff.mpr c7
       subst c7
       have H1 : (Qy.j1 k1 l0 a1 a0 (a1.length : Int) false) = some r := by rw [if_neg (show ¬ (false = true) by decide)] at H; exact H
       clear H; have H := H1; clear H1; have H' := Qa.mk H; clear H; have d8 : 0 ≤ (a0 : Int) := of_decide_eq_true Zx; have d9 : a0 < (l0.length : Int) := of_decide_eq_true Zx; obtain ⟨q0, o6, b7, b8, b9, d0, d3, d4, d5, d6, d7⟩ := Ub HR0.out a0 d8 d9
       cases o6; replace b7 := Qg HB.out b7; replace b8 := Qg HB.out b8; replace b9 := Qg HB.out b9; replace d0 := Qg HB.out d0; replace d3 := Qg HB.out d3; replace d4 := Qg HB.out d4; replace d5 := Qg HB.out d5; replace d6 := Qg HB.out d6; replace d7 := Qg HB.out d7; replace d8 := eq_true d8; replace d9 := eq_true d9; go_wp2_with (first | ((with_reducible refine Xo (f := 134) rfl ?_); refine Vb (some 18) rfl rfl Try.func134 (by kernel_rfl) rfl #[.agg #[.string ((Qd l0 a0).f0), .string ((Qd l0 a0).f1), .string ((Qd l0 a0).f2), .bool ((Qd l0 a0).f3), .string ((Qd l0 a0).f4), .string ((Qd l0 a0).f5), .string ((Qd l0 a0).f6), .string ((Qd l0 a0).f7), .bool ((Qd l0 a0).f8)]] rfl (by (try simp only [List.map_toArray, List.map_cons, List.map_nil]); first | done | rfl | (simp only [List.length_drop, List.length_take]; rfl)) ?_; (with_reducible refine (Yb.calls ((Qd l0 a0).f0) ((Qd l0 a0).f1) ((Qd l0 a0).f2) ((Qd l0 a0).f3) ((Qd l0 a0).f4) ((Qd l0 a0).f5) ((Qd l0 a0).f6) ((Qd l0 a0).f7) ((Qd l0 a0).f8) false _ A6.out).mono ?_); rintro e w9 ⟨rfl, hb⟩; refine ⟨_, rfl, ?_⟩; have n0_ := Qa.mk (Kd.R_below (ro_ a3.out) hb); have n1_ := Qa.mk (Qj bw_ hb); clear a3; clear HB; have a3 := n0_; have HB := n1_; clear n0_ n1_; (try clear hb); (try clear hb2); (try clear hk); (try clear hi)))
       go_meet
       case rel => exact ⟨_, (false), sm_, H', ⟨by have := HK1.out; first | omega | exact Nat.le_refl _⟩, ⟨ro_ a3.out⟩, ⟨bw_⟩⟩
     ·rw [if_neg c5] at H
      exact absurd H (by simp)
    case rest =>
     clear HC3
     try clear c1
     try clear p1
     try clear q1
     try clear hx1
     try clear c2
     try clear q2
     try clear p2
     try clear c5
     try clear o5
     try clear c7
     try clear b7
     try clear b8
     try clear b9
     try clear d0
     try clear d3
     try clear d4
     try clear d5
     try clear d6
     try clear d7
     try clear g6
     try clear g7
     try clear g8
     try clear g9
     try clear h0
     try clear h2
     try clear h3
     try clear h4
     try clear h5
     try clear d8
     try clear n3
     try clear d9
     try clear n4
     obtain ⟨kq, i5, rfl, HA, HJ2, a3, HB⟩ := hcut
     cases kq with
     | zero => exact absurd HA.out (by simp [Qy.j1])
     | succ kj2 =>
      have H := HA.out; clear HA
      simp only [Qy.j1] at H
      by_cases c10 : i5 = true
      ·subst c10
       have H1 : (Qy.l0 kj2 l0 a1 (wrap64 (a0 + 1))) = some r := by rw [if_pos rfl] at H; exact H
       clear H; have H := H1; clear H1; have H' := Qa.mk H; clear H
       go_wp2
       go_roundg kj2
       case measure => have := HK1.out; have := HJ2.out; omega
       case rel => exact ⟨(a1), (wrap64 (a0 + 1)), sm_, H', ⟨by have := HK1.out; have := HJ2.out; omega⟩, ⟨ro_ a3.out⟩, ⟨bw_⟩⟩
      ·replace c10 := Bool.eq_false_iff.mpr c10
       subst c10
       have H1 : (if 0 ≤ a0 then (if a0 < (l0.length : Int) then ((Yb.f ((Qd l0 a0).f0) ((Qd l0 a0).f1) ((Qd l0 a0).f2) ((Qd l0 a0).f3) ((Qd l0 a0).f4) ((Qd l0 a0).f5) ((Qd l0 a0).f6) ((Qd l0 a0).f7) ((Qd l0 a0).f8)).bind fun g5 => (if g5 = true then (if (a1.length : Int) > 0 then (if 0 ≤ (wrap64 ((a1.length : Int) - 1)) then (if (wrap64 ((a1.length : Int) - 1)) < (a1.length : Int) then ((Yb.f ((Qd a1 (wrap64 ((a1.length : Int) - 1))).f0) ((Qd a1 (wrap64 ((a1.length : Int) - 1))).f1) ((Qd a1 (wrap64 ((a1.length : Int) - 1))).f2) ((Qd a1 (wrap64 ((a1.length : Int) - 1))).f3) ((Qd a1 (wrap64 ((a1.length : Int) - 1))).f4) ((Qd a1 (wrap64 ((a1.length : Int) - 1))).f5) ((Qd a1 (wrap64 ((a1.length : Int) - 1))).f6) ((Qd a1 (wrap64 ((a1.length : Int) - 1))).f7) ((Qd a1 (wrap64 ((a1.length : Int) - 1))).f8)).bind fun b6 => (if b6 = true then (if ((Qd a1 (wrap64 ((a1.length : Int) - 1))).f4).size + ((Qd l0 a0).f4).size ≤ 9223372036854775807 then (Qy.l0 kj2 l0 (a1.set ((wrap64 ((a1.length : Int) - 1)) : Int).toNat (⟨(Qd a1 (wrap64 ((a1.length : Int) - 1))).f0, (Qd a1 (wrap64 ((a1.length : Int) - 1))).f1, (Qd a1 (wrap64 ((a1.length : Int) - 1))).f2, (Qd a1 (wrap64 ((a1.length : Int) - 1))).f3, ((Qd a1 (wrap64 ((a1.length : Int) - 1))).f4) ++ ((Qd l0 a0).f4), (Qd a1 (wrap64 ((a1.length : Int) - 1))).f5, (Qd a1 (wrap64 ((a1.length : Int) - 1))).f6, (Qd a1 (wrap64 ((a1.length : Int) - 1))).f7, (Qd a1 (wrap64 ((a1.length : Int) - 1))).f8⟩ : Xi)) (wrap64 (a0 + 1))) else (none)) else (if a1.length < 1099511627776 then (Qy.l0 kj2 l0 (a1 ++ [(⟨(Qd l0 a0).f0, (Qd l0 a0).f1, (Qd l0 a0).f2, (Qd l0 a0).f3, (Qd l0 a0).f4, (Qd l0 a0).f5, (Qd l0 a0).f6, (Qd l0 a0).f7, (Qd l0 a0).f8⟩ : Xi)]) (wrap64 (a0 + 1))) else (none)))) else (none)) else (none)) else (if a1.length < 1099511627776 then (Qy.l0 kj2 l0 (a1 ++ [(⟨(Qd l0 a0).f0, (Qd l0 a0).f1, (Qd l0 a0).f2, (Qd l0 a0).f3, (Qd l0 a0).f4, (Qd l0 a0).f5, (Qd l0 a0).f6, (Qd l0 a0).f7, (Qd l0 a0).f8⟩ : Xi)]) (wrap64 (a0 + 1))) else (none))) else (if a1.length < 1099511627776 then (Qy.l0 kj2 l0 (a1 ++ [(⟨(Qd l0 a0).f0, (Qd l0 a0).f1, (Qd l0 a0).f2, (Qd l0 a0).f3, (Qd l0 a0).f4, (Qd l0 a0).f5, (Qd l0 a0).f6, (Qd l0 a0).f7, (Qd l0 a0).f8⟩ : Xi)]) (wrap64 (a0 + 1))) else (none)))) else (none)) else (none)) = some r := by rw [if_neg (show ¬ (false = true) by decide)] at H; exact H
       clear H; have H := H1; clear H1
       by_cases c11 : 0 ≤ a0
       ·rw [if_pos c11] at H
        have t5 : decide (0 ≤ a0) = true := decide_eq_true c11; clear c11
        by_cases c12 : a0 < (l0.length : Int)
        ·rw [if_pos c12] at H
         have t6 : decide (a0 < (l0.length : Int)) = true := decide_eq_true c12; clear c12; replace H := Option.bind_eq_some_iff.mp H; obtain ⟨g5, q3, H⟩ := H; replace H : (if g5 = true then (if (a1.length : Int) > 0 then (if 0 ≤ (wrap64 ((a1.length : Int) - 1)) then (if (wrap64 ((a1.length : Int) - 1)) < (a1.length : Int) then ((Yb.f ((Qd a1 (wrap64 ((a1.length : Int) - 1))).f0) ((Qd a1 (wrap64 ((a1.length : Int) - 1))).f1) ((Qd a1 (wrap64 ((a1.length : Int) - 1))).f2) ((Qd a1 (wrap64 ((a1.length : Int) - 1))).f3) ((Qd a1 (wrap64 ((a1.length : Int) - 1))).f4) ((Qd a1 (wrap64 ((a1.length : Int) - 1))).f5) ((Qd a1 (wrap64 ((a1.length : Int) - 1))).f6) ((Qd a1 (wrap64 ((a1.length : Int) - 1))).f7) ((Qd a1 (wrap64 ((a1.length : Int) - 1))).f8)).bind fun b6 => (if b6 = true then (if ((Qd a1 (wrap64 ((a1.length : Int) - 1))).f4).size + ((Qd l0 a0).f4).size ≤ 9223372036854775807 then (Qy.l0 kj2 l0 (a1.set ((wrap64 ((a1.length : Int) - 1)) : Int).toNat (⟨(Qd a1 (wrap64 ((a1.length : Int) - 1))).f0, (Qd a1 (wrap64 ((a1.length : Int) - 1))).f1, (Qd a1 (wrap64 ((a1.length : Int) - 1))).f2, (Qd a1 (wrap64 ((a1.length : Int) - 1))).f3, ((Qd a1 (wrap64 ((a1.length : Int) - 1))).f4) ++ ((Qd l0 a0).f4), (Qd a1 (wrap64 ((a1.length : Int) - 1))).f5, (Qd a1 (wrap64 ((a1.length : Int) - 1))).f6, (Qd a1 (wrap64 ((a1.length : Int) - 1))).f7, (Qd a1 (wrap64 ((a1.length : Int) - 1))).f8⟩ : Xi)) (wrap64 (a0 + 1))) else (none)) else (if a1.length < 1099511627776 then (Qy.l0 kj2 l0 (a1 ++ [(⟨(Qd l0 a0).f0, (Qd l0 a0).f1, (Qd l0 a0).f2, (Qd l0 a0).f3, (Qd l0 a0).f4, (Qd l0 a0).f5, (Qd l0 a0).f6, (Qd l0 a0).f7, (Qd l0 a0).f8⟩ : Xi)]) (wrap64 (a0 + 1))) else (none)))) else (none)) else (none)) else (if a1.length < 1099511627776 then (Qy.l0 kj2 l0 (a1 ++ [(⟨(Qd l0 a0).f0, (Qd l0 a0).f1, (Qd l0 a0).f2, (Qd l0 a0).f3, (Qd l0 a0).f4, (Qd l0 a0).f5, (Qd l0 a0).f6, (Qd l0 a0).f7, (Qd l0 a0).f8⟩ : Xi)]) (wrap64 (a0 + 1))) else (none))) else (if a1.length < 1099511627776 then (Qy.l0 kj2 l0 (a1 ++ [(⟨(Qd l0 a0).f0, (Qd l0 a0).f1, (Qd l0 a0).f2, (Qd l0 a0).f3, (Qd l0 a0).f4, (Qd l0 a0).f5, (Qd l0 a0).f6, (Qd l0 a0).f7, (Qd l0 a0).f8⟩ : Xi)]) (wrap64 (a0 + 1))) else (none))) = some r := H; have A13 := Qa.mk q3; clear q3
         by_cases c14 : g5 = true
         ·subst c14
          have H1 : (if (a1.length : Int) > 0 then (if 0 ≤ (wrap64 ((a1.length : Int) - 1)) then (if (wrap64 ((a1.length : Int) - 1)) < (a1.length : Int) then ((Yb.f ((Qd a1 (wrap64 ((a1.length : Int) - 1))).f0) ((Qd a1 (wrap64 ((a1.length : Int) - 1))).f1) ((Qd a1 (wrap64 ((a1.length : Int) - 1))).f2) ((Qd a1 (wrap64 ((a1.length : Int) - 1))).f3) ((Qd a1 (wrap64 ((a1.length : Int) - 1))).f4) ((Qd a1 (wrap64 ((a1.length : Int) - 1))).f5) ((Qd a1 (wrap64 ((a1.length : Int) - 1))).f6) ((Qd a1 (wrap64 ((a1.length : Int) - 1))).f7) ((Qd a1 (wrap64 ((a1.length : Int) - 1))).f8)).bind fun b6 => (if b6 = true then (if ((Qd a1 (wrap64 ((a1.length : Int) - 1))).f4).size + ((Qd l0 a0).f4).size ≤ 9223372036854775807 then (Qy.l0 kj2 l0 (a1.set ((wrap64 ((a1.length : Int) - 1)) : Int).toNat (⟨(Qd a1 (wrap64 ((a1.length : Int) - 1))).f0, (Qd a1 (wrap64 ((a1.length : Int) - 1))).f1, (Qd a1 (wrap64 ((a1.length : Int) - 1))).f2, (Qd a1 (wrap64 ((a1.length : Int) - 1))).f3, ((Qd a1 (wrap64 ((a1.length : Int) - 1))).f4) ++ ((Qd l0 a0).f4), (Qd a1 (wrap64 ((a1.length : Int) - 1))).f5, (Qd a1 (wrap64 ((a1.length : Int) - 1))).f6, (Qd a1 (wrap64 ((a1.length : Int) - 1))).f7, (Qd a1 (wrap64 ((a1.length : Int) - 1))).f8⟩ : Xi)) (wrap64 (a0 + 1))) else (none)) else (if a1.length < 1099511627776 then (Qy.l0 kj2 l0 (a1 ++ [(⟨(Qd l0 a0).f0, (Qd l0 a0).f1, (Qd l0 a0).f2, (Qd l0 a0).f3, (Qd l0 a0).f4, (Qd l0 a0).f5, (Qd l0 a0).f6, (Qd l0 a0).f7, (Qd l0 a0).f8⟩ : Xi)]) (wrap64 (a0 + 1))) else (none)))) else (none)) else (none)) else (if a1.length < 1099511627776 then (Qy.l0 kj2 l0 (a1 ++ [(⟨(Qd l0 a0).f0, (Qd l0 a0).f1, (Qd l0 a0).f2, (Qd l0 a0).f3, (Qd l0 a0).f4, (Qd l0 a0).f5, (Qd l0 a0).f6, (Qd l0 a0).f7, (Qd l0 a0).f8⟩ : Xi)]) (wrap64 (a0 + 1))) else (none))) = some r := by rw [if_pos rfl] at H; exact H
          clear H; have H := H1; clear H1
          by_cases c15 : (a1.length : Int) > 0
          ·rw [if_pos c15] at H
           have r1 : decide (0 < (a1.length : Int)) = true := decide_eq_true c15; have r2 : decide (0 < a1.length) = true := decide_eq_true (by omega); clear c15; obtain ⟨a2, i6⟩ : ∃ j_ : Int, (wrap64 ((a1.length : Int) - 1)) = j_ := ⟨_, rfl⟩
           replace H : (if 0 ≤ (a2) then (if (a2) < (a1.length : Int) then ((Yb.f ((Qd a1 (a2)).f0) ((Qd a1 (a2)).f1) ((Qd a1 (a2)).f2) ((Qd a1 (a2)).f3) ((Qd a1 (a2)).f4) ((Qd a1 (a2)).f5) ((Qd a1 (a2)).f6) ((Qd a1 (a2)).f7) ((Qd a1 (a2)).f8)).bind fun b6 => (if b6 = true then (if ((Qd a1 (a2)).f4).size + ((Qd l0 a0).f4).size ≤ 9223372036854775807 then (Qy.l0 kj2 l0 (a1.set ((a2) : Int).toNat (⟨(Qd a1 (a2)).f0, (Qd a1 (a2)).f1, (Qd a1 (a2)).f2, (Qd a1 (a2)).f3, ((Qd a1 (a2)).f4) ++ ((Qd l0 a0).f4), (Qd a1 (a2)).f5, (Qd a1 (a2)).f6, (Qd a1 (a2)).f7, (Qd a1 (a2)).f8⟩ : Xi)) (wrap64 (a0 + 1))) else (none)) else (if a1.length < 1099511627776 then (Qy.l0 kj2 l0 (a1 ++ [(⟨(Qd l0 a0).f0, (Qd l0 a0).f1, (Qd l0 a0).f2, (Qd l0 a0).f3, (Qd l0 a0).f4, (Qd l0 a0).f5, (Qd l0 a0).f6, (Qd l0 a0).f7, (Qd l0 a0).f8⟩ : Xi)]) (wrap64 (a0 + 1))) else (none)))) else (none)) else (none)) = some r := by first | (rw [i6] at H; exact H) | (simp only [i6] at H ⊢; exact H)
           (try rw [i6] at A13)
           have t4 : (IntKind.i64.wrap ((a1.length : Int) - 1)) = a2 := (Yx _).trans i6
           by_cases c17 : 0 ≤ (a2)
           ·rw [if_pos c17] at H
            have t7 : decide (0 ≤ (a2)) = true := decide_eq_true c17; clear c17
            by_cases c18 : (a2) < (a1.length : Int)
            ·rw [if_pos c18] at H
             have t8 : decide ((a2) < (a1.length : Int)) = true := decide_eq_true c18; clear c18; replace H := Option.bind_eq_some_iff.mp H; obtain ⟨b6, q4, H⟩ := H; replace H : (if b6 = true then (if ((Qd a1 (a2)).f4).size + ((Qd l0 a0).f4).size ≤ 9223372036854775807 then (Qy.l0 kj2 l0 (a1.set ((a2) : Int).toNat (⟨(Qd a1 (a2)).f0, (Qd a1 (a2)).f1, (Qd a1 (a2)).f2, (Qd a1 (a2)).f3, ((Qd a1 (a2)).f4) ++ ((Qd l0 a0).f4), (Qd a1 (a2)).f5, (Qd a1 (a2)).f6, (Qd a1 (a2)).f7, (Qd a1 (a2)).f8⟩ : Xi)) (wrap64 (a0 + 1))) else (none)) else (if a1.length < 1099511627776 then (Qy.l0 kj2 l0 (a1 ++ [(⟨(Qd l0 a0).f0, (Qd l0 a0).f1, (Qd l0 a0).f2, (Qd l0 a0).f3, (Qd l0 a0).f4, (Qd l0 a0).f5, (Qd l0 a0).f6, (Qd l0 a0).f7, (Qd l0 a0).f8⟩ : Xi)]) (wrap64 (a0 + 1))) else (none))) = some r := H; have A19 := Qa.mk q4; clear q4
             by_cases c20 : b6 = true
             ·subst c20
              have H1 : (if ((Qd a1 (a2)).f4).size + ((Qd l0 a0).f4).size ≤ 9223372036854775807 then (Qy.l0 kj2 l0 (a1.set ((a2) : Int).toNat (⟨(Qd a1 (a2)).f0, (Qd a1 (a2)).f1, (Qd a1 (a2)).f2, (Qd a1 (a2)).f3, ((Qd a1 (a2)).f4) ++ ((Qd l0 a0).f4), (Qd a1 (a2)).f5, (Qd a1 (a2)).f6, (Qd a1 (a2)).f7, (Qd a1 (a2)).f8⟩ : Xi)) (wrap64 (a0 + 1))) else (none)) = some r := by rw [if_pos rfl] at H; exact H
              clear H; have H := H1; clear H1
              by_cases c21 : ((Qd a1 (a2)).f4).size + ((Qd l0 a0).f4).size ≤ 9223372036854775807
              ·rw [if_pos c21] at H
               have t9 := eq_true c21; have u0 : decide (((Qd a1 (a2)).f4).size + ((Qd l0 a0).f4).size ≤ 9223372036854775807) = true := decide_eq_true c21
               try have u1 : (9223372036854775807 < ((Qd a1 (a2)).f4).size + ((Qd l0 a0).f4).size) = False := eq_false (Nat.not_lt.2 c21)
               obtain ⟨q5, g1⟩ : ∃ y_ : List (Xi), y_ = (a1.set ((a2) : Int).toNat (⟨(Qd a1 (a2)).f0, (Qd a1 (a2)).f1, (Qd a1 (a2)).f2, (Qd a1 (a2)).f3, ((Qd a1 (a2)).f4) ++ ((Qd l0 a0).f4), (Qd a1 (a2)).f5, (Qd a1 (a2)).f6, (Qd a1 (a2)).f7, (Qd a1 (a2)).f8⟩ : Xi)) := ⟨_, rfl⟩
               replace H : (Qy.l0 kj2 l0 q5 (wrap64 (a0 + 1))) = some r := by first | (rw [g1]; with_reducible exact H) | (have H2_ := (Option.bind_some _ _).symm.trans H; rw [g1]; with_reducible exact H2_) | (have H2_ := (Option.bind_some _ _).symm.trans H; with_reducible exact H2_) | with_reducible exact H | (rw [g1]; exact H) | exact H
               have r3 := Qa.mk g1; clear g1; have H' := Qa.mk H; clear H; have b4 : 0 ≤ (a0 : Int) := of_decide_eq_true Zx; have b5 : a0 < (l0.length : Int) := of_decide_eq_true Zx; obtain ⟨a4, e9, a5, a6, a7, a8, a9, b0, b1, b2, b3⟩ := Ub HR0.out a0 b4 b5
               cases e9; replace a5 := Qg HB.out a5; replace a6 := Qg HB.out a6; replace a7 := Qg HB.out a7; replace a8 := Qg HB.out a8; replace a9 := Qg HB.out a9; replace b0 := Qg HB.out b0; replace b1 := Qg HB.out b1; replace b2 := Qg HB.out b2; replace b3 := Qg HB.out b3; replace b4 := eq_true b4; replace b5 := eq_true b5
               try go_wp2_with (first | ((with_reducible refine Xo (f := 134) rfl ?_); refine Vb (some 31) rfl rfl Try.func134 (by kernel_rfl) rfl #[.agg #[.string ((Qd l0 a0).f0), .string ((Qd l0 a0).f1), .string ((Qd l0 a0).f2), .bool ((Qd l0 a0).f3), .string ((Qd l0 a0).f4), .string ((Qd l0 a0).f5), .string ((Qd l0 a0).f6), .string ((Qd l0 a0).f7), .bool ((Qd l0 a0).f8)]] rfl (by (try simp only [List.map_toArray, List.map_cons, List.map_nil]); first | done | rfl | (simp only [List.length_drop, List.length_take]; rfl)) ?_; (with_reducible refine (Yb.calls ((Qd l0 a0).f0) ((Qd l0 a0).f1) ((Qd l0 a0).f2) ((Qd l0 a0).f3) ((Qd l0 a0).f4) ((Qd l0 a0).f5) ((Qd l0 a0).f6) ((Qd l0 a0).f7) ((Qd l0 a0).f8) true _ A13.out).mono ?_); rintro e w23 ⟨rfl, hb⟩; refine ⟨_, rfl, ?_⟩; have n0_ := Qa.mk (Kd.R_below (ro_ a3.out) hb); have n1_ := Qa.mk (Qj bw_ hb); clear a3; clear HB; have a3 := n0_; have HB := n1_; clear n0_ n1_; (try clear hb); (try clear hb2); (try clear hk); (try clear hi); have f9 : 0 ≤ ((a2) : Int) := of_decide_eq_true Zx; have g0 : (a2) < (a1.length : Int) := of_decide_eq_true Zx; obtain ⟨n5, o7, h6, h7, h8, h9, i0, i1, i2, i3, i4⟩ := Ub (Kd.R_reads' a3.out).2.2 (a2) f9 g0; cases o7; replace f9 := eq_true f9; replace g0 := eq_true g0) | (go_at_call 134; (with_reducible refine (Yb.calls ((Qd a1 (a2)).f0) ((Qd a1 (a2)).f1) ((Qd a1 (a2)).f2) ((Qd a1 (a2)).f3) ((Qd a1 (a2)).f4) ((Qd a1 (a2)).f5) ((Qd a1 (a2)).f6) ((Qd a1 (a2)).f7) ((Qd a1 (a2)).f8) true _ A19.out).mono ?_); rintro e w24 ⟨rfl, hb⟩; have n0_ := Qa.mk (Kd.R_below (ro_ a3.out) hb); have n1_ := Qa.mk (Qj bw_ hb); clear a3; clear HB; have a3 := n0_; have HB := n1_; clear n0_ n1_; (try clear hb); (try clear hb2); (try clear hk); (try clear hi)))
               have n0_ := Qa.mk (Kd.R_drew a3.out); have n1_ := Qa.mk (Qi HB.out); clear a3; clear HB; have a3 := n0_; have HB := n1_; clear n0_ n1_; have o8 : 0 ≤ ((a2) : Int) := of_decide_eq_true Zx; have o9 : (a2) < (a1.length : Int) := of_decide_eq_true Zx; obtain ⟨r4, s9, i7, i8, i9, j3, j5, j7, j8, j9, k0⟩ := Ub (Kd.R_reads' a3.out).2.2 (a2) o8 o9; obtain rfl : n5 = r4 := (by injection s9); replace o8 := eq_true o8; replace o9 := eq_true o9; have p0 : 0 ≤ (a0 : Int) := of_decide_eq_true Zx; have p3 : a0 < (l0.length : Int) := of_decide_eq_true Zx; obtain ⟨r5, t0, e0, e1, e2, e3, e4, e5, e6, e7, e8⟩ := Ub HR0.out a0 p0 p3; have hw109_8 := e8; have hw109_7 := e7; have hw109_6 := e6; have hw109_5 := e5; have hw109_4 := e4; have hw109_3 := e3; have hw109_2 := e2; have hw109_1 := e1; have hw109_0 := e0; obtain rfl : a4 = r5 := (by injection t0); replace e0 := Qg HB.out e0; replace e1 := Qg HB.out e1; replace e2 := Qg HB.out e2; replace e3 := Qg HB.out e3; replace e4 := Qg HB.out e4; replace e5 := Qg HB.out e5; replace e6 := Qg HB.out e6; replace e7 := Qg HB.out e7; replace e8 := Qg HB.out e8; replace p0 := eq_true p0; replace p3 := eq_true p3; have p22 : 0 ≤ ((a2) : Int) := of_decide_eq_true Zx; have q22 : ((a2) : Int) < ((a1.length : Int) : Int) := of_decide_eq_true Zx; obtain ⟨go22, u2, eo22, q6, gl22, cl22, HG22⟩ := Kd.R_form a3.out (by omega)
               (first | cases eo22 | (injection eo22 with ea_ en_ ec_; (first | subst ea_ | (injection ea_ with ea_; subst ea_)); subst ec_; clear en_))
               have GB22 := Qa.mk q6; have GG22 := Qa.mk HG22; clear q6 gl22 HG22
               (first | simp only [Yf] at h6 | skip)
               (first | simp only [Yf] at h7 | skip)
               (first | simp only [Yf] at h8 | skip)
               (first | simp only [Yf] at h9 | skip)
               (first | simp only [Yf] at i0 | skip)
               (first | simp only [Yf] at i1 | skip)
               (first | simp only [Yf] at i2 | skip)
               (first | simp only [Yf] at i3 | skip)
               (first | simp only [Yf] at i4 | skip)
               (first | simp only [Yf] at i7 | skip)
               (first | simp only [Yf] at i8 | skip)
               (first | simp only [Yf] at i9 | skip)
               (first | simp only [Yf] at j3 | skip)
               (first | simp only [Yf] at j5 | skip)
               (first | simp only [Yf] at j7 | skip)
               (first | simp only [Yf] at j8 | skip)
               (first | simp only [Yf] at j9 | skip)
               (first | simp only [Yf] at k0 | skip)
               obtain ⟨ce22, hcl22, hM22, hcc22, hfr22⟩ := Kd.R_elem a3.out Qno ((a2) : Int) p22 q22; obtain rfl := Qgu hM22; have n6 : World.cell? _ ⟨go22, ((a2) : Int).toNat * 9, none⟩ = some (.string ((Qd a1 (a2)).f0)) := hcc22 0 _ rfl; have n7 : World.cell? _ ⟨go22, ((a2) : Int).toNat * 9 + 1, none⟩ = some (.string ((Qd a1 (a2)).f1)) := hcc22 1 _ rfl; have n8 : World.cell? _ ⟨go22, ((a2) : Int).toNat * 9 + 2, none⟩ = some (.string ((Qd a1 (a2)).f2)) := hcc22 2 _ rfl; have n9 : World.cell? _ ⟨go22, ((a2) : Int).toNat * 9 + 3, none⟩ = some (.bool ((Qd a1 (a2)).f3)) := hcc22 3 _ rfl; have o0 : World.cell? _ ⟨go22, ((a2) : Int).toNat * 9 + 4, none⟩ = some (.string ((Qd a1 (a2)).f4)) := hcc22 4 _ rfl; have o1 : World.cell? _ ⟨go22, ((a2) : Int).toNat * 9 + 5, none⟩ = some (.string ((Qd a1 (a2)).f5)) := hcc22 5 _ rfl; have o2 : World.cell? _ ⟨go22, ((a2) : Int).toNat * 9 + 6, none⟩ = some (.string ((Qd a1 (a2)).f6)) := hcc22 6 _ rfl; have o3 : World.cell? _ ⟨go22, ((a2) : Int).toNat * 9 + 7, none⟩ = some (.string ((Qd a1 (a2)).f7)) := hcc22 7 _ rfl; have o4 : World.cell? _ ⟨go22, ((a2) : Int).toNat * 9 + 8, none⟩ = some (.bool ((Qd a1 (a2)).f8)) := hcc22 8 _ rfl; have hf22_0 : World.frozen? _ ⟨go22, ((a2) : Int).toNat * 9, none⟩ = false := hfr22 0; have hf22_1 : World.frozen? _ ⟨go22, ((a2) : Int).toNat * 9 + 1, none⟩ = false := hfr22 1; have hf22_2 : World.frozen? _ ⟨go22, ((a2) : Int).toNat * 9 + 2, none⟩ = false := hfr22 2; have hf22_3 : World.frozen? _ ⟨go22, ((a2) : Int).toNat * 9 + 3, none⟩ = false := hfr22 3; have hf22_4 : World.frozen? _ ⟨go22, ((a2) : Int).toNat * 9 + 4, none⟩ = false := hfr22 4; have hf22_5 : World.frozen? _ ⟨go22, ((a2) : Int).toNat * 9 + 5, none⟩ = false := hfr22 5; have hf22_6 : World.frozen? _ ⟨go22, ((a2) : Int).toNat * 9 + 6, none⟩ = false := hfr22 6; have hf22_7 : World.frozen? _ ⟨go22, ((a2) : Int).toNat * 9 + 7, none⟩ = false := hfr22 7; have hf22_8 : World.frozen? _ ⟨go22, ((a2) : Int).toNat * 9 + 8, none⟩ = false := hfr22 8; clear hcl22 hcc22 hfr22 hM22; replace p22 := eq_true p22; replace q22 := eq_true q22; obtain ⟨ce26, hcl26, hM26, hcc26, hfr26⟩ := Kd.R_elem a3.out Qno ((a2) : Int) (of_decide_eq_true Zx) (by have h_ : ((a2) : Int) < ((a1.length : Int) : Int) := of_decide_eq_true Zx; first | exact h_ | (have e_ := (Kd.R_reads' a3.out).1; omega) | simpa using h_); obtain rfl := Qgu hM26; have HP26 := (Kd.R_seg a3.out ((a2) : Int) (of_decide_eq_true Zx) (by have h_ : ((a2) : Int) < ((a1.length : Int) : Int) := of_decide_eq_true Zx; first | exact h_ | (have e_ := (Kd.R_reads' a3.out).1; omega) | simpa using h_) (seg := [.string (((Qd a1 (a2)).f4) ++ ((Qd l0 a0).f4))]) (j := 4) hcl26 hcc26 (show 5 ≤ 9 from by decide) (x' := (⟨(Qd a1 (a2)).f0, (Qd a1 (a2)).f1, (Qd a1 (a2)).f2, (Qd a1 (a2)).f3, ((Qd a1 (a2)).f4) ++ ((Qd l0 a0).f4), (Qd a1 (a2)).f5, (Qd a1 (a2)).f6, (Qd a1 (a2)).f7, (Qd a1 (a2)).f8⟩ : Xi)) (Ul _ _ _ (⟨(Qd a1 (a2)).f0, (Qd a1 (a2)).f1, (Qd a1 (a2)).f2, (Qd a1 (a2)).f3, ((Qd a1 (a2)).f4) ++ ((Qd l0 a0).f4), (Qd a1 (a2)).f5, (Qd a1 (a2)).f6, (Qd a1 (a2)).f7, (Qd a1 (a2)).f8⟩ : Xi) ) (fun _ hk => hk)).1
               rw [← r3.out] at HP26
               have HQ26 := Qa.mk HP26; clear hcl26 hcc26 hfr26 hM26 HP26; refine Ug (n := 18) (S := fun w' => w'.cell? ⟨go22, ((a2) : Int).toNat * 9, none⟩ = some (.string ((Qd a1 (a2)).f0)) ∧ w'.cell? ⟨go22, ((a2) : Int).toNat * 9 + 1, none⟩ = some (.string ((Qd a1 (a2)).f1)) ∧ w'.cell? ⟨go22, ((a2) : Int).toNat * 9 + 2, none⟩ = some (.string ((Qd a1 (a2)).f2)) ∧ w'.cell? ⟨go22, ((a2) : Int).toNat * 9 + 3, none⟩ = some (.bool ((Qd a1 (a2)).f3)) ∧ w'.cell? ⟨go22, ((a2) : Int).toNat * 9 + 4, none⟩ = some (.string ((Qd a1 (a2)).f4)) ∧ w'.cell? ⟨go22, ((a2) : Int).toNat * 9 + 5, none⟩ = some (.string ((Qd a1 (a2)).f5)) ∧ w'.cell? ⟨go22, ((a2) : Int).toNat * 9 + 6, none⟩ = some (.string ((Qd a1 (a2)).f6)) ∧ w'.cell? ⟨go22, ((a2) : Int).toNat * 9 + 7, none⟩ = some (.string ((Qd a1 (a2)).f7)) ∧ w'.cell? ⟨go22, ((a2) : Int).toNat * 9 + 8, none⟩ = some (.bool ((Qd a1 (a2)).f8)) ∧ w'.cell? (a4.add ((a0).toNat * 9)) = some (.string ((Qd l0 a0).f0)) ∧ w'.cell? ⟨(a4.add ((a0).toNat * 9)).block, (a4.add ((a0).toNat * 9)).off + 1, none⟩ = some (.string ((Qd l0 a0).f1)) ∧ w'.cell? ⟨(a4.add ((a0).toNat * 9)).block, (a4.add ((a0).toNat * 9)).off + 2, none⟩ = some (.string ((Qd l0 a0).f2)) ∧ w'.cell? ⟨(a4.add ((a0).toNat * 9)).block, (a4.add ((a0).toNat * 9)).off + 3, none⟩ = some (.bool ((Qd l0 a0).f3)) ∧ w'.cell? ⟨(a4.add ((a0).toNat * 9)).block, (a4.add ((a0).toNat * 9)).off + 4, none⟩ = some (.string ((Qd l0 a0).f4)) ∧ w'.cell? ⟨(a4.add ((a0).toNat * 9)).block, (a4.add ((a0).toNat * 9)).off + 5, none⟩ = some (.string ((Qd l0 a0).f5)) ∧ w'.cell? ⟨(a4.add ((a0).toNat * 9)).block, (a4.add ((a0).toNat * 9)).off + 6, none⟩ = some (.string ((Qd l0 a0).f6)) ∧ w'.cell? ⟨(a4.add ((a0).toNat * 9)).block, (a4.add ((a0).toNat * 9)).off + 7, none⟩ = some (.string ((Qd l0 a0).f7)) ∧ w'.cell? ⟨(a4.add ((a0).toNat * 9)).block, (a4.add ((a0).toNat * 9)).off + 8, none⟩ = some (.bool ((Qd l0 a0).f8))) (ds := [17]) (bz_ 18 0) (by kernel_rfl) rfl rfl ⟨n6, n7, n8, n9, o0, o1, o2, o3, o4, (Qg HB.out hw109_0), (Qg HB.out hw109_1), (Qg HB.out hw109_2), (Qg HB.out hw109_3), (Qg HB.out hw109_4), (Qg HB.out hw109_5), (Qg HB.out hw109_6), (Qg HB.out hw109_7), (Qg HB.out hw109_8)⟩ (fun hHeld => ?_); refine Va Qy.tab8 Qy.bits8 (fun HT_ HW_ => ?_)
               generalize w24.drew = w25 at a3 HB GG22 HQ26 hf22_0 hf22_1 hf22_2 hf22_3 hf22_4 hf22_5 hf22_6 hf22_7 hf22_8 h6 h7 h8 h9 i0 i1 i2 i3 i4 i7 i8 i9 j3 j5 j7 j8 j9 k0 e0 e1 e2 e3 e4 e5 e6 e7 e8 n6 n7 n8 n9 o0 o1 o2 o3 o4 hHeld ⊢
               refine pu_ (i := 0) (N := some 44) #[true, false, false, false, false, false, false, false, false, false, false, false, false, false, false, false, false, false] ?_; refine pu_ (i := 1) (N := some 45) #[true, true, false, false, false, false, false, false, false, false, false, false, false, false, false, false, false, false] ?_; refine pu_ (i := 2) (N := some 46) #[true, true, true, false, false, false, false, false, false, false, false, false, false, false, false, false, false, false] ?_; refine pu_ (i := 3) (N := some 47) #[true, true, true, true, false, false, false, false, false, false, false, false, false, false, false, false, false, false] ?_; refine pu_ (i := 4) (N := some 48) #[true, true, true, true, true, false, false, false, false, false, false, false, false, false, false, false, false, false] ?_; refine pu_ (i := 5) (N := some 49) #[true, true, true, true, true, true, false, false, false, false, false, false, false, false, false, false, false, false] ?_; refine pu_ (i := 6) (N := some 50) #[true, true, true, true, true, true, true, false, false, false, false, false, false, false, false, false, false, false] ?_; refine pu_ (i := 7) (N := some 51) #[true, true, true, true, true, true, true, true, false, false, false, false, false, false, false, false, false, false] ?_; refine pu_ (i := 9) (N := some 53) #[true, true, true, true, true, true, true, true, false, true, false, false, false, false, false, false, false, false] ?_; refine pu_ (i := 10) (N := some 54) #[true, true, true, true, true, true, true, true, false, true, true, false, false, false, false, false, false, false] ?_; refine pu_ (i := 11) (N := some 55) #[true, true, true, true, true, true, true, true, false, true, true, true, false, false, false, false, false, false] ?_; refine pu_ (i := 12) (N := some 56) #[true, true, true, true, true, true, true, true, false, true, true, true, true, false, false, false, false, false] ?_; refine ta_ (i := 8) (N := some 52) #[true, true, true, true, true, true, true, true, true, true, true, true, true, false, false, false, false, false] ?_; refine ta_ (i := 13) (N := some 57) #[true, true, true, true, true, true, true, true, true, true, true, true, true, true, false, false, false, false] ?_; refine pu_ (i := 14) (N := some 58) #[true, true, true, true, true, true, true, true, true, true, true, true, true, true, true, false, false, false] ?_; refine pu_ (i := 15) (N := some 59) #[true, true, true, true, true, true, true, true, true, true, true, true, true, true, true, true, false, false] ?_; refine pu_ (i := 16) (N := some 60) #[true, true, true, true, true, true, true, true, true, true, true, true, true, true, true, true, true, false] ?_; refine Qbb (i := 17) (N := none) (bz_ 18 262143) rfl rfl (Kx HT_.out (by kernel_rfl)) (by decide) (fun K hK => ?_); refine Jz (w1 := ?_) (by rfl) rfl ?_ ?_; rotate_left
               ·go_simp
                rfl
               refine hK.out _ _ ?_; clear hK K; refine Ki (Vq HT_.out (by kernel_rfl)) ?_
               try go_wp2
               go_roundg kj2
               case measure => have := HK1.out; have := HJ2.out; omega
               case rel => exact ⟨(q5), (wrap64 (a0 + 1)), sm_, H', ⟨by have := HK1.out; have := HJ2.out; omega⟩, ⟨ro_ HQ26.out⟩, ⟨by repeat (first | (with_reducible first | exact HB.out | apply Qh | apply Qf | apply Qi | refine Qr ?_ GB22.out) | exact HB.out)⟩⟩
              ·rw [if_neg c21] at H
               exact absurd H (by simp)
             ·replace c20 := Bool.eq_false_iff.mpr c20
              subst c20
              have H1 : (if a1.length < 1099511627776 then (Qy.l0 kj2 l0 (a1 ++ [(⟨(Qd l0 a0).f0, (Qd l0 a0).f1, (Qd l0 a0).f2, (Qd l0 a0).f3, (Qd l0 a0).f4, (Qd l0 a0).f5, (Qd l0 a0).f6, (Qd l0 a0).f7, (Qd l0 a0).f8⟩ : Xi)]) (wrap64 (a0 + 1))) else (none)) = some r := by rw [if_neg (show ¬ (false = true) by decide)] at H; exact H
              clear H; have H := H1; clear H1
              by_cases c27 : a1.length < 1099511627776
              ·rw [if_pos c27] at H
               have r6 := Qa.mk c27; clear c27; obtain ⟨q7, g2⟩ : ∃ y_ : List (Xi), y_ = (a1 ++ [(⟨(Qd l0 a0).f0, (Qd l0 a0).f1, (Qd l0 a0).f2, (Qd l0 a0).f3, (Qd l0 a0).f4, (Qd l0 a0).f5, (Qd l0 a0).f6, (Qd l0 a0).f7, (Qd l0 a0).f8⟩ : Xi)]) := ⟨_, rfl⟩
               replace H : (Qy.l0 kj2 l0 q7 (wrap64 (a0 + 1))) = some r := by first | (rw [g2]; with_reducible exact H) | (have H2_ := (Option.bind_some _ _).symm.trans H; rw [g2]; with_reducible exact H2_) | (have H2_ := (Option.bind_some _ _).symm.trans H; with_reducible exact H2_) | with_reducible exact H | (rw [g2]; exact H) | exact H
               have r7 := Qa.mk g2; clear g2; have H' := Qa.mk H; clear H; have b4 : 0 ≤ (a0 : Int) := of_decide_eq_true Zx; have b5 : a0 < (l0.length : Int) := of_decide_eq_true Zx; obtain ⟨a4, e9, a5, a6, a7, a8, a9, b0, b1, b2, b3⟩ := Ub HR0.out a0 b4 b5
               cases e9; replace a5 := Qg HB.out a5; replace a6 := Qg HB.out a6; replace a7 := Qg HB.out a7; replace a8 := Qg HB.out a8; replace a9 := Qg HB.out a9; replace b0 := Qg HB.out b0; replace b1 := Qg HB.out b1; replace b2 := Qg HB.out b2; replace b3 := Qg HB.out b3; replace b4 := eq_true b4; replace b5 := eq_true b5; go_wp2_with (first | ((with_reducible refine Xo (f := 134) rfl ?_); refine Vb (some 31) rfl rfl Try.func134 (by kernel_rfl) rfl #[.agg #[.string ((Qd l0 a0).f0), .string ((Qd l0 a0).f1), .string ((Qd l0 a0).f2), .bool ((Qd l0 a0).f3), .string ((Qd l0 a0).f4), .string ((Qd l0 a0).f5), .string ((Qd l0 a0).f6), .string ((Qd l0 a0).f7), .bool ((Qd l0 a0).f8)]] rfl (by (try simp only [List.map_toArray, List.map_cons, List.map_nil]); first | done | rfl | (simp only [List.length_drop, List.length_take]; rfl)) ?_; (with_reducible refine (Yb.calls ((Qd l0 a0).f0) ((Qd l0 a0).f1) ((Qd l0 a0).f2) ((Qd l0 a0).f3) ((Qd l0 a0).f4) ((Qd l0 a0).f5) ((Qd l0 a0).f6) ((Qd l0 a0).f7) ((Qd l0 a0).f8) true _ A13.out).mono ?_); rintro e w28 ⟨rfl, hb⟩; refine ⟨_, rfl, ?_⟩; have n0_ := Qa.mk (Kd.R_below (ro_ a3.out) hb); have n1_ := Qa.mk (Qj bw_ hb); clear a3; clear HB; have a3 := n0_; have HB := n1_; clear n0_ n1_; (try clear hb); (try clear hb2); (try clear hk); (try clear hi); have f9 : 0 ≤ ((a2) : Int) := of_decide_eq_true Zx; have g0 : (a2) < (a1.length : Int) := of_decide_eq_true Zx; obtain ⟨n5, o7, h6, h7, h8, h9, i0, i1, i2, i3, i4⟩ := Ub (Kd.R_reads' a3.out).2.2 (a2) f9 g0; cases o7; replace f9 := eq_true f9; replace g0 := eq_true g0) | (go_at_call 134; (with_reducible refine (Yb.calls ((Qd a1 (a2)).f0) ((Qd a1 (a2)).f1) ((Qd a1 (a2)).f2) ((Qd a1 (a2)).f3) ((Qd a1 (a2)).f4) ((Qd a1 (a2)).f5) ((Qd a1 (a2)).f6) ((Qd a1 (a2)).f7) ((Qd a1 (a2)).f8) false _ A19.out).mono ?_); rintro e w29 ⟨rfl, hb⟩; have n0_ := Qa.mk (Kd.R_below (ro_ a3.out) hb); have n1_ := Qa.mk (Qj bw_ hb); clear a3; clear HB; have a3 := n0_; have HB := n1_; clear n0_ n1_; (try clear hb); (try clear hb2); (try clear hk); (try clear hi); have p4 : 0 ≤ (a0 : Int) := of_decide_eq_true Zx; have p5 : a0 < (l0.length : Int) := of_decide_eq_true Zx; obtain ⟨r8, t1, k2, k3, k4, k5, k6, k7, k8, k9, l3⟩ := Ub HR0.out a0 p4 p5; obtain rfl : a4 = r8 := (by injection t1); replace k2 := Qg HB.out k2; replace k3 := Qg HB.out k3; replace k4 := Qg HB.out k4; replace k5 := Qg HB.out k5; replace k6 := Qg HB.out k6; replace k7 := Qg HB.out k7; replace k8 := Qg HB.out k8; replace k9 := Qg HB.out k9; replace l3 := Qg HB.out l3; replace p4 := eq_true p4; replace p5 := eq_true p5) | ((with_reducible refine Xl (b := .append) (xs := #[.tmp 61, .tmp 66]) rfl ?_); at_builtin; refine Kd.R_append Kf (w0 := w) w.heap.size rfl (.tmp 61) (.tmp 66) 86 123 (.agg #[(.string ⟨#[]⟩), (.string ⟨#[]⟩), (.string ⟨#[]⟩), (.bool false), (.string ⟨#[]⟩), (.string ⟨#[]⟩), (.string ⟨#[]⟩), (.string ⟨#[]⟩), (.bool false)]) 128 rfl Try.underlying86 Jp rfl (by decide) (by omega) (.slice (some n5) a1.length co4) a1 (⟨(Qd l0 a0).f0, (Qd l0 a0).f1, (Qd l0 a0).f2, (Qd l0 a0).f3, (Qd l0 a0).f4, (Qd l0 a0).f5, (Qd l0 a0).f6, (Qd l0 a0).f7, (Qd l0 a0).f8⟩ : Xi) [.string ((Qd l0 a0).f0), .string ((Qd l0 a0).f1), .string ((Qd l0 a0).f2), .bool ((Qd l0 a0).f3), .string ((Qd l0 a0).f4), .string ((Qd l0 a0).f5), .string ((Qd l0 a0).f6), .string ((Qd l0 a0).f7), .bool ((Qd l0 a0).f8)] (fun _ => True) (fun _ => False) rfl rfl ?aP (fun _ hk => hk.elim) ?aF ?aO ?aB ?aS ?aL ?_; (case aP => exact Ul _ _ _ (⟨(Qd l0 a0).f0, (Qd l0 a0).f1, (Qd l0 a0).f2, (Qd l0 a0).f3, (Qd l0 a0).f4, (Qd l0 a0).f5, (Qd l0 a0).f6, (Qd l0 a0).f7, (Qd l0 a0).f8⟩ : Xi)); (case aB => exact bw_); (case aF => exact (fun _ _ => trivial)); (case aO => exact (ro_ a3.out)); (case aS => exact (Qo bw_)); (case aL => have := r6.out; omega); intro u3 w30 ho hb hg hat; rw [← r7.out] at ho; have n0_ := Qa.mk (hb); have n1_ := Qa.mk (ho); clear HB; clear a3; have HB := n0_; have r9 := n1_; clear n0_ n1_; clear ho hb hg hat))
               go_roundg kj2
               case measure => have := HK1.out; have := HJ2.out; omega
               case rel => exact ⟨(q7), (wrap64 (a0 + 1)), sm_, H', ⟨by have := HK1.out; have := HJ2.out; omega⟩, ⟨ro_ r9.out⟩, ⟨bw_⟩⟩
              ·rw [if_neg c27] at H
               exact absurd H (by simp)
            ·rw [if_neg c18] at H
             exact absurd H (by simp)
           ·rw [if_neg c17] at H
            exact absurd H (by simp)
          ·rw [if_neg c15] at H
           have r1 : decide (0 < (a1.length : Int)) = false := decide_eq_false c15; have r2 : decide (0 < a1.length) = false := decide_eq_false (by omega); clear c15
           by_cases c31 : a1.length < 1099511627776
           ·rw [if_pos c31] at H
            have s0 := Qa.mk c31; clear c31; obtain ⟨q8, g3⟩ : ∃ y_ : List (Xi), y_ = (a1 ++ [(⟨(Qd l0 a0).f0, (Qd l0 a0).f1, (Qd l0 a0).f2, (Qd l0 a0).f3, (Qd l0 a0).f4, (Qd l0 a0).f5, (Qd l0 a0).f6, (Qd l0 a0).f7, (Qd l0 a0).f8⟩ : Xi)]) := ⟨_, rfl⟩
            replace H : (Qy.l0 kj2 l0 q8 (wrap64 (a0 + 1))) = some r := by first | (rw [g3]; with_reducible exact H) | (have H2_ := (Option.bind_some _ _).symm.trans H; rw [g3]; with_reducible exact H2_) | (have H2_ := (Option.bind_some _ _).symm.trans H; with_reducible exact H2_) | with_reducible exact H | (rw [g3]; exact H) | exact H
            have s1 := Qa.mk g3; clear g3; have H' := Qa.mk H; clear H; have b4 : 0 ≤ (a0 : Int) := of_decide_eq_true Zx; have b5 : a0 < (l0.length : Int) := of_decide_eq_true Zx; obtain ⟨a4, e9, a5, a6, a7, a8, a9, b0, b1, b2, b3⟩ := Ub HR0.out a0 b4 b5
            cases e9; replace a5 := Qg HB.out a5; replace a6 := Qg HB.out a6; replace a7 := Qg HB.out a7; replace a8 := Qg HB.out a8; replace a9 := Qg HB.out a9; replace b0 := Qg HB.out b0; replace b1 := Qg HB.out b1; replace b2 := Qg HB.out b2; replace b3 := Qg HB.out b3; replace b4 := eq_true b4; replace b5 := eq_true b5; go_wp2_with (first | ((with_reducible refine Xo (f := 134) rfl ?_); refine Vb (some 31) rfl rfl Try.func134 (by kernel_rfl) rfl #[.agg #[.string ((Qd l0 a0).f0), .string ((Qd l0 a0).f1), .string ((Qd l0 a0).f2), .bool ((Qd l0 a0).f3), .string ((Qd l0 a0).f4), .string ((Qd l0 a0).f5), .string ((Qd l0 a0).f6), .string ((Qd l0 a0).f7), .bool ((Qd l0 a0).f8)]] rfl (by (try simp only [List.map_toArray, List.map_cons, List.map_nil]); first | done | rfl | (simp only [List.length_drop, List.length_take]; rfl)) ?_; (with_reducible refine (Yb.calls ((Qd l0 a0).f0) ((Qd l0 a0).f1) ((Qd l0 a0).f2) ((Qd l0 a0).f3) ((Qd l0 a0).f4) ((Qd l0 a0).f5) ((Qd l0 a0).f6) ((Qd l0 a0).f7) ((Qd l0 a0).f8) true _ A13.out).mono ?_); rintro e w32 ⟨rfl, hb⟩; refine ⟨_, rfl, ?_⟩; have n0_ := Qa.mk (Kd.R_below (ro_ a3.out) hb); have n1_ := Qa.mk (Qj bw_ hb); clear a3; clear HB; have a3 := n0_; have HB := n1_; clear n0_ n1_; (try clear hb); (try clear hb2); (try clear hk); (try clear hi); have p6 : 0 ≤ (a0 : Int) := of_decide_eq_true Zx; have p7 : a0 < (l0.length : Int) := of_decide_eq_true Zx; obtain ⟨s2, t2, l4, l5, l6, l7, l8, l9, m0, m1, m2⟩ := Ub HR0.out a0 p6 p7; obtain rfl : a4 = s2 := (by injection t2); replace l4 := Qg HB.out l4; replace l5 := Qg HB.out l5; replace l6 := Qg HB.out l6; replace l7 := Qg HB.out l7; replace l8 := Qg HB.out l8; replace l9 := Qg HB.out l9; replace m0 := Qg HB.out m0; replace m1 := Qg HB.out m1; replace m2 := Qg HB.out m2; replace p6 := eq_true p6; replace p7 := eq_true p7) | ((with_reducible refine Xl (b := .append) (xs := #[.tmp 61, .tmp 66]) rfl ?_); at_builtin; refine Kd.R_append Kf (w0 := w) w.heap.size rfl (.tmp 61) (.tmp 66) 86 123 (.agg #[(.string ⟨#[]⟩), (.string ⟨#[]⟩), (.string ⟨#[]⟩), (.bool false), (.string ⟨#[]⟩), (.string ⟨#[]⟩), (.string ⟨#[]⟩), (.string ⟨#[]⟩), (.bool false)]) 128 rfl Try.underlying86 Jp rfl (by decide) (by omega) (.slice Ao4 a1.length co4) a1 (⟨(Qd l0 a0).f0, (Qd l0 a0).f1, (Qd l0 a0).f2, (Qd l0 a0).f3, (Qd l0 a0).f4, (Qd l0 a0).f5, (Qd l0 a0).f6, (Qd l0 a0).f7, (Qd l0 a0).f8⟩ : Xi) [.string ((Qd l0 a0).f0), .string ((Qd l0 a0).f1), .string ((Qd l0 a0).f2), .bool ((Qd l0 a0).f3), .string ((Qd l0 a0).f4), .string ((Qd l0 a0).f5), .string ((Qd l0 a0).f6), .string ((Qd l0 a0).f7), .bool ((Qd l0 a0).f8)] (fun _ => True) (fun _ => False) rfl rfl ?aP (fun _ hk => hk.elim) ?aF ?aO ?aB ?aS ?aL ?_; (case aP => exact Ul _ _ _ (⟨(Qd l0 a0).f0, (Qd l0 a0).f1, (Qd l0 a0).f2, (Qd l0 a0).f3, (Qd l0 a0).f4, (Qd l0 a0).f5, (Qd l0 a0).f6, (Qd l0 a0).f7, (Qd l0 a0).f8⟩ : Xi)); (case aB => exact bw_); (case aF => exact (fun _ _ => trivial)); (case aO => exact (ro_ a3.out)); (case aS => exact (Qo bw_)); (case aL => have := s0.out; omega); intro u4 w33 ho hb hg hat; rw [← s1.out] at ho; have n0_ := Qa.mk (hb); have n1_ := Qa.mk (ho); clear HB; clear a3; have HB := n0_; have s3 := n1_; clear n0_ n1_; clear ho hb hg hat))
            go_roundg kj2
            case measure => have := HK1.out; have := HJ2.out; omega
            case rel => exact ⟨(q8), (wrap64 (a0 + 1)), sm_, H', ⟨by have := HK1.out; have := HJ2.out; omega⟩, ⟨ro_ s3.out⟩, ⟨bw_⟩⟩
           ·rw [if_neg c31] at H
            exact absurd H (by simp)
         ·replace c14 := Bool.eq_false_iff.mpr c14
          subst c14
          have H1 : (if a1.length < 1099511627776 then (Qy.l0 kj2 l0 (a1 ++ [(⟨(Qd l0 a0).f0, (Qd l0 a0).f1, (Qd l0 a0).f2, (Qd l0 a0).f3, (Qd l0 a0).f4, (Qd l0 a0).f5, (Qd l0 a0).f6, (Qd l0 a0).f7, (Qd l0 a0).f8⟩ : Xi)]) (wrap64 (a0 + 1))) else (none)) = some r := by rw [if_neg (show ¬ (false = true) by decide)] at H; exact H
          clear H; have H := H1; clear H1
          by_cases c34 : a1.length < 1099511627776
          ·rw [if_pos c34] at H
           have s4 := Qa.mk c34; clear c34; obtain ⟨q9, g4⟩ : ∃ y_ : List (Xi), y_ = (a1 ++ [(⟨(Qd l0 a0).f0, (Qd l0 a0).f1, (Qd l0 a0).f2, (Qd l0 a0).f3, (Qd l0 a0).f4, (Qd l0 a0).f5, (Qd l0 a0).f6, (Qd l0 a0).f7, (Qd l0 a0).f8⟩ : Xi)]) := ⟨_, rfl⟩
           replace H : (Qy.l0 kj2 l0 q9 (wrap64 (a0 + 1))) = some r := by first | (rw [g4]; with_reducible exact H) | (have H2_ := (Option.bind_some _ _).symm.trans H; rw [g4]; with_reducible exact H2_) | (have H2_ := (Option.bind_some _ _).symm.trans H; with_reducible exact H2_) | with_reducible exact H | (rw [g4]; exact H) | exact H
           have s5 := Qa.mk g4; clear g4; have H' := Qa.mk H; clear H; have b4 : 0 ≤ (a0 : Int) := of_decide_eq_true Zx; have b5 : a0 < (l0.length : Int) := of_decide_eq_true Zx; obtain ⟨a4, e9, a5, a6, a7, a8, a9, b0, b1, b2, b3⟩ := Ub HR0.out a0 b4 b5
           cases e9; replace a5 := Qg HB.out a5; replace a6 := Qg HB.out a6; replace a7 := Qg HB.out a7; replace a8 := Qg HB.out a8; replace a9 := Qg HB.out a9; replace b0 := Qg HB.out b0; replace b1 := Qg HB.out b1; replace b2 := Qg HB.out b2; replace b3 := Qg HB.out b3; replace b4 := eq_true b4; replace b5 := eq_true b5; go_wp2_with (first | ((with_reducible refine Xo (f := 134) rfl ?_); refine Vb (some 31) rfl rfl Try.func134 (by kernel_rfl) rfl #[.agg #[.string ((Qd l0 a0).f0), .string ((Qd l0 a0).f1), .string ((Qd l0 a0).f2), .bool ((Qd l0 a0).f3), .string ((Qd l0 a0).f4), .string ((Qd l0 a0).f5), .string ((Qd l0 a0).f6), .string ((Qd l0 a0).f7), .bool ((Qd l0 a0).f8)]] rfl (by (try simp only [List.map_toArray, List.map_cons, List.map_nil]); first | done | rfl | (simp only [List.length_drop, List.length_take]; rfl)) ?_; (with_reducible refine (Yb.calls ((Qd l0 a0).f0) ((Qd l0 a0).f1) ((Qd l0 a0).f2) ((Qd l0 a0).f3) ((Qd l0 a0).f4) ((Qd l0 a0).f5) ((Qd l0 a0).f6) ((Qd l0 a0).f7) ((Qd l0 a0).f8) false _ A13.out).mono ?_); rintro e w35 ⟨rfl, hb⟩; refine ⟨_, rfl, ?_⟩; have n0_ := Qa.mk (Kd.R_below (ro_ a3.out) hb); have n1_ := Qa.mk (Qj bw_ hb); clear a3; clear HB; have a3 := n0_; have HB := n1_; clear n0_ n1_; (try clear hb); (try clear hb2); (try clear hk); (try clear hi); have p8 : 0 ≤ (a0 : Int) := of_decide_eq_true Zx; have p9 : a0 < (l0.length : Int) := of_decide_eq_true Zx; obtain ⟨s6, t3, m3, m4, m5, m6, m7, m8, m9, n0, n1⟩ := Ub HR0.out a0 p8 p9; obtain rfl : a4 = s6 := (by injection t3); replace m3 := Qg HB.out m3; replace m4 := Qg HB.out m4; replace m5 := Qg HB.out m5; replace m6 := Qg HB.out m6; replace m7 := Qg HB.out m7; replace m8 := Qg HB.out m8; replace m9 := Qg HB.out m9; replace n0 := Qg HB.out n0; replace n1 := Qg HB.out n1; replace p8 := eq_true p8; replace p9 := eq_true p9) | ((with_reducible refine Xl (b := .append) (xs := #[.tmp 61, .tmp 66]) rfl ?_); at_builtin; refine Kd.R_append Kf (w0 := w) w.heap.size rfl (.tmp 61) (.tmp 66) 86 123 (.agg #[(.string ⟨#[]⟩), (.string ⟨#[]⟩), (.string ⟨#[]⟩), (.bool false), (.string ⟨#[]⟩), (.string ⟨#[]⟩), (.string ⟨#[]⟩), (.string ⟨#[]⟩), (.bool false)]) 128 rfl Try.underlying86 Jp rfl (by decide) (by omega) (.slice Ao4 a1.length co4) a1 (⟨(Qd l0 a0).f0, (Qd l0 a0).f1, (Qd l0 a0).f2, (Qd l0 a0).f3, (Qd l0 a0).f4, (Qd l0 a0).f5, (Qd l0 a0).f6, (Qd l0 a0).f7, (Qd l0 a0).f8⟩ : Xi) [.string ((Qd l0 a0).f0), .string ((Qd l0 a0).f1), .string ((Qd l0 a0).f2), .bool ((Qd l0 a0).f3), .string ((Qd l0 a0).f4), .string ((Qd l0 a0).f5), .string ((Qd l0 a0).f6), .string ((Qd l0 a0).f7), .bool ((Qd l0 a0).f8)] (fun _ => True) (fun _ => False) rfl rfl ?aP (fun _ hk => hk.elim) ?aF ?aO ?aB ?aS ?aL ?_; (case aP => exact Ul _ _ _ (⟨(Qd l0 a0).f0, (Qd l0 a0).f1, (Qd l0 a0).f2, (Qd l0 a0).f3, (Qd l0 a0).f4, (Qd l0 a0).f5, (Qd l0 a0).f6, (Qd l0 a0).f7, (Qd l0 a0).f8⟩ : Xi)); (case aB => exact bw_); (case aF => exact (fun _ _ => trivial)); (case aO => exact (ro_ a3.out)); (case aS => exact (Qo bw_)); (case aL => have := s4.out; omega); intro u5 w36 ho hb hg hat; rw [← s5.out] at ho; have n0_ := Qa.mk (hb); have n1_ := Qa.mk (ho); clear HB; clear a3; have HB := n0_; have s7 := n1_; clear n0_ n1_; clear ho hb hg hat))
           go_roundg kj2
           case measure => have := HK1.out; have := HJ2.out; omega
           case rel => exact ⟨(q9), (wrap64 (a0 + 1)), sm_, H', ⟨by have := HK1.out; have := HJ2.out; omega⟩, ⟨ro_ s7.out⟩, ⟨bw_⟩⟩
          ·rw [if_neg c34] at H
           exact absurd H (by simp)
        ·rw [if_neg c12] at H
         exact absurd H (by simp)
       ·rw [if_neg c11] at H
        exact absurd H (by simp)
   ·rw [if_neg c2] at H
    have q2 : decide (a0 < (l0.length : Int)) = false := decide_eq_false c2; clear c2; obtain rfl := Option.some.inj H
    go_wp2
    go_ret; exact ⟨_, by first | rfl | (simp [Qt, Qu] <;> rfl) | (simp [*, Qt, Qu] <;> rfl), ro_ a3.out, bw_⟩
def Xe.l0 : Nat → List (Xi) → Int → Int → Option (Bool)
 | 0, _, _, _ => none
 | k + 1, x0, x3, x4 => if x4 < (x0.length : Int) then (if 0 ≤ x4 then (Xe.l0 k x0 (wrap64 ((wrap64 ((wrap64 ((wrap64 ((wrap64 ((wrap64 ((wrap64 (x3 + (((Qd x0 x4).f4).size : Int))) + (((Qd x0 x4).f5).size : Int))) + (((Qd x0 x4).f6).size : Int))) + (((Qd x0 x4).f7).size : Int))) + (((Qd x0 x4).f0).size : Int))) + (((Qd x0 x4).f1).size : Int))) + (((Qd x0 x4).f2).size : Int))) (wrap64 (x4 + 1))) else (none)) else (if (x0.length : Int) ≤ 60 then (some (decide (x3 ≤ 3000))) else (some false))
def Xe.f (k : Nat) (l0 : List (Xi)) : Option (Bool) := Xe.l0 k l0 0 0
set_option maxHeartbeats 8000000 in
set_option maxRecDepth 100000 in
theorem Xe.calls (k : Nat) (A0 : Option Addr) (c0 : Nat) (l0 : List (Xi)) (r : Bool) (w : World) (hr0 : Kd.C Kf w A0 l0.length l0) (hc0 : l0.length ≤ c0) (h : Xe.f k l0 = some r) :
  Calls Try.prog 59 #[.slice A0 l0.length c0] w fun e w' => e = .returned (.bool r) ∧ Below w.heap.size w w' := by
 have hu123 := Try.underlying123; have HR0 := Qa.mk hr0; have HC0 := Qa.mk hc0; clear hr0 hc0; have HB := Qa.mk (Below.refl w.heap.size w); have H : (Xe.l0 k l0 0 0) = some r := h; clear h; have H' := Qa.mk H; clear H
 go_enter Try.func59, Try.ntmps59
 go_wp2
 go_loopg [3, 4] k (fun kq v3 v4 w' => ∃ (b0 : Int) (a0 : Int), v3 = .int .i64 b0 ∧ v4 = .int .i64 a0 ∧ Qa (Xe.l0 kq l0 b0 a0 = some r) ∧ Qa (kq ≤ k) ∧ Qa (Below w.heap.size w w'))
 case atStart => exact ⟨(0), (0), sm_, sm_, H', ⟨Nat.le_refl _⟩, ⟨bw_⟩⟩
 case round =>
  clear H'; obtain ⟨b0, a0, rfl, rfl, HA, HK1, HB⟩ := hrel
  cases gk with
  | zero => exact absurd HA.out (by simp [Xe.l0])
  | succ k1 =>
   have H := HA.out; clear HA
   simp only [Xe.l0] at H
   by_cases c2 : a0 < (l0.length : Int)
   ·rw [if_pos c2] at H
    have b5 : decide (a0 < (l0.length : Int)) = true := decide_eq_true c2; clear c2
    by_cases c3 : 0 ≤ a0
    ·rw [if_pos c3] at H
     have f8 : decide (0 ≤ a0) = true := decide_eq_true c3; clear c3; have H' := Qa.mk H; clear H; have b1 : 0 ≤ (a0 : Int) := of_decide_eq_true Zx; have b2 : a0 < (l0.length : Int) := of_decide_eq_true Zx; obtain ⟨e9, b6, a1, a2, a3, a4, a5, a6, a7, a8, a9⟩ := Ub HR0.out a0 b1 b2
     cases b6; replace a1 := Qg HB.out a1; replace a2 := Qg HB.out a2; replace a3 := Qg HB.out a3; replace a4 := Qg HB.out a4; replace a5 := Qg HB.out a5; replace a6 := Qg HB.out a6; replace a7 := Qg HB.out a7; replace a8 := Qg HB.out a8; replace a9 := Qg HB.out a9; replace b1 := eq_true b1; replace b2 := eq_true b2; go_wp2_with (first | ((with_reducible refine Zd (N := 5) rfl ?_); refine Zc ?hg (N := 5) ?hd (cs := #[.string (⟨#[]⟩ : ByteArray), .string (⟨#[]⟩ : ByteArray), .string (⟨#[]⟩ : ByteArray), .bool false, .string (⟨#[]⟩ : ByteArray), .string (⟨#[]⟩ : ByteArray), .string (⟨#[]⟩ : ByteArray), .string (⟨#[]⟩ : ByteArray), .bool false]) (t := 123) ?hr ?_; (case hd => rfl); (case hg => rfl); (case hr => first | (go_simp; done) | (go_simp; rfl)); intro b3 hg w4 hbox hb; have n0_ := Qa.mk (Qj bw_ hb); have n1_ := Qa.mk (hbox); have n2_ := Qa.mk ((gw_ hg : w.heap.size ≤ b3)); have n3_ := Qa.mk ((gw_ hg : w.heap.size ≤ b3)); clear HB; have HB := n0_; have b4 := n1_; have f3 := n2_; have GE102 := n3_; clear n0_ n1_ n2_ n3_; clear hb hbox hg; obtain ⟨b9, d0, d3, d4, d5, d6, d7, d8, d9⟩ := Ju b4.out; obtain ⟨e0, e1, e2, e3, e4, e5, e6, e7, e8⟩ := Jv b4.out))
     go_roundg k1
     case measure => have := HK1.out; omega
     case rel => exact ⟨(wrap64 ((wrap64 ((wrap64 ((wrap64 ((wrap64 ((wrap64 ((wrap64 (b0 + (((Qd l0 a0).f4).size : Int))) + (((Qd l0 a0).f5).size : Int))) + (((Qd l0 a0).f6).size : Int))) + (((Qd l0 a0).f7).size : Int))) + (((Qd l0 a0).f0).size : Int))) + (((Qd l0 a0).f1).size : Int))) + (((Qd l0 a0).f2).size : Int))), (wrap64 (a0 + 1)), sm_, sm_, H', ⟨by have := HK1.out; omega⟩, ⟨bw_⟩⟩
    ·rw [if_neg c3] at H
     exact absurd H (by simp)
   ·rw [if_neg c2] at H
    have b5 : decide (a0 < (l0.length : Int)) = false := decide_eq_false c2; clear c2
    by_cases c6 : (l0.length : Int) ≤ 60
    ·rw [if_pos c6] at H
     have b7 : decide ((l0.length : Int) ≤ 60) = true := decide_eq_true c6; have b8 : decide (l0.length ≤ 60) = true := decide_eq_true (by omega); clear c6; obtain rfl := Option.some.inj H
     go_wp2
     go_ret; exact ⟨by first | rfl | (simp [Qt, Qu] <;> rfl) | (simp [*, Qt, Qu] <;> rfl), bw_⟩
    ·rw [if_neg c6] at H
     have b7 : decide ((l0.length : Int) ≤ 60) = false := decide_eq_false c6; have b8 : decide (l0.length ≤ 60) = false := decide_eq_false (by omega); clear c6; obtain rfl := Option.some.inj H
     go_wp2
     go_ret; exact ⟨by first | rfl | (simp [Qt, Qu] <;> rfl) | (simp [*, Qt, Qu] <;> rfl), bw_⟩
end Go.Proofs.Ytadafplbgophfaa.PA
end
section
namespace Go.Proofs.Ytadafplbgophfaa.PA
open Go.RowKit Go.Proofs.YtadafplbgophfaaW.PrintWords Go.Proofs.YtadafplbgophfaaW.PrintLast Go.Proofs.YtadafplbgophfaaW.PrintMore
attribute [local go_sem] Xx Xz Yk Yl Xj Xk Xy Ya
attribute [local go_sem high] Qjx
def Xa.l0 : Nat → List (Xi) → List (Xi) → Int → Option (Bool)
 | 0, _, _, _ => none
 | k + 1, x0, x1, x5 => if x5 < (x0.length : Int) then (if 0 ≤ x5 then (if x5 < (x1.length : Int) then (if (!((((Qd x0 x5).f0).toList) == (((Qd x1 x5).f0).toList)) || (!((((Qd x0 x5).f1).toList) == (((Qd x1 x5).f1).toList)) || (!((((Qd x0 x5).f2).toList) == (((Qd x1 x5).f2).toList)) || (!(((Qd x0 x5).f3) == ((Qd x1 x5).f3)) || (!((((Qd x0 x5).f4).toList) == (((Qd x1 x5).f4).toList)) || (!((((Qd x0 x5).f5).toList) == (((Qd x1 x5).f5).toList)) || (!((((Qd x0 x5).f6).toList) == (((Qd x1 x5).f6).toList)) || (!((((Qd x0 x5).f7).toList) == (((Qd x1 x5).f7).toList)) || (!(((Qd x0 x5).f8) == ((Qd x1 x5).f8))))))))))) = true then (some false) else (Xa.l0 k x0 x1 (wrap64 (x5 + 1)))) else (none)) else (none)) else (some true)
def Xa.f (k : Nat) (l0 : List (Xi)) (l1 : List (Xi)) : Option (Bool) := if (l0.length : Int) = (l1.length : Int) then (Xa.l0 k l0 l1 0) else (some false)
set_option maxHeartbeats 8000000 in
set_option maxRecDepth 100000 in
theorem Xa.calls (k : Nat) (A0 : Option Addr) (c0 : Nat) (l0 : List (Xi)) (A1 : Option Addr) (c1 : Nat) (l1 : List (Xi)) (r : Bool) (w : World) (hr0 : Kd.C Kf w A0 l0.length l0) (hc0 : l0.length ≤ c0) (hr1 : Kd.C Kf w A1 l1.length l1) (hc1 : l1.length ≤ c1) (h : Xa.f k l0 l1 = some r) :
  Calls Try.prog 66 #[.slice A0 l0.length c0, .slice A1 l1.length c1] w fun e w' => e = .returned (.bool r) ∧ Zl w w' := by
 have hu123 := Try.underlying123; have HR0 := Qa.mk hr0; have HC0 := Qa.mk hc0; clear hr0 hc0; have HR1 := Qa.mk hr1; have HC1 := Qa.mk hc1; clear hr1 hc1; have H : (if (l0.length : Int) = (l1.length : Int) then (Xa.l0 k l0 l1 0) else (some false)) = some r := h; clear h
 by_cases c3 : (l0.length : Int) = (l1.length : Int)
 ·rw [if_pos c3] at H
  have d7 : ((l0.length : Int) == (l1.length : Int)) = true := beq_iff_eq.mpr c3; have d8 : ((l0.length : Int) != (l1.length : Int)) = false := bne_eq_false_iff_eq.mpr c3
  have d9 : (l0.length == l1.length) = true := by first | simpa using c3 | (simp at c3 ⊢; omega)
  clear c3; have H' := Qa.mk H; clear H
  go_enter Try.func66, Try.ntmps66
  go_wp2
  repeat (go_quiet (fail); try go_wp2)
  go_loopg [5] k (fun kq v5 w' => ∃ (a0 : Int), v5 = .int .i64 a0 ∧ Qa (Xa.l0 kq l0 l1 a0 = some r) ∧ Qa (kq ≤ k) ∧ Zl w w')
  case atStart => exact ⟨(0), sm_, H', ⟨Nat.le_refl _⟩, by repeat (first | exact Zl.refl _ | apply Zl.step)⟩
  case round =>
   clear H'
   try clear c1
   try clear p2
   try clear c3
   try clear d7
   try clear d8
   try clear d9
   obtain ⟨a0, rfl, HA, HK1, ⟨m1, rfl⟩⟩ := hrel
   cases gk with
   | zero => exact absurd HA.out (by simp [Xa.l0])
   | succ k1 =>
    have H := HA.out; clear HA
    simp only [Xa.l0] at H
    by_cases c4 : a0 < (l0.length : Int)
    ·rw [if_pos c4] at H
     have e2 : decide (a0 < (l0.length : Int)) = true := decide_eq_true c4; clear c4
     by_cases c5 : 0 ≤ a0
     ·rw [if_pos c5] at H
      have e4 : decide (0 ≤ a0) = true := decide_eq_true c5; clear c5
      by_cases c6 : a0 < (l1.length : Int)
      ·rw [if_pos c6] at H
       have e5 : decide (a0 < (l1.length : Int)) = true := decide_eq_true c6; clear c6
       by_cases c7 : (!((((Qd l0 a0).f0).toList) == (((Qd l1 a0).f0).toList)) || (!((((Qd l0 a0).f1).toList) == (((Qd l1 a0).f1).toList)) || (!((((Qd l0 a0).f2).toList) == (((Qd l1 a0).f2).toList)) || (!(((Qd l0 a0).f3) == ((Qd l1 a0).f3)) || (!((((Qd l0 a0).f4).toList) == (((Qd l1 a0).f4).toList)) || (!((((Qd l0 a0).f5).toList) == (((Qd l1 a0).f5).toList)) || (!((((Qd l0 a0).f6).toList) == (((Qd l1 a0).f6).toList)) || (!((((Qd l0 a0).f7).toList) == (((Qd l1 a0).f7).toList)) || (!(((Qd l0 a0).f8) == ((Qd l1 a0).f8))))))))))) = true
       ·rw [if_pos c7] at H
        have e3 : (!((((Qd l0 a0).f0).toList) == (((Qd l1 a0).f0).toList)) || (!((((Qd l0 a0).f1).toList) == (((Qd l1 a0).f1).toList)) || (!((((Qd l0 a0).f2).toList) == (((Qd l1 a0).f2).toList)) || (!(((Qd l0 a0).f3) == ((Qd l1 a0).f3)) || (!((((Qd l0 a0).f4).toList) == (((Qd l1 a0).f4).toList)) || (!((((Qd l0 a0).f5).toList) == (((Qd l1 a0).f5).toList)) || (!((((Qd l0 a0).f6).toList) == (((Qd l1 a0).f6).toList)) || (!((((Qd l0 a0).f7).toList) == (((Qd l1 a0).f7).toList)) || (!(((Qd l0 a0).f8) == ((Qd l1 a0).f8))))))))))) = true := c7; clear c7; obtain rfl := Option.some.inj H; have a1 : 0 ≤ (a0 : Int) := of_decide_eq_true Zx; have a2 : a0 < (l0.length : Int) := of_decide_eq_true Zx; obtain ⟨e0, a5, a7, a8, a9, b0, b1, b2, b3, b4, b5⟩ := Ub HR0.out a0 a1 a2
        cases a5; replace a1 := eq_true a1; replace a2 := eq_true a2; have a3 : 0 ≤ (a0 : Int) := of_decide_eq_true Zx; have a4 : a0 < (l1.length : Int) := of_decide_eq_true Zx; obtain ⟨e1, a6, b6, b7, b8, b9, d0, d3, d4, d5, d6⟩ := Ub HR1.out a0 a3 a4
        cases a6; replace a3 := eq_true a3; replace a4 := eq_true a4
        go_wp2
        repeat (go_quiet (fail); try go_wp2)
        go_ret; exact ⟨sm_, by repeat (first | exact Zl.refl _ | apply Zl.step)⟩
       ·rw [if_neg c7] at H
        have e3 : (!((((Qd l0 a0).f0).toList) == (((Qd l1 a0).f0).toList)) || (!((((Qd l0 a0).f1).toList) == (((Qd l1 a0).f1).toList)) || (!((((Qd l0 a0).f2).toList) == (((Qd l1 a0).f2).toList)) || (!(((Qd l0 a0).f3) == ((Qd l1 a0).f3)) || (!((((Qd l0 a0).f4).toList) == (((Qd l1 a0).f4).toList)) || (!((((Qd l0 a0).f5).toList) == (((Qd l1 a0).f5).toList)) || (!((((Qd l0 a0).f6).toList) == (((Qd l1 a0).f6).toList)) || (!((((Qd l0 a0).f7).toList) == (((Qd l1 a0).f7).toList)) || (!(((Qd l0 a0).f8) == ((Qd l1 a0).f8))))))))))) = false := by simpa using c7
        clear c7; have H' := Qa.mk H; clear H; have a1 : 0 ≤ (a0 : Int) := of_decide_eq_true Zx; have a2 : a0 < (l0.length : Int) := of_decide_eq_true Zx; obtain ⟨e0, a5, a7, a8, a9, b0, b1, b2, b3, b4, b5⟩ := Ub HR0.out a0 a1 a2
        cases a5; replace a1 := eq_true a1; replace a2 := eq_true a2; have a3 : 0 ≤ (a0 : Int) := of_decide_eq_true Zx; have a4 : a0 < (l1.length : Int) := of_decide_eq_true Zx; obtain ⟨e1, a6, b6, b7, b8, b9, d0, d3, d4, d5, d6⟩ := Ub HR1.out a0 a3 a4
        cases a6; replace a3 := eq_true a3; replace a4 := eq_true a4
        go_wp2
        repeat (go_quiet (fail); try go_wp2)
        go_roundg k1
        case measure => have := HK1.out; omega
        case rel => exact ⟨(wrap64 (a0 + 1)), sm_, H', ⟨by have := HK1.out; omega⟩, by repeat (first | exact Zl.refl _ | apply Zl.step)⟩
      ·rw [if_neg c6] at H
       exact absurd H (by simp)
     ·rw [if_neg c5] at H
      exact absurd H (by simp)
    ·rw [if_neg c4] at H
     have e2 : decide (a0 < (l0.length : Int)) = false := decide_eq_false c4; clear c4; obtain rfl := Option.some.inj H
     go_wp2
     repeat (go_quiet (fail); try go_wp2)
     go_ret; exact ⟨sm_, by repeat (first | exact Zl.refl _ | apply Zl.step)⟩
 ·rw [if_neg c3] at H
  have d7 : ((l0.length : Int) == (l1.length : Int)) = false := beq_eq_false_iff_ne.mpr c3; have d8 : ((l0.length : Int) != (l1.length : Int)) = true := bne_iff_ne.mpr c3
  have d9 : (l0.length == l1.length) = false := by first | simpa using c3 | (simp at c3 ⊢; omega)
  obtain rfl := Option.some.inj H
  go_enter Try.func66, Try.ntmps66
  go_wp2
  repeat (go_quiet (fail); try go_wp2)
  go_ret; exact ⟨sm_, by repeat (first | exact Zl.refl _ | apply Zl.step)⟩
end Go.Proofs.Ytadafplbgophfaa.PA
end
section
namespace Go.Proofs.Ytadafplbgophfaa.PA
open Go.RowKit Go.Proofs.YtadafplbgophfaaW.PrintWords Go.Proofs.YtadafplbgophfaaW.PrintLast Go.Proofs.YtadafplbgophfaaW.PrintMore
attribute [local go_sem] Xx Xz Yk Yl Xj Xk Xy Ya
def Uf.f (a0 : ByteArray) (a1 : ByteArray) (a2 : ByteArray) (a3 : Bool) (a4 : ByteArray) (a5 : ByteArray) (a6 : ByteArray) (a7 : ByteArray) (a8 : Bool) : Option (ByteArray × ByteArray × ByteArray × Bool × ByteArray × ByteArray × ByteArray × ByteArray × Bool) := some (a0, a1, a2, a3, a4, a5, a6, a7, a8)
set_option maxHeartbeats 8000000 in
set_option maxRecDepth 100000 in
theorem Uf.calls (a0 : ByteArray) (a1 : ByteArray) (a2 : ByteArray) (a3 : Bool) (a4 : ByteArray) (a5 : ByteArray) (a6 : ByteArray) (a7 : ByteArray) (a8 : Bool) (r1 : ByteArray) (r2 : ByteArray) (r3 : ByteArray) (r4 : Bool) (r5 : ByteArray) (r6 : ByteArray) (r7 : ByteArray) (r8 : ByteArray) (r9 : Bool) (w : World) (h : Uf.f a0 a1 a2 a3 a4 a5 a6 a7 a8 = some (r1, r2, r3, r4, r5, r6, r7, r8, r9)) :
  Calls Try.prog 107 #[.agg #[.string a0, .string a1, .string a2, .bool a3, .string a4, .string a5, .string a6, .string a7, .bool a8]] w fun e w' => e = .returned (.agg #[.string r1, .string r2, .string r3, .bool r4, .string r5, .string r6, .string r7, .string r8, .bool r9]) ∧ Below w.heap.size w w' := by
 have hu120 := Try.underlying120; have hu123 := Try.underlying123; have HB := Qa.mk (Below.refl w.heap.size w); have H : (some (a0, a1, a2, a3, a4, a5, a6, a7, a8)) = some (r1, r2, r3, r4, r5, r6, r7, r8, r9) := h; clear h
 simp only [Option.some.injEq, Prod.mk.injEq] at H
 obtain ⟨rfl, rfl, rfl, rfl, rfl, rfl, rfl, rfl, rfl⟩ := H
 go_enter Try.func107, Try.ntmps107
 go_wp2_with (first | ((with_reducible refine Zd (N := 1) rfl ?_); refine Zc ?hg (N := 1) ?hd (cs := #[.string a0, .string a1, .string a2, .bool a3, .string a4, .string a5, .string a6, .string a7, .bool a8]) (t := 120) ?hr ?_; (case hd => rfl); (case hg => rfl); (case hr => first | (go_simp; done) | (go_simp; rfl)); intro a9 hg w2 hbox hb; have n0_ := Qa.mk (Qj bw_ hb); have n1_ := Qa.mk (hbox); have n2_ := Qa.mk ((gw_ hg : w.heap.size ≤ a9)); have n3_ := Qa.mk ((gw_ hg : w.heap.size ≤ a9)); clear HB; have HB := n0_; have b0 := n1_; have g3 := n2_; have GE101 := n3_; clear n0_ n1_ n2_ n3_; clear hb hbox hg) | ((with_reducible refine Zd (N := 2) rfl ?_); refine Zc ?hg (N := 2) ?hd (cs := #[.string (⟨#[]⟩ : ByteArray), .string (⟨#[]⟩ : ByteArray), .string (⟨#[]⟩ : ByteArray), .bool false, .string (⟨#[]⟩ : ByteArray), .string (⟨#[]⟩ : ByteArray), .string (⟨#[]⟩ : ByteArray), .string (⟨#[]⟩ : ByteArray), .bool false]) (t := 123) ?hr ?_; (case hd => rfl); (case hg => rfl); (case hr => first | (go_simp; done) | (go_simp; rfl)); intro b1 hg w3 hbox hb; have n0_ := Qa.mk (Qq (g := a9) (o := .cells #[.string a0, .string a1, .string a2, .bool a3, .string a4, .string a5, .string a6, .string a7, .bool a8] 120 (0, 0)) (bk_ b0.out) hb); have n1_ := Qa.mk (Qj bw_ hb); have n2_ := Qa.mk (hbox); have n3_ := Qa.mk ((gw_ hg : w.heap.size ≤ b1)); have n4_ := Qa.mk ((gw_ hg : w.heap.size ≤ b1)); have n5_ := Qa.mk ((by rw [hg]; exact Nat.ne_of_lt (Zu (g := a9) (o := .cells #[.string a0, .string a1, .string a2, .bool a3, .string a4, .string a5, .string a6, .string a7, .bool a8] 120 (0, 0)) (bk_ b0.out)) : a9 ≠ b1)); have n6_ := Qa.mk ((by rw [hg]; exact Nat.ne_of_gt (Zu (g := a9) (o := .cells #[.string a0, .string a1, .string a2, .bool a3, .string a4, .string a5, .string a6, .string a7, .bool a8] 120 (0, 0)) (bk_ b0.out)) : b1 ≠ a9)); clear b0; clear HB; have b0 := n0_; have HB := n1_; have b2 := n2_; have g4 := n3_; have GE102 := n4_; have b3 := n5_; have b4 := n6_; clear n0_ n1_ n2_ n3_ n4_ n5_ n6_; clear hb hbox hg; have g5 := b3.out; have g6 := b4.out; obtain ⟨b5, b6, b7, b8, b9, d0, d3, d4, d5⟩ := Ju b0.out; obtain ⟨d6, d7, d8, d9, e0, e1, e2, e3, e4⟩ := Jv b0.out; obtain ⟨e5, e6, e7, e8, e9, f0, f1, f2, f3⟩ := Ju b2.out; obtain ⟨f4, f5, f6, f7, f8, f9, g0, g1, g2⟩ := Jv b2.out)); refine bodyPost_ret (results_cell_row rfl _ _ b1 123 #[.string a0, .string a1, .string a2, .bool a3, .string a4, .string a5, .string a6, .string a7, .bool a8] (0, 0) _ rfl (by (with_reducible repeat (first | refine Qn ?_ _ | refine Qp ?_ | refine Ql ?_ _)); refine Za (cs := #[.string a0, .string a1, .string a2, .bool a3, .string a4, .string a5, .string a6, .string a7, .bool false]) ?_ 8 _ rfl; (with_reducible repeat (first | refine Qn ?_ _ | refine Qp ?_ | refine Ql ?_ _)); refine Za (cs := #[.string a0, .string a1, .string a2, .bool a3, .string a4, .string a5, .string a6, .string (⟨#[]⟩ : ByteArray), .bool false]) ?_ 7 _ rfl; (with_reducible repeat (first | refine Qn ?_ _ | refine Qp ?_ | refine Ql ?_ _)); refine Za (cs := #[.string a0, .string a1, .string a2, .bool a3, .string a4, .string a5, .string (⟨#[]⟩ : ByteArray), .string (⟨#[]⟩ : ByteArray), .bool false]) ?_ 6 _ rfl; (with_reducible repeat (first | refine Qn ?_ _ | refine Qp ?_ | refine Ql ?_ _)); refine Za (cs := #[.string a0, .string a1, .string a2, .bool a3, .string a4, .string (⟨#[]⟩ : ByteArray), .string (⟨#[]⟩ : ByteArray), .string (⟨#[]⟩ : ByteArray), .bool false]) ?_ 5 _ rfl; (with_reducible repeat (first | refine Qn ?_ _ | refine Qp ?_ | refine Ql ?_ _)); refine Za (cs := #[.string a0, .string a1, .string a2, .bool a3, .string (⟨#[]⟩ : ByteArray), .string (⟨#[]⟩ : ByteArray), .string (⟨#[]⟩ : ByteArray), .string (⟨#[]⟩ : ByteArray), .bool false]) ?_ 4 _ rfl; (with_reducible repeat (first | refine Qn ?_ _ | refine Qp ?_ | refine Ql ?_ _)); refine Za (cs := #[.string a0, .string a1, .string a2, .bool false, .string (⟨#[]⟩ : ByteArray), .string (⟨#[]⟩ : ByteArray), .string (⟨#[]⟩ : ByteArray), .string (⟨#[]⟩ : ByteArray), .bool false]) ?_ 3 _ rfl; (with_reducible repeat (first | refine Qn ?_ _ | refine Qp ?_ | refine Ql ?_ _)); refine Za (cs := #[.string a0, .string a1, .string (⟨#[]⟩ : ByteArray), .bool false, .string (⟨#[]⟩ : ByteArray), .string (⟨#[]⟩ : ByteArray), .string (⟨#[]⟩ : ByteArray), .string (⟨#[]⟩ : ByteArray), .bool false]) ?_ 2 _ rfl; (with_reducible repeat (first | refine Qn ?_ _ | refine Qp ?_ | refine Ql ?_ _)); refine Za (cs := #[.string a0, .string (⟨#[]⟩ : ByteArray), .string (⟨#[]⟩ : ByteArray), .bool false, .string (⟨#[]⟩ : ByteArray), .string (⟨#[]⟩ : ByteArray), .string (⟨#[]⟩ : ByteArray), .string (⟨#[]⟩ : ByteArray), .bool false]) ?_ 1 _ rfl; (with_reducible repeat (first | refine Qn ?_ _ | refine Qp ?_ | refine Ql ?_ _)); refine Za (cs := #[.string (⟨#[]⟩ : ByteArray), .string (⟨#[]⟩ : ByteArray), .string (⟨#[]⟩ : ByteArray), .bool false, .string (⟨#[]⟩ : ByteArray), .string (⟨#[]⟩ : ByteArray), .string (⟨#[]⟩ : ByteArray), .string (⟨#[]⟩ : ByteArray), .bool false]) ?_ 0 _ rfl; (with_reducible repeat (first | refine Qn ?_ _ | refine Qp ?_ | refine Ql ?_ _)); exact b2.out) Try.underlying123 rfl (by kernel_rfl)) rfl ?_; exact ⟨by first | rfl | (simp [Qt, Qu] <;> rfl) | (simp [*, Qt, Qu] <;> rfl), bw_⟩
def Zz.l0 : Nat → List (Yv) → List (Xi) → Int → Option ((List (Xi)))
 | 0, _, _, _ => none
 | k + 1, x0, x3, x4 => if x4 < (x0.length : Int) then (if 0 ≤ x4 then ((Uf.f ((Qb x0 x4).f0.f0) ((Qb x0 x4).f0.f1) ((Qb x0 x4).f0.f2) ((Qb x0 x4).f1) ((Qb x0 x4).f2) ((Qb x0 x4).f3) ((Qb x0 x4).f4) ((Qb x0 x4).f5) ((Qb x0 x4).f6)).bind fun a1 => (if x3.length < 1099511627776 then (Zz.l0 k x0 (x3 ++ [(⟨a1.1, a1.2.1, a1.2.2.1, a1.2.2.2.1, a1.2.2.2.2.1, a1.2.2.2.2.2.1, a1.2.2.2.2.2.2.1, a1.2.2.2.2.2.2.2.1, a1.2.2.2.2.2.2.2.2⟩ : Xi)]) (wrap64 (x4 + 1))) else (none))) else (none)) else (some x3)
def Zz.f (k : Nat) (l0 : List (Yv)) : Option ((List (Xi))) := Zz.l0 k l0 ([] : List (Xi)) 0
set_option maxHeartbeats 8000000 in
set_option maxRecDepth 100000 in
theorem Zz.calls (k : Nat) (A0 : Option Addr) (c0 : Nat) (l0 : List (Yv)) (r : List (Xi)) (w : World) (hr0 : Kd.C Je w A0 l0.length l0) (hc0 : l0.length ≤ c0) (h : Zz.f k l0 = some r) :
  Calls Try.prog 67 #[.slice A0 l0.length c0] w fun e w' => ∃ v0_ : Value, e = .returned (v0_) ∧ Kd.R Kf 123 w' w.heap.size (fun _ => True) v0_ r ∧ Below w.heap.size w w' := by
 have hu120 := Try.underlying120; have HR0 := Qa.mk hr0; have HC0 := Qa.mk hc0; clear hr0 hc0; have HB := Qa.mk (Below.refl w.heap.size w); have H : (Zz.l0 k l0 ([] : List (Xi)) 0) = some r := h; clear h; have H' := Qa.mk H; clear H
 go_enter Try.func67, Try.ntmps67
 go_wp2
 go_loopg [3, 4] k (fun kq v3 v4 w' => ∃ (a2 : List (Xi)) (a0 : Int), v4 = .int .i64 a0 ∧ Qa (Zz.l0 kq l0 a2 a0 = some r) ∧ Qa (kq ≤ k) ∧ Qa (Kd.R Kf 123 w' w.heap.size (fun _ => True) v3 a2) ∧ Qa (Below w.heap.size w w'))
 case atStart => exact ⟨(([] : List (Xi))), (0), sm_, H', ⟨Nat.le_refl _⟩, ⟨by first | exact Kd.R_nil _ _ _ _ _ | exact Kd.N_nil _ _ _ _ _ | exact Kd.V_nil _ _ _ _ _ | exact Kd.Q_nil _ _ _ _ _ | exact Kd.S_nil _ _ _ _ _⟩, ⟨bw_⟩⟩
 case round =>
  clear H'; obtain ⟨a2, a0, rfl, HA, HK1, a4, HB⟩ := hrel
  cases gk with
  | zero => exact absurd HA.out (by simp [Zz.l0])
  | succ k1 =>
   have H := HA.out; clear HA
   simp only [Zz.l0] at H
   by_cases c2 : a0 < (l0.length : Int)
   ·rw [if_pos c2] at H
    have e0 : decide (a0 < (l0.length : Int)) = true := decide_eq_true c2; clear c2
    by_cases c3 : 0 ≤ a0
    ·rw [if_pos c3] at H
     have e4 : decide (0 ≤ a0) = true := decide_eq_true c3; clear c3; replace H := Option.bind_eq_some_iff.mp H; obtain ⟨⟨a5, a6, a7, a8, a9, b0, b1, b2, b3⟩, A40, H⟩ := H; replace H : (if a2.length < 1099511627776 then (Zz.l0 k1 l0 (a2 ++ [(⟨a5, a6, a7, a8, a9, b0, b1, b2, b3⟩ : Xi)]) (wrap64 (a0 + 1))) else (none)) = some r := H; have A4 := Qa.mk A40; clear A40
     by_cases c5 : a2.length < 1099511627776
     ·rw [if_pos c5] at H
      have e1 := Qa.mk c5; clear c5; obtain ⟨d7, a3⟩ : ∃ y_ : List (Xi), y_ = (a2 ++ [(⟨a5, a6, a7, a8, a9, b0, b1, b2, b3⟩ : Xi)]) := ⟨_, rfl⟩
      replace H : (Zz.l0 k1 l0 d7 (wrap64 (a0 + 1))) = some r := by first | (rw [a3]; with_reducible exact H) | (have H2_ := (Option.bind_some _ _).symm.trans H; rw [a3]; with_reducible exact H2_) | (have H2_ := (Option.bind_some _ _).symm.trans H; with_reducible exact H2_) | with_reducible exact H | (rw [a3]; exact H) | exact H
      have d8 := Qa.mk a3; clear a3; have H' := Qa.mk H; clear H; have d5 : 0 ≤ (a0 : Int) := of_decide_eq_true Zx; have d6 : a0 < (l0.length : Int) := of_decide_eq_true Zx; obtain ⟨e3, e2, b4, b5, b6, b7, b8, b9, d0, d3, d4⟩ := Ky HR0.out a0 d5 d6
      cases e2; replace b4 := Qg HB.out b4; replace b5 := Qg HB.out b5; replace b6 := Qg HB.out b6; replace b7 := Qg HB.out b7; replace b8 := Qg HB.out b8; replace b9 := Qg HB.out b9; replace d0 := Qg HB.out d0; replace d3 := Qg HB.out d3; replace d4 := Qg HB.out d4; replace d5 := eq_true d5; replace d6 := eq_true d6; go_wp2_with (first | ((with_reducible refine Xo (f := 107) rfl ?_); refine Vb (some 16) rfl rfl Try.func107 (by kernel_rfl) rfl #[.agg #[.string ((Qb l0 a0).f0.f0), .string ((Qb l0 a0).f0.f1), .string ((Qb l0 a0).f0.f2), .bool ((Qb l0 a0).f1), .string ((Qb l0 a0).f2), .string ((Qb l0 a0).f3), .string ((Qb l0 a0).f4), .string ((Qb l0 a0).f5), .bool ((Qb l0 a0).f6)]] rfl (by (try simp only [List.map_toArray, List.map_cons, List.map_nil]); first | done | rfl | (simp only [List.length_drop, List.length_take]; rfl)) ?_; (with_reducible refine (Uf.calls ((Qb l0 a0).f0.f0) ((Qb l0 a0).f0.f1) ((Qb l0 a0).f0.f2) ((Qb l0 a0).f1) ((Qb l0 a0).f2) ((Qb l0 a0).f3) ((Qb l0 a0).f4) ((Qb l0 a0).f5) ((Qb l0 a0).f6) a5 a6 a7 a8 a9 b0 b1 b2 b3 _ A4.out).mono ?_); rintro e w6 ⟨rfl, hb⟩; refine ⟨_, rfl, ?_⟩; have n0_ := Qa.mk (Kd.R_below (ro_ a4.out) hb); have n1_ := Qa.mk (Qj bw_ hb); clear a4; clear HB; have a4 := n0_; have HB := n1_; clear n0_ n1_; (try clear hb); (try clear hb2); (try clear hk); (try clear hi)) | ((with_reducible refine Xl (b := .append) (xs := #[.tmp 11, .tmp 17]) rfl ?_); at_builtin; refine Kd.R_append Kf (w0 := w) w.heap.size rfl (.tmp 11) (.tmp 17) 86 123 (.agg #[(.string ⟨#[]⟩), (.string ⟨#[]⟩), (.string ⟨#[]⟩), (.bool false), (.string ⟨#[]⟩), (.string ⟨#[]⟩), (.string ⟨#[]⟩), (.string ⟨#[]⟩), (.bool false)]) 128 rfl Try.underlying86 Jp rfl (by decide) (by omega) u3 a2 (⟨a5, a6, a7, a8, a9, b0, b1, b2, b3⟩ : Xi) [.string a5, .string a6, .string a7, .bool a8, .string a9, .string b0, .string b1, .string b2, .bool b3] (fun _ => True) (fun _ => False) rfl rfl ?aP (fun _ hk => hk.elim) ?aF ?aO ?aB ?aS ?aL ?_; (case aP => exact Ul _ _ _ (⟨a5, a6, a7, a8, a9, b0, b1, b2, b3⟩ : Xi)); (case aB => exact bw_); (case aF => exact (fun _ _ => trivial)); (case aO => exact (ro_ a4.out)); (case aS => exact (Qo bw_)); (case aL => have := e1.out; omega); intro e5 w7 ho hb hg hat; rw [← d8.out] at ho; have n0_ := Qa.mk (hb); have n1_ := Qa.mk (ho); clear HB; clear a4; have HB := n0_; have d9 := n1_; clear n0_ n1_; clear ho hb hg hat))
      go_roundg k1
      case measure => have := HK1.out; omega
      case rel => exact ⟨(d7), (wrap64 (a0 + 1)), sm_, H', ⟨by have := HK1.out; omega⟩, ⟨ro_ d9.out⟩, ⟨bw_⟩⟩
     ·rw [if_neg c5] at H
      exact absurd H (by simp)
    ·rw [if_neg c3] at H
     exact absurd H (by simp)
   ·rw [if_neg c2] at H
    have e0 : decide (a0 < (l0.length : Int)) = false := decide_eq_false c2; clear c2; obtain rfl := Option.some.inj H
    go_wp2
    go_ret; exact ⟨_, by first | rfl | (simp [Qt, Qu] <;> rfl) | (simp [*, Qt, Qu] <;> rfl), ro_ a4.out, bw_⟩
mutual
def Qw.j1 : Nat → List ByteArray → List ByteArray → Int → Int → Option (Int × Int)
 | 0, _, _, _, _ => none
 | k + 1, x0, x1, x6, x7 => Qw.l1 k x0 x1 x6 x7
def Qw.l1 : Nat → List ByteArray → List ByteArray → Int → Int → Option (Int × Int)
 | 0, _, _, _, _ => none
 | k + 1, x0, x1, x6, x7 => if (wrap64 (x6 + x7)) < (x0.length : Int) then (if (wrap64 (x6 + x7)) < (x1.length : Int) then (if 0 ≤ (wrap64 ((wrap64 ((x0.length : Int) - 1)) - x7)) then (if (wrap64 ((wrap64 ((x0.length : Int) - 1)) - x7)) < (x0.length : Int) then (if 0 ≤ (wrap64 ((wrap64 ((x1.length : Int) - 1)) - x7)) then (if (wrap64 ((wrap64 ((x1.length : Int) - 1)) - x7)) < (x1.length : Int) then (if (Ye ByteArray.empty x0 (wrap64 ((wrap64 ((x0.length : Int) - 1)) - x7))).toList = (Ye ByteArray.empty x1 (wrap64 ((wrap64 ((x1.length : Int) - 1)) - x7))).toList then (Qw.l1 k x0 x1 x6 (wrap64 (x7 + 1))) else (some (x6, x7))) else (none)) else (none)) else (none)) else (none)) else (some (x6, x7))) else (some (x6, x7))
def Qw.l0 : Nat → List ByteArray → List ByteArray → Int → Int → Option (Int × Int)
 | 0, _, _, _, _ => none
 | k + 1, x0, x1, x6, x7 => if x6 < (x0.length : Int) then (if x6 < (x1.length : Int) then (if 0 ≤ x6 then (if (Ye ByteArray.empty x0 x6).toList = (Ye ByteArray.empty x1 x6).toList then (Qw.l0 k x0 x1 (wrap64 (x6 + 1)) x7) else (Qw.j1 k x0 x1 x6 x7)) else (none)) else (Qw.j1 k x0 x1 x6 x7)) else (Qw.j1 k x0 x1 x6 x7)
end
def Qw.f (k : Nat) (l0 : List ByteArray) (l1 : List ByteArray) : Option (Int × Int) := Qw.l0 k l0 l1 0 0
set_option maxHeartbeats 8000000 in
set_option maxRecDepth 100000 in
theorem Qw.calls (k : Nat) (A0 : Option Addr) (c0 : Nat) (l0 : List ByteArray) (A1 : Option Addr) (c1 : Nat) (l1 : List ByteArray) (r1 : Int) (r2 : Int) (w : World) (hr0 : Kd.C Kd.string w A0 l0.length l0) (hc0 : l0.length ≤ c0) (hr1 : Kd.C Kd.string w A1 l1.length l1) (hc1 : l1.length ≤ c1) (h : Qw.f k l0 l1 = some (r1, r2)) :
  Calls Try.prog 23 #[.slice A0 l0.length c0, .slice A1 l1.length c1] w fun e w' => e = .returned (.tuple #[.int .i64 r1, .int .i64 r2]) ∧ Zl w w' := by
 have HR0 := Qa.mk hr0; have HC0 := Qa.mk hc0; clear hr0 hc0; have HR1 := Qa.mk hr1; have HC1 := Qa.mk hc1; clear hr1 hc1; have H : (Qw.l0 k l0 l1 0 0) = some (r1, r2) := h; clear h; have HC3 := Qa.mk H; clear H
 go_enter Try.func23, Try.ntmps23
 go_upto_block 0 with (fail)
 repeat (go_quiet (fail); go_upto_block 0 with (fail))
 go_cut [6] (fun v6 wc => ∃ (kq : Nat) (a4 : Int), v6 = .int .i64 a4 ∧ Qa (Qw.j1 kq l0 l1 a4 0 = some (r1, r2)) ∧ Qa (kq ≤ k) ∧ Zl w wc)
 case first =>
  have H := HC3.out; clear HC3; have H' := Qa.mk H; clear H
  go_wp2
  repeat (go_quiet (fail); try go_wp2)
  go_loopg [6] k (fun kq v6 w' => ∃ (a0 : Int), v6 = .int .i64 a0 ∧ Qa (Qw.l0 kq l0 l1 a0 0 = some (r1, r2)) ∧ Qa (kq ≤ k) ∧ Zl w w')
  case atStart => exact ⟨(0), sm_, H', ⟨Nat.le_refl _⟩, by repeat (first | exact Zl.refl _ | apply Zl.step)⟩
  case round =>
   clear H'
   try clear c1
   try clear c2
   try clear p2
   obtain ⟨a0, rfl, HA, HK1, ⟨m1, rfl⟩⟩ := hrel
   cases gk with
   | zero => exact absurd HA.out (by simp [Qw.l0])
   | succ k1 =>
    have H := HA.out; clear HA
    simp only [Qw.l0] at H
    by_cases c4 : a0 < (l0.length : Int)
    ·rw [if_pos c4] at H
     have a9 : decide (a0 < (l0.length : Int)) = true := decide_eq_true c4; clear c4
     (first | rw [a9] | (simp only [Yx, Vi]; rw [a9]) | skip)
     by_cases c5 : a0 < (l1.length : Int)
     ·rw [if_pos c5] at H
      have b8 : decide (a0 < (l1.length : Int)) = true := decide_eq_true c5; clear c5
      by_cases c6 : 0 ≤ a0
      ·rw [if_pos c6] at H
       have d9 : decide (0 ≤ a0) = true := decide_eq_true c6; clear c6
       by_cases c7 : (Ye ByteArray.empty l0 a0).toList = (Ye ByteArray.empty l1 a0).toList
       ·rw [if_pos c7] at H
        have b9 : ((Ye ByteArray.empty l0 a0).toList == (Ye ByteArray.empty l1 a0).toList) = true := beq_iff_eq.mpr c7; have d0 : ((Ye ByteArray.empty l0 a0).toList != (Ye ByteArray.empty l1 a0).toList) = false := bne_eq_false_iff_eq.mpr c7; clear c7; have H' := Qa.mk H; clear H; have a5 : 0 ≤ (a0 : Int) := of_decide_eq_true Zx; have a6 : a0 < (l0.length : Int) := of_decide_eq_true Zx; obtain ⟨e0, d3, b4⟩ := Kd.at_string HR0.out a0 a5 a6
        cases d3; replace a5 := eq_true a5; replace a6 := eq_true a6; have a7 : 0 ≤ (a0 : Int) := of_decide_eq_true Zx; have a8 : a0 < (l1.length : Int) := of_decide_eq_true Zx; obtain ⟨e1, d4, b5⟩ := Kd.at_string HR1.out a0 a7 a8
        cases d4; replace a7 := eq_true a7; replace a8 := eq_true a8
        go_wp2
        repeat (go_quiet (fail); try go_wp2)
        go_roundg k1
        case measure => have := HK1.out; omega
        case rel => exact ⟨(wrap64 (a0 + 1)), sm_, H', ⟨by have := HK1.out; omega⟩, by repeat (first | exact Zl.refl _ | apply Zl.step)⟩
       ·rw [if_neg c7] at H
        have b9 : ((Ye ByteArray.empty l0 a0).toList == (Ye ByteArray.empty l1 a0).toList) = false := beq_eq_false_iff_ne.mpr c7; have d0 : ((Ye ByteArray.empty l0 a0).toList != (Ye ByteArray.empty l1 a0).toList) = true := bne_iff_ne.mpr c7; have H' := Qa.mk H; clear H; have a5 : 0 ≤ (a0 : Int) := of_decide_eq_true Zx; have a6 : a0 < (l0.length : Int) := of_decide_eq_true Zx; obtain ⟨e0, d3, b4⟩ := Kd.at_string HR0.out a0 a5 a6
        cases d3; replace a5 := eq_true a5; replace a6 := eq_true a6; have a7 : 0 ≤ (a0 : Int) := of_decide_eq_true Zx; have a8 : a0 < (l1.length : Int) := of_decide_eq_true Zx; obtain ⟨e1, d4, b5⟩ := Kd.at_string HR1.out a0 a7 a8
        cases d4; replace a7 := eq_true a7; replace a8 := eq_true a8
        go_wp2
        repeat (go_quiet (fail); try go_wp2)
        go_meet
        case rel => exact ⟨_, (a0), sm_, H', ⟨by have := HK1.out; first | omega | exact Nat.le_refl _⟩, by repeat (first | exact Zl.refl _ | apply Zl.step)⟩
      ·rw [if_neg c6] at H
       exact absurd H (by simp)
     ·rw [if_neg c5] at H
      have b8 : decide (a0 < (l1.length : Int)) = false := decide_eq_false c5; clear c5; have H' := Qa.mk H; clear H
      go_wp2
      repeat (go_quiet (fail); try go_wp2)
      go_meet
      case rel => exact ⟨_, (a0), sm_, H', ⟨by have := HK1.out; first | omega | exact Nat.le_refl _⟩, by repeat (first | exact Zl.refl _ | apply Zl.step)⟩
    ·rw [if_neg c4] at H
     have a9 : decide (a0 < (l0.length : Int)) = false := decide_eq_false c4; clear c4
     (first | rw [a9] | (simp only [Yx, Vi]; rw [a9]) | skip)
     have H' := Qa.mk H; clear H
     go_wp2
     repeat (go_quiet (fail); try go_wp2)
     go_meet
     case rel => exact ⟨_, (a0), sm_, H', ⟨by have := HK1.out; first | omega | exact Nat.le_refl _⟩, by repeat (first | exact Zl.refl _ | apply Zl.step)⟩
 case rest =>
  clear HC3
  try clear c1
  try clear p1
  try clear q1
  try clear hx1
  try clear c2
  try clear p2
  try clear c4
  try clear a9
  try clear c5
  try clear b8
  try clear c6
  try clear d9
  try clear p6
  try clear c7
  try clear b9
  try clear d0
  try clear b4
  try clear b5
  try clear a5
  try clear a7
  try clear p2
  try clear a6
  try clear a8
  obtain ⟨kq, a4, rfl, HA, HJ2, ⟨mc2, rfl⟩⟩ := hcut
  cases kq with
  | zero => exact absurd HA.out (by simp [Qw.j1])
  | succ kj2 =>
   have H := HA.out; clear HA
   simp only [Qw.j1] at H
   have H' := Qa.mk H; clear H
   go_wp2
   repeat (go_quiet (fail); try go_wp2)
   go_loopg [7] kj2 (fun kq v7 w' => ∃ (a1 : Int), v7 = .int .i64 a1 ∧ Qa (Qw.l1 kq l0 l1 a4 a1 = some (r1, r2)) ∧ Qa (kq ≤ kj2) ∧ Zl w w')
   case atStart => exact ⟨(0), sm_, H', ⟨Nat.le_refl _⟩, by repeat (first | exact Zl.refl _ | apply Zl.step)⟩
   case round =>
    clear H'
    try clear c1
    try clear p1
    try clear q1
    try clear hx1
    try clear c2
    try clear p2
    try clear c4
    try clear a9
    try clear c5
    try clear b8
    try clear c6
    try clear d9
    try clear p6
    try clear c7
    try clear b9
    try clear d0
    try clear b4
    try clear b5
    try clear p1
    try clear a5
    try clear a7
    try clear p2
    try clear p6
    try clear q1
    try clear a6
    try clear a8
    obtain ⟨a1, rfl, HA, HK2, ⟨m2, rfl⟩⟩ := hrel
    cases gk with
    | zero => exact absurd HA.out (by simp [Qw.l1])
    | succ k2 =>
     have H := HA.out; clear HA
     simp only [Qw.l1] at H
     by_cases c8 : (wrap64 (a4 + a1)) < (l0.length : Int)
     ·rw [if_pos c8] at H
      have e6 : decide ((wrap64 (a4 + a1)) < (l0.length : Int)) = true := decide_eq_true c8; clear c8
      by_cases c9 : (wrap64 (a4 + a1)) < (l1.length : Int)
      ·rw [if_pos c9] at H
       have e7 : decide ((wrap64 (a4 + a1)) < (l1.length : Int)) = true := decide_eq_true c9; clear c9; obtain ⟨a2, b6⟩ : ∃ j_ : Int, (wrap64 ((wrap64 ((l0.length : Int) - 1)) - a1)) = j_ := ⟨_, rfl⟩
       replace H : (if 0 ≤ (a2) then (if (a2) < (l0.length : Int) then (if 0 ≤ (wrap64 ((wrap64 ((l1.length : Int) - 1)) - a1)) then (if (wrap64 ((wrap64 ((l1.length : Int) - 1)) - a1)) < (l1.length : Int) then (if (Ye ByteArray.empty l0 (a2)).toList = (Ye ByteArray.empty l1 (wrap64 ((wrap64 ((l1.length : Int) - 1)) - a1))).toList then (Qw.l1 k2 l0 l1 a4 (wrap64 (a1 + 1))) else (some (a4, a1))) else (none)) else (none)) else (none)) else (none)) = some (r1, r2) := by first | (rw [b6] at H; exact H) | (simp only [b6] at H ⊢; exact H)
       have e8 : (IntKind.i64.wrap ((wrap64 ((l0.length : Int) - 1)) - a1)) = a2 := (Yx _).trans b6
       by_cases c11 : 0 ≤ (a2)
       ·rw [if_pos c11] at H
        have f0 : decide (0 ≤ (a2)) = true := decide_eq_true c11; clear c11
        by_cases c12 : (a2) < (l0.length : Int)
        ·rw [if_pos c12] at H
         have f1 : decide ((a2) < (l0.length : Int)) = true := decide_eq_true c12; clear c12; obtain ⟨a3, b7⟩ : ∃ j_ : Int, (wrap64 ((wrap64 ((l1.length : Int) - 1)) - a1)) = j_ := ⟨_, rfl⟩
         replace H : (if 0 ≤ (a3) then (if (a3) < (l1.length : Int) then (if (Ye ByteArray.empty l0 (a2)).toList = (Ye ByteArray.empty l1 (a3)).toList then (Qw.l1 k2 l0 l1 a4 (wrap64 (a1 + 1))) else (some (a4, a1))) else (none)) else (none)) = some (r1, r2) := by first | (rw [b7] at H; exact H) | (simp only [b7] at H ⊢; exact H)
         have e9 : (IntKind.i64.wrap ((wrap64 ((l1.length : Int) - 1)) - a1)) = a3 := (Yx _).trans b7
         by_cases c14 : 0 ≤ (a3)
         ·rw [if_pos c14] at H
          have f2 : decide (0 ≤ (a3)) = true := decide_eq_true c14; clear c14
          by_cases c15 : (a3) < (l1.length : Int)
          ·rw [if_pos c15] at H
           have f3 : decide ((a3) < (l1.length : Int)) = true := decide_eq_true c15; clear c15
           by_cases c16 : (Ye ByteArray.empty l0 (a2)).toList = (Ye ByteArray.empty l1 (a3)).toList
           ·rw [if_pos c16] at H
            have e2 : ((Ye ByteArray.empty l0 (a2)).toList == (Ye ByteArray.empty l1 (a3)).toList) = true := beq_iff_eq.mpr c16; have e3 : ((Ye ByteArray.empty l0 (a2)).toList != (Ye ByteArray.empty l1 (a3)).toList) = false := bne_eq_false_iff_eq.mpr c16; clear c16; have H' := Qa.mk H; clear H; have b0 : 0 ≤ ((a2) : Int) := of_decide_eq_true Zx; have b1 : (a2) < (l0.length : Int) := of_decide_eq_true Zx; obtain ⟨e4, d5, d7⟩ := Kd.at_string HR0.out (a2) b0 b1
            cases d5; replace b0 := eq_true b0; replace b1 := eq_true b1; have b2 : 0 ≤ ((a3) : Int) := of_decide_eq_true Zx; have b3 : (a3) < (l1.length : Int) := of_decide_eq_true Zx; obtain ⟨e5, d6, d8⟩ := Kd.at_string HR1.out (a3) b2 b3
            cases d6; replace b2 := eq_true b2; replace b3 := eq_true b3
            go_wp2
            repeat (go_quiet (fail); try go_wp2)
            go_roundg k2
            case measure => have := HJ2.out; have := HK2.out; omega
            case rel => exact ⟨(wrap64 (a1 + 1)), sm_, H', ⟨by have := HJ2.out; have := HK2.out; omega⟩, by repeat (first | exact Zl.refl _ | apply Zl.step)⟩
           ·rw [if_neg c16] at H
            have e2 : ((Ye ByteArray.empty l0 (a2)).toList == (Ye ByteArray.empty l1 (a3)).toList) = false := beq_eq_false_iff_ne.mpr c16; have e3 : ((Ye ByteArray.empty l0 (a2)).toList != (Ye ByteArray.empty l1 (a3)).toList) = true := bne_iff_ne.mpr c16
            simp only [Option.some.injEq, Prod.mk.injEq] at H
            obtain ⟨rfl, rfl⟩ := H; have b0 : 0 ≤ ((a2) : Int) := of_decide_eq_true Zx; have b1 : (a2) < (l0.length : Int) := of_decide_eq_true Zx; obtain ⟨e4, d5, d7⟩ := Kd.at_string HR0.out (a2) b0 b1
            cases d5; replace b0 := eq_true b0; replace b1 := eq_true b1; have b2 : 0 ≤ ((a3) : Int) := of_decide_eq_true Zx; have b3 : (a3) < (l1.length : Int) := of_decide_eq_true Zx; obtain ⟨e5, d6, d8⟩ := Kd.at_string HR1.out (a3) b2 b3
            cases d6; replace b2 := eq_true b2; replace b3 := eq_true b3
            go_wp2
            repeat (go_quiet (fail); try go_wp2)
            go_ret2
            exact ⟨by first | rfl | (simp; done) | (simp only [← b6, ← b7] <;> (first | rfl | simp)) | (simp [*]; done), by repeat (first | exact Zl.refl _ | apply Zl.step)⟩
          ·rw [if_neg c15] at H
           exact absurd H (by simp)
         ·rw [if_neg c14] at H
          exact absurd H (by simp)
        ·rw [if_neg c12] at H
         exact absurd H (by simp)
       ·rw [if_neg c11] at H
        exact absurd H (by simp)
      ·rw [if_neg c9] at H
       have e7 : decide ((wrap64 (a4 + a1)) < (l1.length : Int)) = false := decide_eq_false c9; clear c9
       simp only [Option.some.injEq, Prod.mk.injEq] at H
       obtain ⟨rfl, rfl⟩ := H
       go_wp2
       repeat (go_quiet (fail); try go_wp2)
       go_ret2
       exact ⟨sm_, by repeat (first | exact Zl.refl _ | apply Zl.step)⟩
     ·rw [if_neg c8] at H
      have e6 : decide ((wrap64 (a4 + a1)) < (l0.length : Int)) = false := decide_eq_false c8; clear c8
      simp only [Option.some.injEq, Prod.mk.injEq] at H
      obtain ⟨rfl, rfl⟩ := H
      go_wp2
      repeat (go_quiet (fail); try go_wp2)
      go_ret2
      exact ⟨sm_, by repeat (first | exact Zl.refl _ | apply Zl.step)⟩
end Go.Proofs.Ytadafplbgophfaa.PA
end
section
namespace Go.Proofs.Ytadafplbgophfaa.Pure
namespace Txt
open Go.RowKit Go.Proofs.Ytadafplbgophfaa.PA Go.Proofs.YtadafplbgophfaaW.PrintWords Go.Proofs.YtadafplbgophfaaW.PrintLast Go.Proofs.YtadafplbgophfaaW.PrintMore
def Kz (p : Nat → Prop) (n : Nat) : Prop := (∀ i, i < n → p i) ∧ ¬ p n
theorem Kz.uniq {p : Nat → Prop} {n m : Nat} (h : Kz p n) (g : Kz p m) : n = m := by
 rcases Nat.lt_trichotomy n m with hl | he | hg
 ·exact absurd (g.1 n hl) h.2
 ·exact he
 ·exact absurd (h.1 m hg) g.2
def Qde (a b : List ByteArray) (i : Nat) : Prop := i < a.length ∧ i < b.length ∧ (a.getD i ByteArray.empty).toList = (b.getD i ByteArray.empty).toList
def Qdf (a b : List ByteArray) (n i : Nat) : Prop := n + i < a.length ∧ n + i < b.length ∧ (a.getD (a.length - 1 - i) ByteArray.empty).toList = (b.getD (b.length - 1 - i) ByteArray.empty).toList
theorem w64 {x : Int} (h0 : -9223372036854775808 ≤ x) (h1 : x ≤ 9223372036854775807) : wrap64 x = x := by unfold wrap64; omega
theorem Vn (xs : List ByteArray) (i : Nat) : Ye ByteArray.empty xs (i : Int) = xs.getD i ByteArray.empty := by simp [Ye]
theorem Kl (xs : List ByteArray) (n i : Nat) : (xs.drop n).getD i ByteArray.empty = xs.getD (n + i) ByteArray.empty := by simp [List.getD_eq_getElem?_getD, List.getElem?_drop]
theorem Qbw (a b : List ByteArray) (n : Nat) (ha : a.length ≤ 1000000000000) (hb : b.length ≤ 1000000000000) (hna : n ≤ a.length) (hnb : n ≤ b.length) :
  ∀ (d j : Nat), a.length - j ≤ d → n + j ≤ a.length → n + j ≤ b.length → (∀ i, i < j → Qdf a b n i) →
   ∃ m, Kz (Qdf a b n) m ∧ Ev (fun k => Zh.l1 k (a.drop n) (b.drop n) n j) (n, m) := by
 intro d
 induction d with
 | zero =>
  intro j h1 h2 h3 h4; refine ⟨j, ⟨h4, fun h => by have := h.1; omega⟩, Ev.step (f := fun _ => some ((n : Int), (j : Int))) (fun k => ?_) (Ev.now _)⟩; simp only [Zh.l1]; rw [if_neg (by simp only [List.length_drop]; unfold mn; split <;> omega)]
 | succ d ih =>
  intro j h1 h2 h3 h4
  by_cases hj : n + j < a.length ∧ n + j < b.length
  ·have e1 : wrap64 (wrap64 (((a.drop n).length : Int) - 1) - j) = ((a.length - n - 1 - j : Nat) : Int) := by
    rw [List.length_drop, w64 (x := ((a.length - n : Nat) : Int) - 1) (by omega) (by omega), w64 (by omega) (by omega)]; omega
   have e2 : wrap64 (wrap64 (((b.drop n).length : Int) - 1) - j) = ((b.length - n - 1 - j : Nat) : Int) := by
    rw [List.length_drop, w64 (x := ((b.length - n : Nat) : Int) - 1) (by omega) (by omega), w64 (by omega) (by omega)]; omega
   by_cases he : (a.getD (a.length - 1 - j) ByteArray.empty).toList = (b.getD (b.length - 1 - j) ByteArray.empty).toList
   ·obtain ⟨m, hm, hE⟩ := ih (j + 1) (by omega) (by omega) (by omega) (fun i hi => by
     rcases Nat.lt_succ_iff_lt_or_eq.1 hi with h | rfl
     ·exact h4 i h
     ·exact ⟨hj.1, hj.2, he⟩)
    refine ⟨m, hm, Ev.step (fun k => ?_) hE⟩; simp only [Zh.l1]
    rw [e1, e2, if_pos (by simp only [List.length_drop]; unfold mn; split <;> omega), if_pos (by omega), if_pos (by simp only [List.length_drop]; omega), if_pos (by omega), if_pos (by simp only [List.length_drop]; omega), Vn, Vn, Kl, Kl,
     show n + (a.length - n - 1 - j) = a.length - 1 - j from by omega, show n + (b.length - n - 1 - j) = b.length - 1 - j from by omega, if_pos he, w64 (by omega) (by omega)]
    rfl
   ·refine ⟨j, ⟨h4, fun h => he h.2.2⟩, Ev.step (f := fun _ => some ((n : Int), (j : Int))) (fun k => ?_) (Ev.now _)⟩
    simp only [Zh.l1]
    rw [e1, e2, if_pos (by simp only [List.length_drop]; unfold mn; split <;> omega), if_pos (by omega), if_pos (by simp only [List.length_drop]; omega), if_pos (by omega), if_pos (by simp only [List.length_drop]; omega), Vn, Vn, Kl, Kl,
     show n + (a.length - n - 1 - j) = a.length - 1 - j from by omega, show n + (b.length - n - 1 - j) = b.length - 1 - j from by omega, if_neg he]
  ·refine ⟨j, ⟨h4, fun h => hj ⟨h.1, h.2.1⟩⟩, Ev.step (f := fun _ => some ((n : Int), (j : Int))) (fun k => ?_) (Ev.now _)⟩
   simp only [Zh.l1]; rw [if_neg (by simp only [List.length_drop]; unfold mn; split <;> omega)]
theorem Qer (a b : List ByteArray) (ha : a.length ≤ 1000000000000) (hb : b.length ≤ 1000000000000) :
  ∀ (d i : Nat), a.length - i ≤ d → i ≤ a.length → i ≤ b.length → (∀ j, j < i → Qde a b j) →
   ∃ n m, Kz (Qde a b) n ∧ Kz (Qdf a b n) m ∧ Ev (fun k => Zh.l0 k a b i) (n, m) := by
 intro d
 induction d with
 | zero =>
  intro i h1 h2 h3 h4; obtain ⟨m, hm, hE⟩ := Qbw a b i ha hb h2 h3 a.length 0 (by omega) (by omega) (by omega) (fun j hj => by omega); refine ⟨i, m, ⟨h4, fun h => by have := h.1; omega⟩, hm, Ev.step (fun k => ?_) (Ev.step (g := fun k => Zh.j1 k a b i) (fun k => ?_) hE)⟩
  ·simp only [Zh.l0]
   rw [if_neg (by unfold mn; split <;> omega)]
  ·simp only [Zh.j1]
   rw [if_pos (by omega), if_pos (by omega), if_pos (by omega), Int.toNat_natCast]; rfl
 | succ d ih =>
  intro i h1 h2 h3 h4
  by_cases hf : Qde a b i
  ·obtain ⟨n, m, hn, hm, hE⟩ := ih (i + 1) (by have := hf.1; omega) hf.1 hf.2.1 (fun j hj => by
    rcases Nat.lt_succ_iff_lt_or_eq.1 hj with h | rfl
    ·exact h4 j h
    ·exact hf)
   obtain ⟨f1, f2, f3⟩ := hf; refine ⟨n, m, hn, hm, Ev.step (fun k => ?_) hE⟩; simp only [Zh.l0]; rw [if_pos (by unfold mn; split <;> omega), if_pos (by omega), if_pos (by omega), if_pos (by omega), Vn, Vn, if_pos f3, w64 (by omega) (by omega)]; rfl
  ·obtain ⟨m, hm, hE⟩ := Qbw a b i ha hb h2 h3 a.length 0 (by omega) (by omega) (by omega) (fun j hj => by omega)
   refine ⟨i, m, ⟨h4, hf⟩, hm, Ev.step (fun k => ?_) (Ev.step (g := fun k => Zh.j1 k a b i) (fun k => ?_) hE)⟩
   ·simp only [Zh.l0]
    by_cases hl : i < a.length ∧ i < b.length
    ·rw [if_pos (by unfold mn; split <;> omega), if_pos (by omega), if_pos (by omega), if_pos (by omega), Vn, Vn, if_neg (fun h => hf ⟨hl.1, hl.2, h⟩)]
    ·rw [if_neg (by unfold mn; split <;> omega)]
   ·simp only [Zh.j1]
    rw [if_pos (by omega), if_pos (by omega), if_pos (by omega), Int.toNat_natCast]; rfl
theorem ends_int (a b : List ByteArray) (ha : a.length ≤ 1000000000000) (hb : b.length ≤ 1000000000000) :
  ∃ n m, Kz (Qde a b) n ∧ Kz (Qdf a b n) m ∧ Ev (fun k => Zh.f k a b) (n, m) :=
 Qer a b ha hb a.length 0 (by omega) (by omega) (by omega) (fun j hj => by omega)
theorem Qjp (a b : List ByteArray) (n : Nat) (ha : a.length ≤ 1000000000000) (hb : b.length ≤ 1000000000000) :
  ∀ (d j : Nat), a.length - j ≤ d → n + j ≤ a.length → n + j ≤ b.length → (∀ i, i < j → Qdf a b n i) →
   ∃ m, Kz (Qdf a b n) m ∧ Ev (fun k => Qw.l1 k a b n j) (n, m) := by
 intro d
 induction d with
 | zero =>
  intro j h1 h2 h3 h4; refine ⟨j, ⟨h4, fun h => by have := h.1; omega⟩, Ev.step (f := fun _ => some ((n : Int), (j : Int))) (fun k => ?_) (Ev.now _)⟩; simp only [Qw.l1]; rw [w64 (by omega) (by omega), if_neg (by omega)]
 | succ d ih =>
  intro j h1 h2 h3 h4
  have e0 : wrap64 ((n : Int) + j) = ((n + j : Nat) : Int) := by rw [w64 (by omega) (by omega)]; omega
  by_cases hj : n + j < a.length ∧ n + j < b.length
  ·have e1 : wrap64 (wrap64 ((a.length : Int) - 1) - j) = ((a.length - 1 - j : Nat) : Int) := by
    rw [w64 (x := (a.length : Int) - 1) (by omega) (by omega), w64 (by omega) (by omega)]; omega
   have e2 : wrap64 (wrap64 ((b.length : Int) - 1) - j) = ((b.length - 1 - j : Nat) : Int) := by
    rw [w64 (x := (b.length : Int) - 1) (by omega) (by omega), w64 (by omega) (by omega)]; omega
   by_cases he : (a.getD (a.length - 1 - j) ByteArray.empty).toList = (b.getD (b.length - 1 - j) ByteArray.empty).toList
   ·obtain ⟨m, hm, hE⟩ := ih (j + 1) (by omega) (by omega) (by omega) (fun i hi => by
     rcases Nat.lt_succ_iff_lt_or_eq.1 hi with h | rfl
     ·exact h4 i h
     ·exact ⟨hj.1, hj.2, he⟩)
    refine ⟨m, hm, Ev.step (fun k => ?_) hE⟩; simp only [Qw.l1]; rw [e0, e1, e2, if_pos (by omega), if_pos (by omega), if_pos (by omega), if_pos (by omega), if_pos (by omega), if_pos (by omega), Vn, Vn, if_pos he, w64 (by omega) (by omega)]; rfl
   ·refine ⟨j, ⟨h4, fun h => he h.2.2⟩, Ev.step (f := fun _ => some ((n : Int), (j : Int))) (fun k => ?_) (Ev.now _)⟩
    simp only [Qw.l1]; rw [e0, e1, e2, if_pos (by omega), if_pos (by omega), if_pos (by omega), if_pos (by omega), if_pos (by omega), if_pos (by omega), Vn, Vn, if_neg he]
  ·refine ⟨j, ⟨h4, fun h => hj ⟨h.1, h.2.1⟩⟩, Ev.step (f := fun _ => some ((n : Int), (j : Int))) (fun k => ?_) (Ev.now _)⟩
   simp only [Qw.l1]; rw [e0]
   by_cases ha' : n + j < a.length
   ·rw [if_pos (by omega), if_neg (by omega)]
   ·rw [if_neg (by omega)]
theorem Qnh (a b : List ByteArray) (ha : a.length ≤ 1000000000000) (hb : b.length ≤ 1000000000000) :
  ∀ (d i : Nat), a.length - i ≤ d → i ≤ a.length → i ≤ b.length → (∀ j, j < i → Qde a b j) →
   ∃ n m, Kz (Qde a b) n ∧ Kz (Qdf a b n) m ∧ Ev (fun k => Qw.l0 k a b i 0) (n, m) := by
 intro d
 induction d with
 | zero =>
  intro i h1 h2 h3 h4; obtain ⟨m, hm, hE⟩ := Qjp a b i ha hb a.length 0 (by omega) (by omega) (by omega) (fun j hj => by omega); refine ⟨i, m, ⟨h4, fun h => by have := h.1; omega⟩, hm, Ev.step (fun k => ?_) (Ev.step (g := fun k => Qw.j1 k a b i 0) (fun k => ?_) hE)⟩
  ·simp only [Qw.l0]
   rw [if_neg (by omega)]
  ·simp only [Qw.j1]; rfl
 | succ d ih =>
  intro i h1 h2 h3 h4
  by_cases hf : Qde a b i
  ·obtain ⟨n, m, hn, hm, hE⟩ := ih (i + 1) (by have := hf.1; omega) hf.1 hf.2.1 (fun j hj => by
    rcases Nat.lt_succ_iff_lt_or_eq.1 hj with h | rfl
    ·exact h4 j h
    ·exact hf)
   obtain ⟨f1, f2, f3⟩ := hf; refine ⟨n, m, hn, hm, Ev.step (fun k => ?_) hE⟩; simp only [Qw.l0]; rw [if_pos (by omega), if_pos (by omega), if_pos (by omega), Vn, Vn, if_pos f3, w64 (by omega) (by omega)]; rfl
  ·obtain ⟨m, hm, hE⟩ := Qjp a b i ha hb a.length 0 (by omega) (by omega) (by omega) (fun j hj => by omega)
   refine ⟨i, m, ⟨h4, hf⟩, hm, Ev.step (fun k => ?_) (Ev.step (g := fun k => Qw.j1 k a b i 0) (fun k => ?_) hE)⟩
   ·simp only [Qw.l0]
    by_cases hl : i < a.length
    ·by_cases hl2 : i < b.length
     ·rw [if_pos (by omega), if_pos (by omega), if_pos (by omega), Vn, Vn, if_neg (fun h => hf ⟨hl, hl2, h⟩)]
     ·rw [if_pos (by omega), if_neg (by omega)]
    ·rw [if_neg (by omega)]
   ·simp only [Qw.j1]; rfl
theorem ref_int (a b : List ByteArray) (ha : a.length ≤ 1000000000000) (hb : b.length ≤ 1000000000000) :
  ∃ n m, Kz (Qde a b) n ∧ Kz (Qdf a b n) m ∧ Ev (fun k => Qw.f k a b) (n, m) :=
 Qnh a b ha hb a.length 0 (by omega) (by omega) (by omega) (fun j hj => by omega)
theorem ends_same {a b : List ByteArray} {n m p q : Nat} (h1 : Kz (Qde a b) n) (h2 : Kz (Qdf a b n) m) (h3 : Kz (Qde a b) p) (h4 : Kz (Qdf a b p) q) : n = p ∧ m = q := by
 obtain rfl := h1.uniq h3; exact ⟨rfl, h2.uniq h4⟩
end Txt
end Go.Proofs.Ytadafplbgophfaa.Pure
end
section
namespace Go.Proofs.Ytadafplbgophfaa.PA
open Go.RowKit Go.Proofs.YtadafplbgophfaaW.PrintWords Go.Proofs.YtadafplbgophfaaW.PrintLast Go.Proofs.YtadafplbgophfaaW.PrintMore
attribute [local go_sem] Xx Xz Yk Yl Xj Xk Xy Ya
def Yh.f (k : Nat) (l0 : List ByteArray) : Option (ByteArray × ByteArray × ByteArray × Bool × ByteArray × ByteArray × ByteArray × ByteArray × Bool) := (Zg.f k l0).bind fun a0 => (some ((⟨#[]⟩ : ByteArray), (⟨#[]⟩ : ByteArray), (⟨#[]⟩ : ByteArray), false, a0, (⟨#[]⟩ : ByteArray), (⟨#[]⟩ : ByteArray), (⟨#[]⟩ : ByteArray), false))
set_option maxHeartbeats 8000000 in
set_option maxRecDepth 100000 in
theorem Yh.calls (k : Nat) (A0 : Option Addr) (c0 : Nat) (l0 : List ByteArray) (r1 : ByteArray) (r2 : ByteArray) (r3 : ByteArray) (r4 : Bool) (r5 : ByteArray) (r6 : ByteArray) (r7 : ByteArray) (r8 : ByteArray) (r9 : Bool) (w : World) (hr0 : Kd.C Kd.string w A0 l0.length l0) (hc0 : l0.length ≤ c0) (h : Yh.f k l0 = some (r1, r2, r3, r4, r5, r6, r7, r8, r9)) :
  Calls Try.prog 124 #[.slice A0 l0.length c0] w fun e w' => e = .returned (.agg #[.string r1, .string r2, .string r3, .bool r4, .string r5, .string r6, .string r7, .string r8, .bool r9]) ∧ Below w.heap.size w w' := by
 have hu123 := Try.underlying123; have HR0 := Qa.mk hr0; have HC0 := Qa.mk hc0; clear hr0 hc0; have HB := Qa.mk (Below.refl w.heap.size w); have H : ((Zg.f k l0).bind fun a0 => (some ((⟨#[]⟩ : ByteArray), (⟨#[]⟩ : ByteArray), (⟨#[]⟩ : ByteArray), false, a0, (⟨#[]⟩ : ByteArray), (⟨#[]⟩ : ByteArray), (⟨#[]⟩ : ByteArray), false))) = some (r1, r2, r3, r4, r5, r6, r7, r8, r9) := h; clear h; replace H := Option.bind_eq_some_iff.mp H; obtain ⟨a0, A20, H⟩ := H; replace H : (some ((⟨#[]⟩ : ByteArray), (⟨#[]⟩ : ByteArray), (⟨#[]⟩ : ByteArray), false, a0, (⟨#[]⟩ : ByteArray), (⟨#[]⟩ : ByteArray), (⟨#[]⟩ : ByteArray), false)) = some (r1, r2, r3, r4, r5, r6, r7, r8, r9) := H; have A2 := Qa.mk A20; clear A20
 simp only [Option.some.injEq, Prod.mk.injEq] at H
 obtain ⟨rfl, rfl, rfl, rfl, rfl, rfl, rfl, rfl, rfl⟩ := H
 go_enter Try.func124, Try.ntmps124
 go_wp2_with (first | ((with_reducible refine Zd (N := 2) rfl ?_); refine Zc ?hg (N := 2) ?hd (cs := #[.string (⟨#[]⟩ : ByteArray), .string (⟨#[]⟩ : ByteArray), .string (⟨#[]⟩ : ByteArray), .bool false, .string (⟨#[]⟩ : ByteArray), .string (⟨#[]⟩ : ByteArray), .string (⟨#[]⟩ : ByteArray), .string (⟨#[]⟩ : ByteArray), .bool false]) (t := 123) ?hr ?_; (case hd => rfl); (case hg => rfl); (case hr => first | (go_simp; done) | (go_simp; rfl)); intro a2 hg w3 hbox hb; have n0_ := Qa.mk (Qj bw_ hb); have n1_ := Qa.mk (hbox); have n2_ := Qa.mk ((gw_ hg : w.heap.size ≤ a2)); have n3_ := Qa.mk ((gw_ hg : w.heap.size ≤ a2)); clear HB; have HB := n0_; have a1 := n1_; have d3 := n2_; have GE101 := n3_; clear n0_ n1_ n2_ n3_; clear hb hbox hg) | ((with_reducible refine Xo (f := 78) rfl ?_); refine Vb (some 4) rfl rfl Try.func78 (by kernel_rfl) rfl #[.slice A0 l0.length c0] rfl (by (try simp only [List.map_toArray, List.map_cons, List.map_nil]); first | done | rfl | (simp only [List.length_drop, List.length_take]; rfl)) ?_; (with_reducible refine (Zg.calls k _ _ l0 a0 _ ?side1 ?side2 A2.out).mono ?_); (case side1 => repeat (first | exact (Kd.C_below HR0.out HB.out) | (with_reducible refine Kd.C_alloc ?_ _) | (with_reducible refine Kd.C_drewN ?_ _) | (with_reducible refine Kd.C_drew ?_))); (case side2 => exact HC0.out); rintro e w' ⟨rfl, ⟨nd, rfl⟩⟩; refine ⟨_, rfl, ?_⟩; (try (rw [Qgl w3]; generalize hq_ : World.drewN w3 _ = w3; have n0_ : Qa (w3.heap[a2]? = some (.cells #[.string (⟨#[]⟩ : ByteArray), .string (⟨#[]⟩ : ByteArray), .string (⟨#[]⟩ : ByteArray), .bool false, .string (⟨#[]⟩ : ByteArray), .string (⟨#[]⟩ : ByteArray), .string (⟨#[]⟩ : ByteArray), .string (⟨#[]⟩ : ByteArray), .bool false] 123 (0, 0))) := ⟨by rw [← hq_]; exact (bk_ a1.out)⟩; have n1_ : Qa (Below w.heap.size w w3) := ⟨by rw [← hq_]; exact bw_⟩; clear a1 HB hq_; have a1 := n0_; have HB := n1_; clear n0_ n1_)); obtain ⟨a3, a4, a5, a6, a7, a8, a9, b0, b1⟩ := Ju a1.out; obtain ⟨b2, b3, b4, b5, b6, b7, b8, b9, d0⟩ := Jv a1.out)); refine bodyPost_ret (results_cell_row rfl _ _ a2 123 #[.string (⟨#[]⟩ : ByteArray), .string (⟨#[]⟩ : ByteArray), .string (⟨#[]⟩ : ByteArray), .bool false, .string a0, .string (⟨#[]⟩ : ByteArray), .string (⟨#[]⟩ : ByteArray), .string (⟨#[]⟩ : ByteArray), .bool false] (0, 0) _ rfl (by (with_reducible repeat (first | refine Qn ?_ _ | refine Qp ?_ | refine Ql ?_ _)); refine Za (cs := #[.string (⟨#[]⟩ : ByteArray), .string (⟨#[]⟩ : ByteArray), .string (⟨#[]⟩ : ByteArray), .bool false, .string a0, .string (⟨#[]⟩ : ByteArray), .string (⟨#[]⟩ : ByteArray), .string (⟨#[]⟩ : ByteArray), .bool false]) ?_ 8 _ rfl; (with_reducible repeat (first | refine Qn ?_ _ | refine Qp ?_ | refine Ql ?_ _)); refine Za (cs := #[.string (⟨#[]⟩ : ByteArray), .string (⟨#[]⟩ : ByteArray), .string (⟨#[]⟩ : ByteArray), .bool false, .string a0, .string (⟨#[]⟩ : ByteArray), .string (⟨#[]⟩ : ByteArray), .string (⟨#[]⟩ : ByteArray), .bool false]) ?_ 7 _ rfl; (with_reducible repeat (first | refine Qn ?_ _ | refine Qp ?_ | refine Ql ?_ _)); refine Za (cs := #[.string (⟨#[]⟩ : ByteArray), .string (⟨#[]⟩ : ByteArray), .string (⟨#[]⟩ : ByteArray), .bool false, .string a0, .string (⟨#[]⟩ : ByteArray), .string (⟨#[]⟩ : ByteArray), .string (⟨#[]⟩ : ByteArray), .bool false]) ?_ 6 _ rfl; (with_reducible repeat (first | refine Qn ?_ _ | refine Qp ?_ | refine Ql ?_ _)); refine Za (cs := #[.string (⟨#[]⟩ : ByteArray), .string (⟨#[]⟩ : ByteArray), .string (⟨#[]⟩ : ByteArray), .bool false, .string a0, .string (⟨#[]⟩ : ByteArray), .string (⟨#[]⟩ : ByteArray), .string (⟨#[]⟩ : ByteArray), .bool false]) ?_ 5 _ rfl; (with_reducible repeat (first | refine Qn ?_ _ | refine Qp ?_ | refine Ql ?_ _)); refine Za (cs := #[.string (⟨#[]⟩ : ByteArray), .string (⟨#[]⟩ : ByteArray), .string (⟨#[]⟩ : ByteArray), .bool false, .string (⟨#[]⟩ : ByteArray), .string (⟨#[]⟩ : ByteArray), .string (⟨#[]⟩ : ByteArray), .string (⟨#[]⟩ : ByteArray), .bool false]) ?_ 4 _ rfl; (with_reducible repeat (first | refine Qn ?_ _ | refine Qp ?_ | refine Ql ?_ _)); refine Za (cs := #[.string (⟨#[]⟩ : ByteArray), .string (⟨#[]⟩ : ByteArray), .string (⟨#[]⟩ : ByteArray), .bool false, .string (⟨#[]⟩ : ByteArray), .string (⟨#[]⟩ : ByteArray), .string (⟨#[]⟩ : ByteArray), .string (⟨#[]⟩ : ByteArray), .bool false]) ?_ 3 _ rfl; (with_reducible repeat (first | refine Qn ?_ _ | refine Qp ?_ | refine Ql ?_ _)); refine Za (cs := #[.string (⟨#[]⟩ : ByteArray), .string (⟨#[]⟩ : ByteArray), .string (⟨#[]⟩ : ByteArray), .bool false, .string (⟨#[]⟩ : ByteArray), .string (⟨#[]⟩ : ByteArray), .string (⟨#[]⟩ : ByteArray), .string (⟨#[]⟩ : ByteArray), .bool false]) ?_ 2 _ rfl; (with_reducible repeat (first | refine Qn ?_ _ | refine Qp ?_ | refine Ql ?_ _)); refine Za (cs := #[.string (⟨#[]⟩ : ByteArray), .string (⟨#[]⟩ : ByteArray), .string (⟨#[]⟩ : ByteArray), .bool false, .string (⟨#[]⟩ : ByteArray), .string (⟨#[]⟩ : ByteArray), .string (⟨#[]⟩ : ByteArray), .string (⟨#[]⟩ : ByteArray), .bool false]) ?_ 1 _ rfl; (with_reducible repeat (first | refine Qn ?_ _ | refine Qp ?_ | refine Ql ?_ _)); refine Za (cs := #[.string (⟨#[]⟩ : ByteArray), .string (⟨#[]⟩ : ByteArray), .string (⟨#[]⟩ : ByteArray), .bool false, .string (⟨#[]⟩ : ByteArray), .string (⟨#[]⟩ : ByteArray), .string (⟨#[]⟩ : ByteArray), .string (⟨#[]⟩ : ByteArray), .bool false]) ?_ 0 _ rfl; (with_reducible repeat (first | refine Qn ?_ _ | refine Qp ?_ | refine Ql ?_ _)); exact a1.out) Try.underlying123 rfl (by kernel_rfl)) rfl ?_; exact ⟨by first | rfl | (simp [Qt, Qu] <;> rfl) | (simp [*, Qt, Qu] <;> rfl), bw_⟩
end Go.Proofs.Ytadafplbgophfaa.PA
end
section
namespace Go.Proofs.Ytadafplbgophfaa.PA
open Go.RowKit Go.Proofs.YtadafplbgophfaaW.PrintWords Go.Proofs.YtadafplbgophfaaW.PrintLast Go.Proofs.YtadafplbgophfaaW.PrintMore
def Xg.g (k : Nat) (l0 l1 l2 : List ByteArray) : List S81 → Int → Option Int
 | [], n => some n
 | c :: cs, n => (Xp.f k c.f0 c.f1.f0 c.f1.f1 c.f2.f0 c.f2.f1 c.f3.f0 c.f3.f1 l0 l1 l2).bind fun i => if i = 4 then Xg.g k l0 l1 l2 cs (wrap64 (n + 1)) else Xg.g k l0 l1 l2 cs n
def Xg.f (k : Nat) (l0 l1 l2 : List ByteArray) (cs : List S81) : Option Int := Xg.g k l0 l1 l2 cs 0
theorem Qlm {W w' : World} {a0 a1 a2 a3 a4 a5 a6 a7 a8 a9 : Addr} {v0 v1 v2 v3 v4 v5 v6 v7 v8 v9 : Value} (hb : Below W.heap.size W w') (h : W.cell? a0 = some v0 ∧ W.cell? a1 = some v1 ∧ W.cell? a2 = some v2 ∧ W.cell? a3 = some v3 ∧ W.cell? a4 = some v4 ∧ W.cell? a5 = some v5 ∧ W.cell? a6 = some v6 ∧ W.cell? a7 = some v7 ∧ W.cell? a8 = some v8 ∧ W.cell? a9 = some v9) : w'.cell? a0 = some v0 ∧ w'.cell? a1 = some v1 ∧ w'.cell? a2 = some v2 ∧ w'.cell? a3 = some v3 ∧ w'.cell? a4 = some v4 ∧ w'.cell? a5 = some v5 ∧ w'.cell? a6 = some v6 ∧ w'.cell? a7 = some v7 ∧ w'.cell? a8 = some v8 ∧ w'.cell? a9 = some v9 := ⟨Qg hb h.1, Qg hb h.2.1, Qg hb h.2.2.1, Qg hb h.2.2.2.1, Qg hb h.2.2.2.2.1, Qg hb h.2.2.2.2.2.1, Qg hb h.2.2.2.2.2.2.1, Qg hb h.2.2.2.2.2.2.2.1, Qg hb h.2.2.2.2.2.2.2.2.1, Qg hb h.2.2.2.2.2.2.2.2.2⟩
def Xg.T5 : Bool × List (List Nat × List Nat) := (true, [([], []), ([], []), ([0, 1], [0, 1]), ([2], [2]), ([], []), ([4], [4]), ([], []), ([6], [6]), ([], []), ([8], [8]), ([3, 5, 7, 9], [3, 5, 7, 9]), ([10], [10])])
def Xg.B5 : List Nat := [0, 0, 3, 7, 0, 16, 0, 64, 0, 256, 1023, 2047]
theorem Xg.tab5 : Vx .any (Jb Try.f81 5) = Xg.T5 := by kernel_rfl
theorem Xg.bits5 : Vk Xg.T5.2 Xg.B5 = true := by kernel_rfl
set_option maxHeartbeats 8000000 in
set_option maxRecDepth 100000 in
theorem Xg.calls (k : Nat) (A0 : Option Addr) (c0 : Nat) (l0 : List ByteArray) (A1 : Option Addr) (c1 : Nat) (l1 : List ByteArray) (A2 : Option Addr) (c2 : Nat) (l2 : List ByteArray) (A3 : Option Addr) (c3 : Nat) (cs : List S81) (r : Int) (w : World) (hr0 : Kd.C Kd.string w A0 l0.length l0) (hc0 : l0.length ≤ c0) (hr1 : Kd.C Kd.string w A1 l1.length l1) (hc1 : l1.length ≤ c1) (hr2 : Kd.C Kd.string w A2 l2.length l2) (hc2 : l2.length ≤ c2) (hr3 : Kd.C k81 w A3 cs.length cs) (h : Xg.f k l0 l1 l2 cs = some r) :
  Calls Try.prog 81 #[.agg #[.slice A0 l0.length c0, .slice A1 l1.length c1, .slice A2 l2.length c2], .slice A3 cs.length c3] w fun e w' => e = .returned (.int .i64 r) ∧ Below w.heap.size w w' := by
 have hu107 := Try.underlying107; have hu81 := Try.underlying81; have C0 := Qa.mk hr0; have C1 := Qa.mk hr1; have C2 := Qa.mk hr2; have C3 := Qa.mk hr3; have LC0 := Qa.mk hc0; have LC1 := Qa.mk hc1; have LC2 := Qa.mk hc2; have H := Qa.mk (show Xg.g k l0 l1 l2 (cs.drop 0) 0 = some r from h); clear hr0 hr1 hr2 hr3 hc0 hc1 hc2 h; have HN : Qa (cs.length ≤ 9223372036854775807) := ⟨C3.out.2.1⟩
 go_enter Try.func81, Try.ntmps81
 go_wp2_with ((with_reducible refine Zd (N := 2) rfl ?_); refine Zc ?hg (N := 2) ?hd (cs := #[.slice A0 l0.length c0, .slice A1 l1.length c1, .slice A2 l2.length c2]) (t := 107) ?hr ?_; (case hd => rfl); (case hg => rfl); (case hr => first | (go_simp; done) | (go_simp; rfl)); intro fs hg w1 hbox hb; have BS := Qa.mk hbox; have HB := Qa.mk hb; clear hg hbox hb)
 go_loopg [5, 6] cs.length (fun kq v5 v6 W => ∃ (n : Int) (i : Nat), v5 = .int .i64 n ∧ v6 = .int .i64 (i : Int) ∧ Qa (i + kq = cs.length) ∧ Qa (Below w1.heap.size w1 W) ∧ Qa (Xg.g k l0 l1 l2 (cs.drop i) n = some r))
 case atStart => exact ⟨0, 0, rfl, rfl, ⟨Nat.zero_add _⟩, ⟨Below.refl _ _⟩, H⟩
 case round =>
  obtain ⟨n, i, rfl, rfl, HI, HW, HG⟩ := hrel; have BW := Qa.mk (Qq BS.out (Qj (Below.refl _ _) HW.out)); have HBW := Qa.mk (Qj HB.out HW.out); have K0 := Qa.mk (Kd.C_below C0.out (Qj HB.out HW.out)); have K1 := Qa.mk (Kd.C_below C1.out (Qj HB.out HW.out)); have K2 := Qa.mk (Kd.C_below C2.out (Qj HB.out HW.out)); have K3 := Qa.mk (Kd.C_below C3.out (Qj HB.out HW.out))
  cases gk with
  | succ k1 =>
   have hil : i < cs.length := by have := HI.out; omega
   have LT0 : Qa ((i : Int) < (cs.length : Int)) := ⟨by omega⟩; have lt0 : decide ((i : Int) < (cs.length : Int)) = true := decide_eq_true LT0.out; have lt0n : decide (i < cs.length) = true := decide_eq_true hil; obtain ⟨ad, ea, hx0, hx1, hx2, hx3, hx4, hx5, hx6⟩ := Qjv K3.out (i : Int) (by omega) LT0.out
   cases ea
   have hrd : Vt cs (i : Int) = cs[i] := by simp [Vt, List.getD_eq_getElem?_getD, hil]
   rw [hrd, Int.toNat_natCast] at hx0 hx1 hx2 hx3 hx4 hx5 hx6
   have hg := HG.out
   rw [List.drop_eq_getElem_cons hil] at hg
   unfold Xg.g at hg
   replace hg := Option.bind_eq_some_iff.1 hg; obtain ⟨kc, hkc, hg⟩ := hg
   generalize cs[i] = x at hx0 hx1 hx2 hx3 hx4 hx5 hx6 hkc
   have HKC := Qa.mk hkc; have HGN := Qa.mk hg; have HWI : Qa (wrap64 ((i : Int) + 1) = ((i + 1 : Nat) : Int)) := ⟨by have := HN.out; unfold wrap64; omega⟩; have p0t : ((0 : Int) ≤ (i : Int)) = True := eq_true (by omega); have lt0p := eq_true LT0.out; have lt0q : (i < cs.length) = True := eq_true hil; clear hkc hrd HG hg; have q0 := (Qc BW.out 0).trans (show _ = some (Value.slice A0 l0.length c0) from rfl); have q1 := (Qc BW.out 1).trans (show _ = some (Value.slice A1 l1.length c1) from rfl); have q2 := (Qc BW.out 2).trans (show _ = some (Value.slice A2 l2.length c2) from rfl); go_wp2_with fail; refine Ug (n := 12) (S := fun w' => w'.cell? ⟨fs, 0, none⟩ = some (.slice A0 l0.length c0) ∧ w'.cell? ⟨fs, 1, none⟩ = some (.slice A1 l1.length c1) ∧ w'.cell? ⟨fs, 2, none⟩ = some (.slice A2 l2.length c2) ∧ w'.cell? (ad.add (i * 7)) = some (.bool x.f0) ∧ w'.cell? ⟨(ad.add (i * 7)).block, (ad.add (i * 7)).off + 1, none⟩ = some (.int .i64 x.f1.f0) ∧ w'.cell? ⟨(ad.add (i * 7)).block, (ad.add (i * 7)).off + 2, none⟩ = some (.int .i64 x.f1.f1) ∧ w'.cell? ⟨(ad.add (i * 7)).block, (ad.add (i * 7)).off + 3, none⟩ = some (.int .i64 x.f2.f0) ∧ w'.cell? ⟨(ad.add (i * 7)).block, (ad.add (i * 7)).off + 4, none⟩ = some (.int .i64 x.f2.f1) ∧ w'.cell? ⟨(ad.add (i * 7)).block, (ad.add (i * 7)).off + 5, none⟩ = some (.int .i64 x.f3.f0) ∧ w'.cell? ⟨(ad.add (i * 7)).block, (ad.add (i * 7)).off + 6, none⟩ = some (.int .i64 x.f3.f1)) (ds := []) (bz_ 12 0) (by kernel_rfl) rfl rfl ⟨q0, q1, q2, hx0, hx1, hx2, hx3, hx4, hx5, hx6⟩ (fun hHeld => ?_); refine Va Xg.tab5 Xg.bits5 (fun HT_ HW_ => ?_); replace HBW := Qa.mk (Qi HBW.out); replace HW := Qa.mk (Qi HW.out); replace K0 := Qa.mk (Kd.C_drew K0.out); replace K1 := Qa.mk (Kd.C_drew K1.out); replace K2 := Qa.mk (Kd.C_drew K2.out); replace K3 := Qa.mk (Kd.C_drew K3.out); clear BW q0 q1 q2 hx0 hx1 hx2 hx3 hx4 hx5 hx6
   generalize wr.drew = wx at HBW HW K0 K1 K2 K3 hHeld ⊢
   refine pu_ (i := 0) (N := some 13) #[true, false, false, false, false, false, false, false, false, false, false, false] ?_; refine pu_ (i := 1) (N := some 14) #[true, true, false, false, false, false, false, false, false, false, false, false] ?_; refine pu_ (i := 2) (N := some 15) #[true, true, true, false, false, false, false, false, false, false, false, false] ?_; refine ta_ (i := 3) (N := some 16) #[true, true, true, true, false, false, false, false, false, false, false, false] ?_; refine pu_ (i := 4) (N := some 17) #[true, true, true, true, true, false, false, false, false, false, false, false] ?_; refine ta_ (i := 5) (N := some 18) #[true, true, true, true, true, true, false, false, false, false, false, false] ?_; refine pu_ (i := 6) (N := some 19) #[true, true, true, true, true, true, true, false, false, false, false, false] ?_; refine ta_ (i := 7) (N := some 20) #[true, true, true, true, true, true, true, true, false, false, false, false] ?_; refine pu_ (i := 8) (N := some 21) #[true, true, true, true, true, true, true, true, true, false, false, false] ?_; refine ta_ (i := 9) (N := some 22) #[true, true, true, true, true, true, true, true, true, true, false, false] ?_; refine on_ (i := 10) (N := some 23) #[true, true, true, true, true, true, true, true, true, true, true, false] (fun K hK => ?_); refine Vr Try.func77 (by kernel_rfl) rfl #[.agg #[.bool x.f0, .int .i64 x.f1.f0, .int .i64 x.f1.f1, .int .i64 x.f2.f0, .int .i64 x.f2.f1, .int .i64 x.f3.f0, .int .i64 x.f3.f1], .slice A0 l0.length c0, .slice A1 l1.length c1, .slice A2 l2.length c2] (by rfl) rfl rfl (by (try simp only [List.map_toArray, List.map_cons, List.map_nil]); first | done | rfl) ?_; refine (Xp.calls k x.f0 x.f1.f0 x.f1.f1 x.f2.f0 x.f2.f1 x.f3.f0 x.f3.f1 A0 c0 l0 A1 c1 l1 A2 c2 l2 kc _ K0.out LC0.out K1.out LC1.out K2.out LC2.out HKC.out).mono ?_; rintro e w9 ⟨rfl, hb⟩; refine ⟨_, rfl, ?_⟩; replace HBW := Qa.mk (Qj HBW.out hb); replace HW := Qa.mk (Qj HW.out hb); have hH9 := Qlm hb hHeld; clear hb; refine hK.out _ _ hH9 (fun hHeld => ?_); clear hH9; clear hK K; refine nN_ 23 ?_; refine pu_ (i := 11) (N := some 24) #[true, true, true, true, true, true, true, true, true, true, true, true] ?_; refine Ki (Vq HT_.out (by kernel_rfl)) ?_; clear hHeld HT_ HW_ HKC; have hg := HGN.out
   by_cases k4 : kc = 4
   ·subst k4
    rw [if_pos rfl] at hg
    have HG1 := Qa.mk hg; clear hg; go_wp2_with fail
    go_roundg k1
    case measure => omega
    case rel => exact ⟨_, i + 1, rfl, by rw [HWI.out], ⟨by have := HI.out; omega⟩, HW, HG1⟩
   ·rw [if_neg k4] at hg
    have HG1 := Qa.mk hg; clear hg; have k4b : decide (kc = 4) = false := decide_eq_false k4; have k4e : (kc == 4) = false := beq_eq_false_iff_ne.mpr k4; go_wp2_with fail
    go_roundg k1
    case measure => omega
    case rel => exact ⟨_, i + 1, rfl, by rw [HWI.out], ⟨by have := HI.out; omega⟩, HW, HG1⟩
  | zero =>
   have hil : ¬ i < cs.length := by have := HI.out; omega
   have lt1 : decide ((i : Int) < (cs.length : Int)) = false := decide_eq_false (by omega); have lt1n : decide (i < cs.length) = false := decide_eq_false hil; have hg := HG.out
   rw [List.drop_of_length_le (by omega)] at hg
   unfold Xg.g at hg
   obtain rfl := Option.some.inj hg; clear hg; go_wp2_with fail; go_ret; exact ⟨by first | rfl | (simp; done), HBW.out⟩
end Go.Proofs.Ytadafplbgophfaa.PA
end
section
namespace Go.Proofs.Ytadafplbgophfaa.PA
open Go.RowKit Go.Proofs.YtadafplbgophfaaW.PrintWords Go.Proofs.YtadafplbgophfaaW.PrintLast Go.Proofs.YtadafplbgophfaaW.PrintMore
attribute [local go_sem] Xx Xz Yk Yl Xj Xk Xy Ya
def Yd.l0 : Nat → Int → List (S78) → Int → Int → List ByteArray → List ByteArray → List ByteArray → Option (Int)
 | 0, _, _, _, _, _, _, _ => none
 | k + 1, x5, x8, x9, x10, d9, e0, e1 => if x10 < x9 then (if 0 ≤ x10 then (if x10 < (x8.length : Int) then ((Xn.f k d9 e0 e1 ((Xm x8 x10).f0) ((Xm x8 x10).f1.f0) ((Xm x8 x10).f1.f1) ((Xm x8 x10).f2.f0) ((Xm x8 x10).f2.f1) ((Xm x8 x10).f3.f0) ((Xm x8 x10).f3.f1)).bind fun g3 => (if g3.2.2.2.2.2.2.2.2.2.2 = 4 then (Yd.l0 k (wrap64 (x5 + 1)) x8 x9 (wrap64 (x10 + 1)) d9 e0 e1) else (Yd.l0 k x5 x8 x9 (wrap64 (x10 + 1)) d9 e0 e1))) else (none)) else (none)) else (some x5)
def Yd.f (k : Nat) (a3 : List ByteArray) (a4 : List ByteArray) (a5 : List ByteArray) (l1 : List (S78)) : Option (Int) := Yd.l0 k 0 l1 (l1.length : Int) 0 a3 a4 a5
set_option maxHeartbeats 8000000 in
set_option maxRecDepth 100000 in
theorem Yd.calls (k : Nat) (a7 : Option Addr) (a8 : Nat) (a3 : List ByteArray) (a9 : Option Addr) (b0 : Nat) (a4 : List ByteArray) (b1 : Option Addr) (b2 : Nat) (a5 : List ByteArray) (A1 : Option Addr) (c1 : Nat) (l1 : List (S78)) (r : Int) (w : World) (hr0_0 : Kd.C Kd.string w a7 a3.length a3) (hc0_0 : a3.length ≤ a8) (hr0_1 : Kd.C Kd.string w a9 a4.length a4) (hc0_1 : a4.length ≤ b0) (hr0_2 : Kd.C Kd.string w b1 a5.length a5) (hc0_2 : a5.length ≤ b2) (hr1 : Kd.C k78 w A1 l1.length l1) (hc1 : l1.length ≤ c1) (h : Yd.f k a3 a4 a5 l1 = some r) :
  Calls Try.prog 80 #[.agg #[.slice a7 a3.length a8, .slice a9 a4.length b0, .slice b1 a5.length b2], .slice A1 l1.length c1] w fun e w' => e = .returned (.int .i64 r) ∧ Below w.heap.size w w' := by
 have hu112 := Try.underlying112; have hu78 := Try.underlying78
 have hfd184 : ∀ (b : Bool) (i1 i2 i3 i4 i5 i6 : Int) (v1 v2 v3 : Value) (i7 : Int) (w : World), (Instr.field 184 (.agg #[.bool b, .int .i64 i1, .int .i64 i2, .int .i64 i3, .int .i64 i4, .int .i64 i5, .int .i64 i6, v1, v2, v3, .int .i64 i7]) 4).run Try.prog w = .ok (.int .i64 i7) w := fun _ _ _ _ _ _ _ _ _ _ _ _ => by kernel_rfl
 have e3 := Qa.mk hr0_0; have e4 := Qa.mk hc0_0; clear hr0_0 hc0_0; have e5 := Qa.mk hr0_1; have e6 := Qa.mk hc0_1; clear hr0_1 hc0_1; have e7 := Qa.mk hr0_2; have e8 := Qa.mk hc0_2; clear hr0_2 hc0_2; have HR1 := Qa.mk hr1; have HC1 := Qa.mk hc1; clear hr1 hc1; have HB := Qa.mk (Below.refl w.heap.size w); have H : (Yd.l0 k 0 l1 (l1.length : Int) 0 a3 a4 a5) = some r := h; clear h; have H' := Qa.mk H; clear H
 go_enter Try.func80, Try.ntmps80
 go_wp2_with (first | ((with_reducible refine Zd (N := 2) rfl ?_); refine Zc ?hg (N := 2) ?hd (cs := #[.slice a7 a3.length a8, .slice a9 a4.length b0, .slice b1 a5.length b2]) (t := 112) ?hr ?_; (case hd => rfl); (case hg => rfl); (case hr => first | (go_simp; done) | (go_simp; rfl)); intro a6 hg w3 hbox hb; have n0_ := Qa.mk (Qj bw_ hb); have n1_ := Qa.mk (hbox); have n2_ := Qa.mk ((gw_ hg : w.heap.size ≤ a6)); have n3_ := Qa.mk ((gw_ hg : w.heap.size ≤ a6)); clear HB; have HB := n0_; have a2 := n1_; have n2 := n2_; have GE101 := n3_; clear n0_ n1_ n2_ n3_; clear hb hbox hg))
 go_loopg [5, 10] k (fun kq v5 v10 w' => ∃ (d6 : Int) (a0 : Int), v5 = .int .i64 d6 ∧ v10 = .int .i64 a0 ∧ Qa (Yd.l0 kq d6 l1 (l1.length : Int) a0 a3 a4 a5 = some r) ∧ Qa (kq ≤ k) ∧ Qa (w'.heap[a6]? = some (.cells #[(.slice a7 a3.length a8), (.slice a9 a4.length b0), (.slice b1 a5.length b2)] 112 (0, 0))) ∧ Qa (Below w.heap.size w w'))
 case atStart => exact ⟨(0), (0), sm_, sm_, H', ⟨Nat.le_refl _⟩, ⟨by (with_reducible repeat (first | refine Qn ?_ _ | refine Qp ?_ | refine Ql ?_ _)); exact a2.out⟩, ⟨bw_⟩⟩
 case round =>
  clear H'
  try clear c1
  try clear p2
  obtain ⟨d6, a0, rfl, rfl, HA, HK1, a2, HB⟩ := hrel
  cases gk with
  | zero => exact absurd HA.out (by simp [Yd.l0])
  | succ k1 =>
   have H := HA.out; clear HA
   simp only [Yd.l0] at H
   by_cases c4 : a0 < (l1.length : Int)
   ·rw [if_pos c4] at H
    have g9 : decide (a0 < (l1.length : Int)) = true := decide_eq_true c4; clear c4
    by_cases c5 : 0 ≤ a0
    ·rw [if_pos c5] at H
     have n7 : decide (0 ≤ a0) = true := decide_eq_true c5; clear c5
     by_cases c6 : a0 < (l1.length : Int)
     ·rw [if_pos c6] at H
      have n8 : decide (a0 < (l1.length : Int)) = true := decide_eq_true c6; clear c6; replace H := Option.bind_eq_some_iff.mp H; obtain ⟨⟨e9, f4, f5, f6, f7, f8, f9, g0, g1, g2, d4⟩, A70, H⟩ := H; replace H : (if d4 = 4 then (Yd.l0 k1 (wrap64 (d6 + 1)) l1 (l1.length : Int) (wrap64 (a0 + 1)) a3 a4 a5) else (Yd.l0 k1 d6 l1 (l1.length : Int) (wrap64 (a0 + 1)) a3 a4 a5)) = some r := H; have A7 := Qa.mk A70; clear A70
      by_cases c8 : d4 = 4
      ·rw [if_pos c8] at H
       have h0 : (d4 == 4) = true := beq_iff_eq.mpr c8; have h2 : (d4 != 4) = false := bne_eq_false_iff_eq.mpr c8; clear c8; have H' := Qa.mk H; clear H; have d7 : 0 ≤ (a0 : Int) := of_decide_eq_true Zx; have d8 : a0 < (l1.length : Int) := of_decide_eq_true Zx; obtain ⟨g4, e2, b5, b6, b7, b8, b9, d0, d3⟩ := Qek HR1.out a0 d7 d8
       cases e2; replace b5 := Qg HB.out b5; replace b6 := Qg HB.out b6; replace b7 := Qg HB.out b7; replace b8 := Qg HB.out b8; replace b9 := Qg HB.out b9; replace d0 := Qg HB.out d0; replace d3 := Qg HB.out d3; replace d7 := eq_true d7; replace d8 := eq_true d8; go_wp2_with (first | ((with_reducible refine Zd (N := 7) rfl ?_); refine Zc ?hg (N := 7) ?hd (cs := #[.bool false, .int .i64 0, .int .i64 0, .int .i64 0, .int .i64 0, .int .i64 0, .int .i64 0]) (t := 78) ?hr ?_; (case hd => rfl); (case hg => rfl); (case hr => first | (go_simp; done) | (go_simp; rfl)); intro b3 hg w9 hbox hb; have n0_ := Qa.mk (Qq (g := a6) (o := .cells #[.slice a7 a3.length a8, .slice a9 a4.length b0, .slice b1 a5.length b2] 112 (0, 0)) (bk_ a2.out) hb); have n1_ := Qa.mk (Qj bw_ hb); have n2_ := Qa.mk (hbox); have n3_ := Qa.mk ((gw_ hg : w.heap.size ≤ b3)); have n4_ := Qa.mk ((gw_ hg : w.heap.size ≤ b3)); have n5_ := Qa.mk ((by rw [hg]; exact Nat.ne_of_lt (Zu (g := a6) (o := .cells #[.slice a7 a3.length a8, .slice a9 a4.length b0, .slice b1 a5.length b2] 112 (0, 0)) (bk_ a2.out)) : a6 ≠ b3)); have n6_ := Qa.mk ((by rw [hg]; exact Nat.ne_of_gt (Zu (g := a6) (o := .cells #[.slice a7 a3.length a8, .slice a9 a4.length b0, .slice b1 a5.length b2] 112 (0, 0)) (bk_ a2.out)) : b3 ≠ a6)); clear a2; clear HB; have a2 := n0_; have HB := n1_; have b4 := n2_; have g5 := n3_; have GE103 := n4_; have a1 := n5_; have d5 := n6_; clear n0_ n1_ n2_ n3_ n4_ n5_ n6_; clear hb hbox hg; have n3 := d5.out; have n4 := a1.out; obtain ⟨h6, h7, h8, h9, i0, i8, i9⟩ := Qbv b4.out; obtain ⟨j3, j5, j7, j8, j9, k0, k2⟩ := Qdx b4.out; obtain ⟨k3, k4, k5⟩ := Kj a2.out; obtain ⟨k6, k7, k8⟩ := Qll a2.out) | ((with_reducible refine Xo (f := 120) rfl ?_); refine Vb (some 16) rfl rfl Try.func120 (by kernel_rfl) rfl #[.agg #[.slice a7 a3.length a8, .slice a9 a4.length b0, .slice b1 a5.length b2], .agg #[.bool ((Xm l1 a0).f0), .int .i64 ((Xm l1 a0).f1.f0), .int .i64 ((Xm l1 a0).f1.f1), .int .i64 ((Xm l1 a0).f2.f0), .int .i64 ((Xm l1 a0).f2.f1), .int .i64 ((Xm l1 a0).f3.f0), .int .i64 ((Xm l1 a0).f3.f1)]] rfl (by (try simp only [List.map_toArray, List.map_cons, List.map_nil]); first | done | rfl | (simp only [List.length_drop, List.length_take]; rfl)) ?_; (with_reducible refine (Xn.calls k1 _ _ a3 _ _ a4 _ _ a5 ((Xm l1 a0).f0) ((Xm l1 a0).f1.f0) ((Xm l1 a0).f1.f1) ((Xm l1 a0).f2.f0) ((Xm l1 a0).f2.f1) ((Xm l1 a0).f3.f0) ((Xm l1 a0).f3.f1) e9 f4 f5 f6 f7 f8 f9 g0 g1 g2 d4 _ ?side1 ?side2 ?side3 ?side4 ?side5 ?side6 A7.out).mono ?_); (case side1 => exact Kd.C_below e3.out bw_); (case side2 => exact e4.out); (case side3 => exact Kd.C_below e5.out bw_); (case side4 => exact e6.out); (case side5 => exact Kd.C_below e7.out bw_); (case side6 => exact e8.out); rintro e w13 ⟨h3, h4, h5, rfl, ho0, ho1, ho2, hb⟩; refine ⟨_, rfl, ?_⟩; have n0_ := Qa.mk (Kd.R_lower ho0 (Qo bw_)); have n1_ := Qa.mk (Kd.R_lower ho1 (Qo bw_)); have n2_ := Qa.mk (Kd.R_lower ho2 (Qo bw_)); have n3_ := Qa.mk (Qq (g := a6) (o := .cells #[.slice a7 a3.length a8, .slice a9 a4.length b0, .slice b1 a5.length b2] 112 (0, 0)) (by (with_reducible repeat (first | refine Qn ?_ _ | refine Qp ?_ | refine Ql ?_ _)); refine Yt ?_ a1.out _; (with_reducible repeat (first | refine Qn ?_ _ | refine Qp ?_ | refine Ql ?_ _)); refine Yt ?_ a1.out _; (with_reducible repeat (first | refine Qn ?_ _ | refine Qp ?_ | refine Ql ?_ _)); refine Yt ?_ a1.out _; (with_reducible repeat (first | refine Qn ?_ _ | refine Qp ?_ | refine Ql ?_ _)); refine Yt ?_ a1.out _; (with_reducible repeat (first | refine Qn ?_ _ | refine Qp ?_ | refine Ql ?_ _)); refine Yt ?_ a1.out _; (with_reducible repeat (first | refine Qn ?_ _ | refine Qp ?_ | refine Ql ?_ _)); refine Yt ?_ a1.out _; (with_reducible repeat (first | refine Qn ?_ _ | refine Qp ?_ | refine Ql ?_ _)); refine Yt ?_ a1.out _; (with_reducible repeat (first | refine Qn ?_ _ | refine Qp ?_ | refine Ql ?_ _)); exact a2.out) hb); have n4_ := Qa.mk (Qq (g := b3) (o := .cells #[.bool ((Xm l1 a0).f0), .int .i64 ((Xm l1 a0).f1.f0), .int .i64 ((Xm l1 a0).f1.f1), .int .i64 ((Xm l1 a0).f2.f0), .int .i64 ((Xm l1 a0).f2.f1), .int .i64 ((Xm l1 a0).f3.f0), .int .i64 ((Xm l1 a0).f3.f1)] 78 (0, 0)) (by (with_reducible repeat (first | refine Qn ?_ _ | refine Qp ?_ | refine Ql ?_ _)); refine Za (cs := #[.bool ((Xm l1 a0).f0), .int .i64 ((Xm l1 a0).f1.f0), .int .i64 ((Xm l1 a0).f1.f1), .int .i64 ((Xm l1 a0).f2.f0), .int .i64 ((Xm l1 a0).f2.f1), .int .i64 ((Xm l1 a0).f3.f0), .int .i64 0]) ?_ 6 _ rfl; (with_reducible repeat (first | refine Qn ?_ _ | refine Qp ?_ | refine Ql ?_ _)); refine Za (cs := #[.bool ((Xm l1 a0).f0), .int .i64 ((Xm l1 a0).f1.f0), .int .i64 ((Xm l1 a0).f1.f1), .int .i64 ((Xm l1 a0).f2.f0), .int .i64 ((Xm l1 a0).f2.f1), .int .i64 0, .int .i64 0]) ?_ 5 _ rfl; (with_reducible repeat (first | refine Qn ?_ _ | refine Qp ?_ | refine Ql ?_ _)); refine Za (cs := #[.bool ((Xm l1 a0).f0), .int .i64 ((Xm l1 a0).f1.f0), .int .i64 ((Xm l1 a0).f1.f1), .int .i64 ((Xm l1 a0).f2.f0), .int .i64 0, .int .i64 0, .int .i64 0]) ?_ 4 _ rfl; (with_reducible repeat (first | refine Qn ?_ _ | refine Qp ?_ | refine Ql ?_ _)); refine Za (cs := #[.bool ((Xm l1 a0).f0), .int .i64 ((Xm l1 a0).f1.f0), .int .i64 ((Xm l1 a0).f1.f1), .int .i64 0, .int .i64 0, .int .i64 0, .int .i64 0]) ?_ 3 _ rfl; (with_reducible repeat (first | refine Qn ?_ _ | refine Qp ?_ | refine Ql ?_ _)); refine Za (cs := #[.bool ((Xm l1 a0).f0), .int .i64 ((Xm l1 a0).f1.f0), .int .i64 0, .int .i64 0, .int .i64 0, .int .i64 0, .int .i64 0]) ?_ 2 _ rfl; (with_reducible repeat (first | refine Qn ?_ _ | refine Qp ?_ | refine Ql ?_ _)); refine Za (cs := #[.bool ((Xm l1 a0).f0), .int .i64 0, .int .i64 0, .int .i64 0, .int .i64 0, .int .i64 0, .int .i64 0]) ?_ 1 _ rfl; (with_reducible repeat (first | refine Qn ?_ _ | refine Qp ?_ | refine Ql ?_ _)); refine Za (cs := #[.bool false, .int .i64 0, .int .i64 0, .int .i64 0, .int .i64 0, .int .i64 0, .int .i64 0]) ?_ 0 _ rfl; (with_reducible repeat (first | refine Qn ?_ _ | refine Qp ?_ | refine Ql ?_ _)); exact b4.out) hb); have n5_ := Qa.mk (Qj bw_ hb); clear a2; clear b4; clear HB; have g6 := n0_; have g7 := n1_; have g8 := n2_; have a2 := n3_; have b4 := n4_; have HB := n5_; clear n0_ n1_ n2_ n3_ n4_ n5_; (try clear hb); (try clear hb2); (try clear hk); (try clear hi); (try clear ho0); (try clear ho1); (try clear ho2)))
       go_roundg k1
       case measure => have := HK1.out; omega
       case rel => exact ⟨(wrap64 (d6 + 1)), (wrap64 (a0 + 1)), sm_, sm_, H', ⟨by have := HK1.out; omega⟩, ⟨by (with_reducible repeat (first | refine Qn ?_ _ | refine Qp ?_ | refine Ql ?_ _)); exact a2.out⟩, ⟨bw_⟩⟩
      ·rw [if_neg c8] at H
       have h0 : (d4 == 4) = false := beq_eq_false_iff_ne.mpr c8; have h2 : (d4 != 4) = true := bne_iff_ne.mpr c8; have H' := Qa.mk H; clear H; have d7 : 0 ≤ (a0 : Int) := of_decide_eq_true Zx; have d8 : a0 < (l1.length : Int) := of_decide_eq_true Zx; obtain ⟨g4, e2, b5, b6, b7, b8, b9, d0, d3⟩ := Qek HR1.out a0 d7 d8
       cases e2; replace b5 := Qg HB.out b5; replace b6 := Qg HB.out b6; replace b7 := Qg HB.out b7; replace b8 := Qg HB.out b8; replace b9 := Qg HB.out b9; replace d0 := Qg HB.out d0; replace d3 := Qg HB.out d3; replace d7 := eq_true d7; replace d8 := eq_true d8; go_wp2_with (first | ((with_reducible refine Zd (N := 7) rfl ?_); refine Zc ?hg (N := 7) ?hd (cs := #[.bool false, .int .i64 0, .int .i64 0, .int .i64 0, .int .i64 0, .int .i64 0, .int .i64 0]) (t := 78) ?hr ?_; (case hd => rfl); (case hg => rfl); (case hr => first | (go_simp; done) | (go_simp; rfl)); intro b3 hg w14 hbox hb; have n0_ := Qa.mk (Qq (g := a6) (o := .cells #[.slice a7 a3.length a8, .slice a9 a4.length b0, .slice b1 a5.length b2] 112 (0, 0)) (bk_ a2.out) hb); have n1_ := Qa.mk (Qj bw_ hb); have n2_ := Qa.mk (hbox); have n3_ := Qa.mk ((gw_ hg : w.heap.size ≤ b3)); have n4_ := Qa.mk ((gw_ hg : w.heap.size ≤ b3)); have n5_ := Qa.mk ((by rw [hg]; exact Nat.ne_of_lt (Zu (g := a6) (o := .cells #[.slice a7 a3.length a8, .slice a9 a4.length b0, .slice b1 a5.length b2] 112 (0, 0)) (bk_ a2.out)) : a6 ≠ b3)); have n6_ := Qa.mk ((by rw [hg]; exact Nat.ne_of_gt (Zu (g := a6) (o := .cells #[.slice a7 a3.length a8, .slice a9 a4.length b0, .slice b1 a5.length b2] 112 (0, 0)) (bk_ a2.out)) : b3 ≠ a6)); clear a2; clear HB; have a2 := n0_; have HB := n1_; have b4 := n2_; have g5 := n3_; have GE103 := n4_; have a1 := n5_; have d5 := n6_; clear n0_ n1_ n2_ n3_ n4_ n5_ n6_; clear hb hbox hg; have n5 := d5.out; have n6 := a1.out; obtain ⟨k9, l3, l4, l5, l6, l7, l8⟩ := Qbv b4.out; obtain ⟨l9, m0, m1, m2, m3, m4, m5⟩ := Qdx b4.out; obtain ⟨m6, m7, m8⟩ := Kj a2.out; obtain ⟨m9, n0, n1⟩ := Qll a2.out) | ((with_reducible refine Xo (f := 120) rfl ?_); refine Vb (some 16) rfl rfl Try.func120 (by kernel_rfl) rfl #[.agg #[.slice a7 a3.length a8, .slice a9 a4.length b0, .slice b1 a5.length b2], .agg #[.bool ((Xm l1 a0).f0), .int .i64 ((Xm l1 a0).f1.f0), .int .i64 ((Xm l1 a0).f1.f1), .int .i64 ((Xm l1 a0).f2.f0), .int .i64 ((Xm l1 a0).f2.f1), .int .i64 ((Xm l1 a0).f3.f0), .int .i64 ((Xm l1 a0).f3.f1)]] rfl (by (try simp only [List.map_toArray, List.map_cons, List.map_nil]); first | done | rfl | (simp only [List.length_drop, List.length_take]; rfl)) ?_; (with_reducible refine (Xn.calls k1 _ _ a3 _ _ a4 _ _ a5 ((Xm l1 a0).f0) ((Xm l1 a0).f1.f0) ((Xm l1 a0).f1.f1) ((Xm l1 a0).f2.f0) ((Xm l1 a0).f2.f1) ((Xm l1 a0).f3.f0) ((Xm l1 a0).f3.f1) e9 f4 f5 f6 f7 f8 f9 g0 g1 g2 d4 _ ?side1 ?side2 ?side3 ?side4 ?side5 ?side6 A7.out).mono ?_); (case side1 => exact Kd.C_below e3.out bw_); (case side2 => exact e4.out); (case side3 => exact Kd.C_below e5.out bw_); (case side4 => exact e6.out); (case side5 => exact Kd.C_below e7.out bw_); (case side6 => exact e8.out); rintro e w18 ⟨h3, h4, h5, rfl, ho0, ho1, ho2, hb⟩; refine ⟨_, rfl, ?_⟩; have n0_ := Qa.mk (Kd.R_lower ho0 (Qo bw_)); have n1_ := Qa.mk (Kd.R_lower ho1 (Qo bw_)); have n2_ := Qa.mk (Kd.R_lower ho2 (Qo bw_)); have n3_ := Qa.mk (Qq (g := a6) (o := .cells #[.slice a7 a3.length a8, .slice a9 a4.length b0, .slice b1 a5.length b2] 112 (0, 0)) (by (with_reducible repeat (first | refine Qn ?_ _ | refine Qp ?_ | refine Ql ?_ _)); refine Yt ?_ a1.out _; (with_reducible repeat (first | refine Qn ?_ _ | refine Qp ?_ | refine Ql ?_ _)); refine Yt ?_ a1.out _; (with_reducible repeat (first | refine Qn ?_ _ | refine Qp ?_ | refine Ql ?_ _)); refine Yt ?_ a1.out _; (with_reducible repeat (first | refine Qn ?_ _ | refine Qp ?_ | refine Ql ?_ _)); refine Yt ?_ a1.out _; (with_reducible repeat (first | refine Qn ?_ _ | refine Qp ?_ | refine Ql ?_ _)); refine Yt ?_ a1.out _; (with_reducible repeat (first | refine Qn ?_ _ | refine Qp ?_ | refine Ql ?_ _)); refine Yt ?_ a1.out _; (with_reducible repeat (first | refine Qn ?_ _ | refine Qp ?_ | refine Ql ?_ _)); refine Yt ?_ a1.out _; (with_reducible repeat (first | refine Qn ?_ _ | refine Qp ?_ | refine Ql ?_ _)); exact a2.out) hb); have n4_ := Qa.mk (Qq (g := b3) (o := .cells #[.bool ((Xm l1 a0).f0), .int .i64 ((Xm l1 a0).f1.f0), .int .i64 ((Xm l1 a0).f1.f1), .int .i64 ((Xm l1 a0).f2.f0), .int .i64 ((Xm l1 a0).f2.f1), .int .i64 ((Xm l1 a0).f3.f0), .int .i64 ((Xm l1 a0).f3.f1)] 78 (0, 0)) (by (with_reducible repeat (first | refine Qn ?_ _ | refine Qp ?_ | refine Ql ?_ _)); refine Za (cs := #[.bool ((Xm l1 a0).f0), .int .i64 ((Xm l1 a0).f1.f0), .int .i64 ((Xm l1 a0).f1.f1), .int .i64 ((Xm l1 a0).f2.f0), .int .i64 ((Xm l1 a0).f2.f1), .int .i64 ((Xm l1 a0).f3.f0), .int .i64 0]) ?_ 6 _ rfl; (with_reducible repeat (first | refine Qn ?_ _ | refine Qp ?_ | refine Ql ?_ _)); refine Za (cs := #[.bool ((Xm l1 a0).f0), .int .i64 ((Xm l1 a0).f1.f0), .int .i64 ((Xm l1 a0).f1.f1), .int .i64 ((Xm l1 a0).f2.f0), .int .i64 ((Xm l1 a0).f2.f1), .int .i64 0, .int .i64 0]) ?_ 5 _ rfl; (with_reducible repeat (first | refine Qn ?_ _ | refine Qp ?_ | refine Ql ?_ _)); refine Za (cs := #[.bool ((Xm l1 a0).f0), .int .i64 ((Xm l1 a0).f1.f0), .int .i64 ((Xm l1 a0).f1.f1), .int .i64 ((Xm l1 a0).f2.f0), .int .i64 0, .int .i64 0, .int .i64 0]) ?_ 4 _ rfl; (with_reducible repeat (first | refine Qn ?_ _ | refine Qp ?_ | refine Ql ?_ _)); refine Za (cs := #[.bool ((Xm l1 a0).f0), .int .i64 ((Xm l1 a0).f1.f0), .int .i64 ((Xm l1 a0).f1.f1), .int .i64 0, .int .i64 0, .int .i64 0, .int .i64 0]) ?_ 3 _ rfl; (with_reducible repeat (first | refine Qn ?_ _ | refine Qp ?_ | refine Ql ?_ _)); refine Za (cs := #[.bool ((Xm l1 a0).f0), .int .i64 ((Xm l1 a0).f1.f0), .int .i64 0, .int .i64 0, .int .i64 0, .int .i64 0, .int .i64 0]) ?_ 2 _ rfl; (with_reducible repeat (first | refine Qn ?_ _ | refine Qp ?_ | refine Ql ?_ _)); refine Za (cs := #[.bool ((Xm l1 a0).f0), .int .i64 0, .int .i64 0, .int .i64 0, .int .i64 0, .int .i64 0, .int .i64 0]) ?_ 1 _ rfl; (with_reducible repeat (first | refine Qn ?_ _ | refine Qp ?_ | refine Ql ?_ _)); refine Za (cs := #[.bool false, .int .i64 0, .int .i64 0, .int .i64 0, .int .i64 0, .int .i64 0, .int .i64 0]) ?_ 0 _ rfl; (with_reducible repeat (first | refine Qn ?_ _ | refine Qp ?_ | refine Ql ?_ _)); exact b4.out) hb); have n5_ := Qa.mk (Qj bw_ hb); clear a2; clear b4; clear HB; have g6 := n0_; have g7 := n1_; have g8 := n2_; have a2 := n3_; have b4 := n4_; have HB := n5_; clear n0_ n1_ n2_ n3_ n4_ n5_; (try clear hb); (try clear hb2); (try clear hk); (try clear hi); (try clear ho0); (try clear ho1); (try clear ho2)))
       go_roundg k1
       case measure => have := HK1.out; omega
       case rel => exact ⟨(d6), (wrap64 (a0 + 1)), sm_, sm_, H', ⟨by have := HK1.out; omega⟩, ⟨by (with_reducible repeat (first | refine Qn ?_ _ | refine Qp ?_ | refine Ql ?_ _)); exact a2.out⟩, ⟨bw_⟩⟩
     ·rw [if_neg c6] at H
      exact absurd H (by simp)
    ·rw [if_neg c5] at H
     exact absurd H (by simp)
   ·rw [if_neg c4] at H
    have g9 : decide (a0 < (l1.length : Int)) = false := decide_eq_false c4; clear c4; obtain rfl := Option.some.inj H
    go_wp2
    go_ret; exact ⟨by first | rfl | (simp [Qt, Qu] <;> rfl) | (simp [*, Qt, Qu] <;> rfl), bw_⟩
end Go.Proofs.Ytadafplbgophfaa.PA
end
section
namespace Go.Proofs.Ytadafplbgophfaa.PA
open Go Go.RowKit Go.ChangeShapes Go.WideShapes
variable {H : Type} {enc : TypeId × Value → H} {P : Program} {w : World} {base : Nat} {spare : Nat → Bool} {held : Bool}
theorem row_arr3s {r : Reach} {b0 : Nat} {t e : TypeId} {v : Value} {d : DataW H} {ps : List MemPlace} (ht : P.underlying t = some (.array 3 e)) (he : P.underlying e = some .string) (hce : P.cellsOf e = 1) (hct : P.cellsOf t = 3)
  (hval : Value.okWide P w r b0 t v) (h : DataW.Trod enc P w base spare held t v d ps) : ∃ a b c : ByteArray, v = .agg #[.string a, .string b, .string c] := by
 simp only [Value.okWide, ht] at hval
 obtain ⟨cs, rfl, h2, _⟩ := hval
 rw [hct] at h2
 obtain ⟨l⟩ := cs
 match l, h2 with
 | [c0, c1, c2], _ =>
  obtain ⟨fuel, hf⟩ := h; obtain ⟨y0, y1, y2, n, _, g0, g1, g2⟩ := trod_array3 ht hce (show DataW.trod enc P w base spare held fuel t [c0, c1, c2] = some _ from hf); obtain ⟨a, e0, _, _⟩ := DataW.trod_string he g0; obtain ⟨b, e1, _, _⟩ := DataW.trod_string he g1; obtain ⟨c, e2, _, _⟩ := DataW.trod_string he g2
  simp only [List.cons.injEq, and_true] at e0 e1 e2
  subst e0 e1 e2; exact ⟨a, b, c, rfl⟩
end Go.Proofs.Ytadafplbgophfaa.PA
end
section
namespace Go.Proofs.Ytadafplbgophfaa.PA
open Go.ChangeShapes Go.WideShapes Go.Deep
open Go.RowKit Go.Proofs.YtadafplbgophfaaW.PrintWords Go.Proofs.YtadafplbgophfaaW.PrintLast Go.Proofs.YtadafplbgophfaaW.PrintMore
section
variable {H : Type} {enc : TypeId × Value → H} {w : World} {base : Nat} {held : Bool} {a : Option Addr} {len cap : Nat} {d : DataW H} {ps : List MemPlace}
theorem Qeg {n : Nat} {sp : Nat → Bool} {cs : List Value} {x : DataW H × List MemPlace} (h : DataW.trod enc Try.prog w base sp held n 9 cs = some x) (hz : ∀ m ∈ x.1.weights Try.prog 9, m ≤ reachBytes) : ∃ s : ByteArray, cs = [.string s] ∧ s.size ≤ reachBytes := by
 obtain ⟨s, e, hx, _⟩ := DataW.trod_string Try.underlying9 h; refine ⟨s, e, hz _ ?_⟩; rw [hx]
 simp [DataW.weights]
theorem Qkq {n : Nat} {sp : Nat → Bool} {cs : List Value} {x : DataW H × List MemPlace} (h : DataW.trod enc Try.prog w base sp held n 4 cs = some x) : ∃ b : Bool, cs = [.bool b] := by
 obtain ⟨b, e, _⟩ := DataW.trod_bool Try.underlying4 h; exact ⟨b, e⟩
end
section
variable {H : Type} {enc : TypeId × Value → H} {w : World} {base : Nat} {held : Bool} {d : DataW H} {ps : List MemPlace}
set_option maxRecDepth 100000 in
set_option maxHeartbeats 4000000 in
theorem row_part {r : Reach} {b0 : Nat} {v : Value} (hval : Value.okWide Try.prog w r b0 123 v) (h : DataW.Trod enc Try.prog w base (fun _ => true) held 123 v d ps) (hz : ∀ n ∈ d.weights Try.prog 123, n ≤ reachBytes) :
  ∃ p : Xi, v = .agg #[.string p.f0, .string p.f1, .string p.f2, .bool p.f3, .string p.f4, .string p.f5, .string p.f6, .string p.f7, .bool p.f8] ∧ p.f0.size ≤ reachBytes ∧ p.f1.size ≤ reachBytes ∧ p.f2.size ≤ reachBytes ∧ p.f4.size ≤ reachBytes ∧ p.f5.size ≤ reachBytes ∧ p.f6.size ≤ reachBytes ∧ p.f7.size ≤ reachBytes := by
 have ce : Try.prog.cellsOf 123 = 9 := by kernel_rfl
 have c9 : Try.prog.cellsOf 9 = 1 := by kernel_rfl
 have c4 : Try.prog.cellsOf 4 = 1 := by kernel_rfl
 simp only [Value.okWide, Try.underlying123] at hval
 obtain ⟨cs, rfl, hl, _⟩ := hval
 rw [ce] at hl
 obtain ⟨l⟩ := cs
 match l, hl with
 | [v0, v1, v2, v3, v4, v5, v6, v7, v8], _ =>
  obtain ⟨fuel, hf⟩ := h; obtain ⟨xs, k', hk, hxy, _, hxl, hfs⟩ := DataW.trod_struct Try.underlying123 (show DataW.trod enc Try.prog w base (fun _ => true) held fuel 123 [v0, v1, v2, v3, v4, v5, v6, v7, v8] = some _ from hf)
  match xs, hxl with
  | [y0, y1, y2, y3, y4, y5, y6, y7, y8], _ =>
   have g0 := hfs 0 _ rfl; have g1 := hfs 1 _ rfl; have g2 := hfs 2 _ rfl; have g3 := hfs 3 _ rfl; have g4 := hfs 4 _ rfl; have g5 := hfs 5 _ rfl; have g6 := hfs 6 _ rfl; have g7 := hfs 7 _ rfl; have g8 := hfs 8 _ rfl
   simp [c9, c4] at g0 g1 g2 g3 g4 g5 g6 g7 g8
   simp only [Prod.mk.injEq] at hxy
   rw [hxy.1] at hz
   simp only [DataW.weights, Try.underlying123, List.map_cons, List.map_nil, DataW.weightsEach, List.mem_append] at hz
   obtain ⟨s0, e0, b0⟩ := Qeg g0 (fun q hq => hz q (by simp [hq])); obtain ⟨s1, e1, b1⟩ := Qeg g1 (fun q hq => hz q (by simp [hq])); obtain ⟨s2, e2, b2⟩ := Qeg g2 (fun q hq => hz q (by simp [hq])); obtain ⟨s3, e3⟩ := Qkq g3; obtain ⟨s4, e4, b4⟩ := Qeg g4 (fun q hq => hz q (by simp [hq])); obtain ⟨s5, e5, b5⟩ := Qeg g5 (fun q hq => hz q (by simp [hq])); obtain ⟨s6, e6, b6⟩ := Qeg g6 (fun q hq => hz q (by simp [hq])); obtain ⟨s7, e7, b7⟩ := Qeg g7 (fun q hq => hz q (by simp [hq])); obtain ⟨s8, e8⟩ := Qkq g8
   simp only [List.cons.injEq, and_true] at e0 e1 e2 e3 e4 e5 e6 e7 e8
   subst e0 e1 e2 e3 e4 e5 e6 e7 e8; exact ⟨⟨s0, s1, s2, s3, s4, s5, s6, s7, s8⟩, rfl, b0, b1, b2, b4, b5, b6, b7⟩
end
end Go.Proofs.Ytadafplbgophfaa.PA
end
