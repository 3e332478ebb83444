/- Part 5 of what the row of the law BuildFavours rests on: walks of functions, and plain lemmas (in part printed by the kit's print, what is not reached left out). -/
import Derived.Test.YtadafplbgophfaabuildFavours4
import Derived.Laws.IdiomArrays
import Derived.WideShapes
import Derived.ChangeShapes
section
namespace Go.Proofs.Ytadafplbgophfaa.PA
open Go.RowKit Go.Proofs.YtadafplbgophfaaW.PrintWords Go.Proofs.YtadafplbgophfaaW.PrintLast Go.Proofs.YtadafplbgophfaaW.PrintMore
attribute [local go_sem] max2_int min2_int max_two min_two max_three min_three max_four min_four   -- for this text's walks alone
set_option linter.unusedVariables false
set_option linter.unusedSimpArgs false
def J24_.f (l0_0 : List ByteArray) (l0_1 : List ByteArray) (l0_2 : List ByteArray) : Option (List ByteArray × List ByteArray × List ByteArray) := (some (([] : List ByteArray) : List ByteArray)).bind fun y103 => (if y103.length + l0_0.length < 8796093022208 then ((some (([] : List ByteArray) : List ByteArray)).bind fun y109 => (if y109.length + l0_1.length < 8796093022208 then ((some (([] : List ByteArray) : List ByteArray)).bind fun y115 => (if y115.length + l0_2.length < 8796093022208 then (some ((y103 ++ l0_0), (y109 ++ l0_1), (y115 ++ l0_2))) else (none))) else (none))) else (none))
def J24_.T1 : Bool × List (List Nat × List Nat) := (true, [([], []), ([], []), ([1], [1]), ([0, 2], [0, 2]), ([], []), ([], []), ([5], [5]), ([4, 6, 3], [4, 6]), ([], []), ([], []), ([9], [9]), ([8, 10, 7], [8, 10]), ([3, 7, 11], [3, 7, 11]), ([12, 11, 0, 1, 2, 3, 4, 5, 6, 7, 8, 9, 10, 11, 12], [12])])
def J24_.B1 : List Nat := [0, 0, 2, 7, 0, 0, 32, 127, 0, 0, 512, 2047, 4095, 8191]
theorem J24_.tab1 : rtab .any (opsOf Try.f74 1) = J24_.T1 := by kernel_rfl
theorem J24_.bits1 : waitsOk J24_.T1.2 J24_.B1 = true := by kernel_rfl
set_option maxHeartbeats 8000000 in
set_option maxRecDepth 100000 in
theorem J24_.calls (A0_0 : Option Addr) (c0_0 : Nat) (l0_0 : List ByteArray) (A0_1 : Option Addr) (c0_1 : Nat) (l0_1 : List ByteArray) (A0_2 : Option Addr) (c0_2 : Nat) (l0_2 : List ByteArray) (r1 : List ByteArray) (r2 : List ByteArray) (r3 : List ByteArray) (w : World) (hr0_0 : Kd.C Kd.string w A0_0 l0_0.length l0_0) (hc0_0 : l0_0.length ≤ c0_0) (hr0_1 : Kd.C Kd.string w A0_1 l0_1.length l0_1) (hc0_1 : l0_1.length ≤ c0_1) (hr0_2 : Kd.C Kd.string w A0_2 l0_2.length l0_2) (hc0_2 : l0_2.length ≤ c0_2) (h : J24_.f l0_0 l0_1 l0_2 = some (r1, r2, r3)) :
  Calls Try.prog 74 #[.agg #[.slice A0_0 l0_0.length c0_0, .slice A0_1 l0_1.length c0_1, .slice A0_2 l0_2.length c0_2]] w fun e w' => ∃ v0_ v1_ v2_ : Value, e = .returned (.agg #[v0_, v1_, v2_]) ∧ Kd.R Kd.string 9 w' w.heap.size (fun k_ => some k_ ≠ (v1_ : Value).ownBlock ∧ some k_ ≠ (v2_ : Value).ownBlock) v0_ r1 ∧ Kd.R Kd.string 9 w' w.heap.size (fun k_ => some k_ ≠ (v0_ : Value).ownBlock ∧ some k_ ≠ (v2_ : Value).ownBlock) v1_ r2 ∧ Kd.R Kd.string 9 w' w.heap.size (fun k_ => some k_ ≠ (v0_ : Value).ownBlock ∧ some k_ ≠ (v1_ : Value).ownBlock) v2_ r3 ∧ Below w.heap.size w w' := by
 have hu107 := Try.underlying107
 have hu112 := Try.underlying112
 have HR0_0 := Ja38_.mk hr0_0
 have HC0_0 := Ja38_.mk hc0_0
 clear hr0_0 hc0_0
 have HR0_1 := Ja38_.mk hr0_1
 have HC0_1 := Ja38_.mk hc0_1
 clear hr0_1 hc0_1
 have HR0_2 := Ja38_.mk hr0_2
 have HC0_2 := Ja38_.mk hc0_2
 clear hr0_2 hc0_2
 have HB := Ja38_.mk (Below.refl w.heap.size w)
 have H : ((some (([] : List ByteArray) : List ByteArray)).bind fun y103 => (if y103.length + l0_0.length < 8796093022208 then ((some (([] : List ByteArray) : List ByteArray)).bind fun y109 => (if y109.length + l0_1.length < 8796093022208 then ((some (([] : List ByteArray) : List ByteArray)).bind fun y115 => (if y115.length + l0_2.length < 8796093022208 then (some ((y103 ++ l0_0), (y109 ++ l0_1), (y115 ++ l0_2))) else (none))) else (none))) else (none))) = some (r1, r2, r3) := h
 clear h
 obtain ⟨y103, hy103⟩ : ∃ y_ : List ByteArray, y_ = (([] : List ByteArray)) := ⟨_, rfl⟩
 replace H : (if y103.length + l0_0.length < 8796093022208 then ((some (([] : List ByteArray) : List ByteArray)).bind fun y109 => (if y109.length + l0_1.length < 8796093022208 then ((some (([] : List ByteArray) : List ByteArray)).bind fun y115 => (if y115.length + l0_2.length < 8796093022208 then (some ((y103 ++ l0_0), (y109 ++ l0_1), (y115 ++ l0_2))) else (none))) else (none))) else (none)) = some (r1, r2, r3) := by first | (rw [hy103]; with_reducible exact H) | (have H2_ := (Option.bind_some _ _).symm.trans H; rw [hy103]; with_reducible exact H2_) | (have H2_ := (Option.bind_some _ _).symm.trans H; with_reducible exact H2_) | with_reducible exact H | (rw [hy103]; exact H) | exact H
 have Ny103 := Ja38_.mk hy103
 clear hy103
 by_cases c2 : y103.length + l0_0.length < 8796093022208
 ·rw [if_pos c2] at H
  have LMc2 := Ja38_.mk c2
  clear c2
  obtain ⟨y106, hy106⟩ : ∃ y_ : List ByteArray, y_ = (y103 ++ l0_0) := ⟨_, rfl⟩
  replace H : ((some (([] : List ByteArray) : List ByteArray)).bind fun y109 => (if y109.length + l0_1.length < 8796093022208 then ((some (([] : List ByteArray) : List ByteArray)).bind fun y115 => (if y115.length + l0_2.length < 8796093022208 then (some (y106, (y109 ++ l0_1), (y115 ++ l0_2))) else (none))) else (none))) = some (r1, r2, r3) := by first | (rw [hy106]; with_reducible exact H) | (have H2_ := (Option.bind_some _ _).symm.trans H; rw [hy106]; with_reducible exact H2_) | (have H2_ := (Option.bind_some _ _).symm.trans H; with_reducible exact H2_) | with_reducible exact H | (rw [hy106]; exact H) | exact H
  have Ny106 := Ja38_.mk hy106
  clear hy106
  obtain ⟨y109, hy109⟩ : ∃ y_ : List ByteArray, y_ = (([] : List ByteArray)) := ⟨_, rfl⟩
  replace H : (if y109.length + l0_1.length < 8796093022208 then ((some (([] : List ByteArray) : List ByteArray)).bind fun y115 => (if y115.length + l0_2.length < 8796093022208 then (some (y106, (y109 ++ l0_1), (y115 ++ l0_2))) else (none))) else (none)) = some (r1, r2, r3) := by first | (rw [hy109]; with_reducible exact H) | (have H2_ := (Option.bind_some _ _).symm.trans H; rw [hy109]; with_reducible exact H2_) | (have H2_ := (Option.bind_some _ _).symm.trans H; with_reducible exact H2_) | with_reducible exact H | (rw [hy109]; exact H) | exact H
  have Ny109 := Ja38_.mk hy109
  clear hy109
  by_cases c3 : y109.length + l0_1.length < 8796093022208
  ·rw [if_pos c3] at H
   have LMc3 := Ja38_.mk c3
   clear c3
   obtain ⟨y112, hy112⟩ : ∃ y_ : List ByteArray, y_ = (y109 ++ l0_1) := ⟨_, rfl⟩
   replace H : ((some (([] : List ByteArray) : List ByteArray)).bind fun y115 => (if y115.length + l0_2.length < 8796093022208 then (some (y106, y112, (y115 ++ l0_2))) else (none))) = some (r1, r2, r3) := by first | (rw [hy112]; with_reducible exact H) | (have H2_ := (Option.bind_some _ _).symm.trans H; rw [hy112]; with_reducible exact H2_) | (have H2_ := (Option.bind_some _ _).symm.trans H; with_reducible exact H2_) | with_reducible exact H | (rw [hy112]; exact H) | exact H
   have Ny112 := Ja38_.mk hy112
   clear hy112
   obtain ⟨y115, hy115⟩ : ∃ y_ : List ByteArray, y_ = (([] : List ByteArray)) := ⟨_, rfl⟩
   replace H : (if y115.length + l0_2.length < 8796093022208 then (some (y106, y112, (y115 ++ l0_2))) else (none)) = some (r1, r2, r3) := by first | (rw [hy115]; with_reducible exact H) | (have H2_ := (Option.bind_some _ _).symm.trans H; rw [hy115]; with_reducible exact H2_) | (have H2_ := (Option.bind_some _ _).symm.trans H; with_reducible exact H2_) | with_reducible exact H | (rw [hy115]; exact H) | exact H
   have Ny115 := Ja38_.mk hy115
   clear hy115
   by_cases c4 : y115.length + l0_2.length < 8796093022208
   ·rw [if_pos c4] at H
    have LMc4 := Ja38_.mk c4
    clear c4
    obtain ⟨y118, hy118⟩ : ∃ y_ : List ByteArray, y_ = (y115 ++ l0_2) := ⟨_, rfl⟩
    replace H : (some (y106, y112, y118)) = some (r1, r2, r3) := by first | (rw [hy118]; with_reducible exact H) | (have H2_ := (Option.bind_some _ _).symm.trans H; rw [hy118]; with_reducible exact H2_) | (have H2_ := (Option.bind_some _ _).symm.trans H; with_reducible exact H2_) | with_reducible exact H | (rw [hy118]; exact H) | exact H
    have Ny118 := Ja38_.mk hy118
    clear hy118
    simp only [Option.some.injEq, Prod.mk.injEq] at H
    obtain ⟨rfl, rfl, rfl⟩ := H
    go_enter Try.func74, Try.ntmps74
    try go_wp2_with (first | ((with_reducible refine gate_dst (N := 1) rfl ?_); refine box_event ?hg (N := 1) ?hd (cs := #[.slice A0_0 l0_0.length c0_0, .slice A0_1 l0_1.length c0_1, .slice A0_2 l0_2.length c0_2]) (t := 107) ?hr ?_; (case hd => rfl); (case hg => rfl); (case hr => first | (go_simp; done) | (go_simp; rfl)); intro gb101 hg w5 hbox hb; have n0_ := Ja38_.mk (Ja44_ (by repeat (first | (with_reducible first | exact HB.out | apply Ja43_ | apply Ja41_ | apply Ja42_) | exact HB.out)) hb); have n1_ := Ja38_.mk (hbox); have n2_ := Ja38_.mk ((by rw [hg]; exact (Ja45_ (by repeat (first | (with_reducible first | exact HB.out | apply Ja43_ | apply Ja41_ | apply Ja42_) | exact HB.out))) : w.heap.size ≤ gb101)); have n3_ := Ja38_.mk ((by rw [hg]; exact (Ja45_ (by repeat (first | (with_reducible first | exact HB.out | apply Ja43_ | apply Ja41_ | apply Ja42_) | exact HB.out))) : w.heap.size ≤ gb101)); clear HB; have HB := n0_; have BK101 := n1_; have GW101 := n2_; have GE101 := n3_; clear n0_ n1_ n2_ n3_; clear hb hbox hg) | ((with_reducible refine gate_dst (N := 2) rfl ?_); refine box_event ?hg (N := 2) ?hd (cs := #[.slice none 0 0, .slice none 0 0, .slice none 0 0]) (t := 112) ?hr ?_; (case hd => rfl); (case hg => rfl); (case hr => first | (go_simp; done) | (go_simp; rfl)); intro gb102 hg w6 hbox hb; have n0_ := Ja38_.mk (Ja47_ (g := gb101) (o := .cells #[.slice A0_0 l0_0.length c0_0, .slice A0_1 l0_1.length c0_1, .slice A0_2 l0_2.length c0_2] 107 (0, 0)) (by (with_reducible repeat (first | refine Ja50_ ?_ _ | refine Ja49_ ?_ | refine Ja48_ ?_ _)); exact BK101.out) hb); have n1_ := Ja38_.mk (Ja44_ (by repeat (first | (with_reducible first | exact HB.out | apply Ja43_ | apply Ja41_ | apply Ja42_ | refine Ja46_ ?_ GE101.out) | exact HB.out)) hb); have n2_ := Ja38_.mk (hbox); have n3_ := Ja38_.mk ((by rw [hg]; exact (Ja45_ (by repeat (first | (with_reducible first | exact HB.out | apply Ja43_ | apply Ja41_ | apply Ja42_ | refine Ja46_ ?_ GE101.out) | exact HB.out))) : w.heap.size ≤ gb102)); have n4_ := Ja38_.mk ((by rw [hg]; exact (Ja45_ (by repeat (first | (with_reducible first | exact HB.out | apply Ja43_ | apply Ja41_ | apply Ja42_ | refine Ja46_ ?_ GE101.out) | exact HB.out))) : w.heap.size ≤ gb102)); have n5_ := Ja38_.mk ((by rw [hg]; exact Nat.ne_of_lt (blk_lt (g := gb101) (o := .cells #[.slice A0_0 l0_0.length c0_0, .slice A0_1 l0_1.length c0_1, .slice A0_2 l0_2.length c0_2] 107 (0, 0)) (by (with_reducible repeat (first | refine Ja50_ ?_ _ | refine Ja49_ ?_ | refine Ja48_ ?_ _)); exact BK101.out)) : gb101 ≠ gb102)); have n6_ := Ja38_.mk ((by rw [hg]; exact Nat.ne_of_gt (blk_lt (g := gb101) (o := .cells #[.slice A0_0 l0_0.length c0_0, .slice A0_1 l0_1.length c0_1, .slice A0_2 l0_2.length c0_2] 107 (0, 0)) (by (with_reducible repeat (first | refine Ja50_ ?_ _ | refine Ja49_ ?_ | refine Ja48_ ?_ _)); exact BK101.out)) : gb102 ≠ gb101)); clear BK101; clear HB; have BK101 := n0_; have HB := n1_; have BK102 := n2_; have GW102 := n3_; have GE102 := n4_; have NB101_102 := n5_; have NB102_101 := n6_; clear n0_ n1_ n2_ n3_ n4_ n5_ n6_; clear hb hbox hg))
    have n0_ := Ja38_.mk (Ja49_ BK101.out)
    have n1_ := Ja38_.mk (Ja49_ BK102.out)
    have n2_ := Ja38_.mk (Ja42_ HB.out)
    clear BK101
    clear BK102
    clear HB
    have BK101 := n0_
    have BK102 := n1_
    have HB := n2_
    clear n0_ n1_ n2_
    refine start_ (n := 14) (S := fun w' => w'.cell? ⟨gb101, 0, none⟩ = some (.slice A0_0 l0_0.length c0_0) ∧ w'.cell? ⟨gb101, 1, none⟩ = some (.slice A0_1 l0_1.length c0_1) ∧ w'.cell? ⟨gb101, 2, none⟩ = some (.slice A0_2 l0_2.length c0_2)) (ds := []) (bz_ 14 0) (by kernel_rfl) rfl rfl ⟨(Ja39_ BK101.out 0).trans rfl, (Ja39_ BK101.out 1).trans rfl, (Ja39_ BK101.out 2).trans rfl⟩ (fun hHeld => ?_); refine with_tabW J24_.tab1 J24_.bits1 (fun HT_ HW_ => ?_)
    generalize w6.drew = w7 at BK101 BK102 HB hHeld ⊢
    refine pure_ (i := 1) (N := some 4) (v := ?_) (a' := ?_) (bz_ 14 2) rfl rfl (any_of HT_.out (by kernel_rfl)) (fun _ _ _ h => h) (Or.inl ⟨by rfl, ?_⟩) ?_ ?_
    rotate_left
    ·intro w'
     go_simp
     with_reducible rfl
    rotate_left
    ·simp only [Act.put, sA_, sB_, sC_, i64_w, i32_w]
     rfl
    refine pure_ (i := 5) (N := some 8) (v := ?_) (a' := ?_) (bz_ 14 34) rfl rfl (any_of HT_.out (by kernel_rfl)) (fun _ _ _ h => h) (Or.inl ⟨by rfl, ?_⟩) ?_ ?_
    rotate_left
    ·intro w'
     go_simp
     with_reducible rfl
    rotate_left
    ·simp only [Act.put, sA_, sB_, sC_, i64_w, i32_w]
     rfl
    refine pure_ (i := 9) (N := some 12) (v := ?_) (a' := ?_) (bz_ 14 546) rfl rfl (any_of HT_.out (by kernel_rfl)) (fun _ _ _ h => h) (Or.inl ⟨by rfl, ?_⟩) ?_ ?_
    rotate_left
    ·intro w'
     go_simp
     with_reducible rfl
    rotate_left
    ·simp only [Act.put, sA_, sB_, sC_, i64_w, i32_w]
     rfl
    refine take_ (i := 2) (N := some 5) (v := ?_) (a' := ?_) (bz_ 14 550) rfl rfl (Ja52_ HT_.out HW_.out (by kernel_rfl)) (fun _ _ _ h => h) (Or.inl ⟨by rfl, ?_⟩) hHeld ?_ ?_
    rotate_left
    ·rintro w' ⟨s0, s1, s2⟩
     go_simp
     with_reducible rfl
    rotate_left
    ·simp only [Act.put, sA_, sB_, sC_, i64_w, i32_w]
     rfl
    refine take_ (i := 6) (N := some 9) (v := ?_) (a' := ?_) (bz_ 14 614) rfl rfl (Ja52_ HT_.out HW_.out (by kernel_rfl)) (fun _ _ _ h => h) (Or.inl ⟨by rfl, ?_⟩) hHeld ?_ ?_
    rotate_left
    ·rintro w' ⟨s0, s1, s2⟩
     go_simp
     with_reducible rfl
    rotate_left
    ·simp only [Act.put, sA_, sB_, sC_, i64_w, i32_w]
     rfl
    refine take_ (i := 10) (N := some 13) (v := ?_) (a' := ?_) (bz_ 14 1638) rfl rfl (Ja52_ HT_.out HW_.out (by kernel_rfl)) (fun _ _ _ h => h) (Or.inl ⟨by rfl, ?_⟩) hHeld ?_ ?_
    rotate_left
    ·rintro w' ⟨s0, s1, s2⟩
     go_simp
     with_reducible rfl
    rotate_left
    ·simp only [Act.put, sA_, sB_, sC_, i64_w, i32_w]
     rfl
    refine join_ (σ := Value × Value × Value × Value × Value) 3 (bz_ 14 2047) (fun s_ => [(3, s_.1), (6, s_.2.1), (7, s_.2.2.1), (10, s_.2.2.2.1), (11, s_.2.2.2.2)]) (fun s_ w' => (w'.cell? ⟨gb101, 0, none⟩ = some (.slice A0_0 l0_0.length c0_0) ∧ w'.cell? ⟨gb101, 1, none⟩ = some (.slice A0_1 l0_1.length c0_1) ∧ w'.cell? ⟨gb101, 2, none⟩ = some (.slice A0_2 l0_2.length c0_2)) ∧ (Kd.R Kd.string 9 w' w.heap.size (fun k_ => some k_ ≠ (s_.2.2.2.1 : Value).ownBlock ∧ some k_ ≠ (s_.2.2.2.2 : Value).ownBlock) s_.2.1 y106) ∧ (Kd.R Kd.string 9 w' w.heap.size (fun k_ => some k_ ≠ (s_.2.1 : Value).ownBlock ∧ some k_ ≠ (s_.2.2.2.2 : Value).ownBlock) s_.2.2.2.1 y112) ∧ (Kd.R Kd.string 9 w' w.heap.size (fun k_ => some k_ ≠ (s_.2.1 : Value).ownBlock ∧ some k_ ≠ (s_.2.2.2.1 : Value).ownBlock) s_.2.2.2.2 y115) ∧ (w'.heap[gb101]? = some (.cells #[.slice A0_0 l0_0.length c0_0, .slice A0_1 l0_1.length c0_1, .slice A0_2 l0_2.length c0_2] 107 (0, 0))) ∧ (w'.heap[gb102]? = some (.cells #[.slice none 0 0, .slice none 0 0, .slice none 0 0] 112 (0, 0))) ∧ (Below w.heap.size w w')) ?_ ?_
    rotate_left
    ·intro hJ0_3_4_7_8
     refine join_ (σ := Value × Value × Value × Value) 4 (bz_ 14 1791) (fun s_ => [(3, s_.1), (6, s_.2.1), (7, s_.2.2.1), (10, s_.2.2.2)]) (fun s_ w' => (w'.cell? ⟨gb101, 0, none⟩ = some (.slice A0_0 l0_0.length c0_0) ∧ w'.cell? ⟨gb101, 1, none⟩ = some (.slice A0_1 l0_1.length c0_1) ∧ w'.cell? ⟨gb101, 2, none⟩ = some (.slice A0_2 l0_2.length c0_2)) ∧ (Kd.R Kd.string 9 w' w.heap.size (fun k_ => some k_ ≠ (s_.2.2.2 : Value).ownBlock) s_.2.1 y106) ∧ (Kd.R Kd.string 9 w' w.heap.size (fun k_ => some k_ ≠ (s_.2.1 : Value).ownBlock) s_.2.2.2 y112) ∧ (w'.heap[gb101]? = some (.cells #[.slice A0_0 l0_0.length c0_0, .slice A0_1 l0_1.length c0_1, .slice A0_2 l0_2.length c0_2] 107 (0, 0))) ∧ (w'.heap[gb102]? = some (.cells #[.slice none 0 0, .slice none 0 0, .slice none 0 0] 112 (0, 0))) ∧ (Below w.heap.size w w')) ?_ ?_
     rotate_left
     ·intro hJ0_3_4_7
      refine join_ (σ := Value × Value × Value × Value) 4 (bz_ 14 1919) (fun s_ => [(3, s_.1), (6, s_.2.1), (7, s_.2.2.1), (11, s_.2.2.2)]) (fun s_ w' => (w'.cell? ⟨gb101, 0, none⟩ = some (.slice A0_0 l0_0.length c0_0) ∧ w'.cell? ⟨gb101, 1, none⟩ = some (.slice A0_1 l0_1.length c0_1) ∧ w'.cell? ⟨gb101, 2, none⟩ = some (.slice A0_2 l0_2.length c0_2)) ∧ (Kd.R Kd.string 9 w' w.heap.size (fun k_ => some k_ ≠ (s_.2.2.1 : Value).ownBlock ∧ some k_ ≠ (s_.2.2.2 : Value).ownBlock) s_.2.1 y106) ∧ (Kd.R Kd.string 9 w' w.heap.size (fun k_ => some k_ ≠ (s_.2.1 : Value).ownBlock ∧ some k_ ≠ (s_.2.2.2 : Value).ownBlock) s_.2.2.1 y109) ∧ (Kd.R Kd.string 9 w' w.heap.size (fun k_ => some k_ ≠ (s_.2.1 : Value).ownBlock ∧ some k_ ≠ (s_.2.2.1 : Value).ownBlock) s_.2.2.2 y115) ∧ (w'.heap[gb101]? = some (.cells #[.slice A0_0 l0_0.length c0_0, .slice A0_1 l0_1.length c0_1, .slice A0_2 l0_2.length c0_2] 107 (0, 0))) ∧ (w'.heap[gb102]? = some (.cells #[.slice none 0 0, .slice none 0 0, .slice none 0 0] 112 (0, 0))) ∧ (Below w.heap.size w w')) ?_ ?_
      rotate_left
      ·intro hJ0_3_4_8
       refine join_ (σ := Value × Value × Value) 5 (bz_ 14 1663) (fun s_ => [(3, s_.1), (6, s_.2.1), (7, s_.2.2)]) (fun s_ w' => (w'.cell? ⟨gb101, 0, none⟩ = some (.slice A0_0 l0_0.length c0_0) ∧ w'.cell? ⟨gb101, 1, none⟩ = some (.slice A0_1 l0_1.length c0_1) ∧ w'.cell? ⟨gb101, 2, none⟩ = some (.slice A0_2 l0_2.length c0_2)) ∧ (Kd.R Kd.string 9 w' w.heap.size (fun k_ => some k_ ≠ (s_.2.2 : Value).ownBlock) s_.2.1 y106) ∧ (Kd.R Kd.string 9 w' w.heap.size (fun k_ => some k_ ≠ (s_.2.1 : Value).ownBlock) s_.2.2 y109) ∧ (w'.heap[gb101]? = some (.cells #[.slice A0_0 l0_0.length c0_0, .slice A0_1 l0_1.length c0_1, .slice A0_2 l0_2.length c0_2] 107 (0, 0))) ∧ (w'.heap[gb102]? = some (.cells #[.slice none 0 0, .slice none 0 0, .slice none 0 0] 112 (0, 0))) ∧ (Below w.heap.size w w')) ?_ ?_
       rotate_left
       ·intro hJ0_3_4
        refine join_ (σ := Value × Value × Value) 5 (bz_ 14 1903) (fun s_ => [(3, s_.1), (6, s_.2.1), (11, s_.2.2)]) (fun s_ w' => (w'.cell? ⟨gb101, 0, none⟩ = some (.slice A0_0 l0_0.length c0_0) ∧ w'.cell? ⟨gb101, 1, none⟩ = some (.slice A0_1 l0_1.length c0_1) ∧ w'.cell? ⟨gb101, 2, none⟩ = some (.slice A0_2 l0_2.length c0_2)) ∧ (Kd.R Kd.string 9 w' w.heap.size (fun k_ => some k_ ≠ (s_.2.2 : Value).ownBlock) s_.2.1 y106) ∧ (Kd.R Kd.string 9 w' w.heap.size (fun k_ => some k_ ≠ (s_.2.1 : Value).ownBlock) s_.2.2 y115) ∧ (w'.heap[gb101]? = some (.cells #[.slice A0_0 l0_0.length c0_0, .slice A0_1 l0_1.length c0_1, .slice A0_2 l0_2.length c0_2] 107 (0, 0))) ∧ (w'.heap[gb102]? = some (.cells #[.slice none 0 0, .slice none 0 0, .slice none 0 0] 112 (0, 0))) ∧ (Below w.heap.size w w')) ?_ ?_
        rotate_left
        ·intro hJ0_3_8
         refine join_ (σ := Value × Value × Value) 5 (bz_ 14 1911) (fun s_ => [(3, s_.1), (7, s_.2.1), (11, s_.2.2)]) (fun s_ w' => (w'.cell? ⟨gb101, 0, none⟩ = some (.slice A0_0 l0_0.length c0_0) ∧ w'.cell? ⟨gb101, 1, none⟩ = some (.slice A0_1 l0_1.length c0_1) ∧ w'.cell? ⟨gb101, 2, none⟩ = some (.slice A0_2 l0_2.length c0_2)) ∧ (Kd.R Kd.string 9 w' w.heap.size (fun k_ => some k_ ≠ (s_.2.1 : Value).ownBlock ∧ some k_ ≠ (s_.2.2 : Value).ownBlock) s_.1 y103) ∧ (Kd.R Kd.string 9 w' w.heap.size (fun k_ => some k_ ≠ (s_.1 : Value).ownBlock ∧ some k_ ≠ (s_.2.2 : Value).ownBlock) s_.2.1 y109) ∧ (Kd.R Kd.string 9 w' w.heap.size (fun k_ => some k_ ≠ (s_.1 : Value).ownBlock ∧ some k_ ≠ (s_.2.1 : Value).ownBlock) s_.2.2 y115) ∧ (w'.heap[gb101]? = some (.cells #[.slice A0_0 l0_0.length c0_0, .slice A0_1 l0_1.length c0_1, .slice A0_2 l0_2.length c0_2] 107 (0, 0))) ∧ (w'.heap[gb102]? = some (.cells #[.slice none 0 0, .slice none 0 0, .slice none 0 0] 112 (0, 0))) ∧ (Below w.heap.size w w')) ?_ ?_
         rotate_left
         ·intro hJ0_4_8
          refine join_ (σ := Value × Value) 6 (bz_ 14 1647) (fun s_ => [(3, s_.1), (6, s_.2)]) (fun s_ w' => (w'.cell? ⟨gb101, 0, none⟩ = some (.slice A0_0 l0_0.length c0_0) ∧ w'.cell? ⟨gb101, 1, none⟩ = some (.slice A0_1 l0_1.length c0_1) ∧ w'.cell? ⟨gb101, 2, none⟩ = some (.slice A0_2 l0_2.length c0_2)) ∧ (Kd.R Kd.string 9 w' w.heap.size (fun _ => True) s_.2 y106) ∧ (w'.heap[gb101]? = some (.cells #[.slice A0_0 l0_0.length c0_0, .slice A0_1 l0_1.length c0_1, .slice A0_2 l0_2.length c0_2] 107 (0, 0))) ∧ (w'.heap[gb102]? = some (.cells #[.slice none 0 0, .slice none 0 0, .slice none 0 0] 112 (0, 0))) ∧ (Below w.heap.size w w')) ?_ ?_
          rotate_left
          ·intro hJ0_3
           refine join_ (σ := Value × Value) 6 (bz_ 14 1655) (fun s_ => [(3, s_.1), (7, s_.2)]) (fun s_ w' => (w'.cell? ⟨gb101, 0, none⟩ = some (.slice A0_0 l0_0.length c0_0) ∧ w'.cell? ⟨gb101, 1, none⟩ = some (.slice A0_1 l0_1.length c0_1) ∧ w'.cell? ⟨gb101, 2, none⟩ = some (.slice A0_2 l0_2.length c0_2)) ∧ (Kd.R Kd.string 9 w' w.heap.size (fun k_ => some k_ ≠ (s_.2 : Value).ownBlock) s_.1 y103) ∧ (Kd.R Kd.string 9 w' w.heap.size (fun k_ => some k_ ≠ (s_.1 : Value).ownBlock) s_.2 y109) ∧ (w'.heap[gb101]? = some (.cells #[.slice A0_0 l0_0.length c0_0, .slice A0_1 l0_1.length c0_1, .slice A0_2 l0_2.length c0_2] 107 (0, 0))) ∧ (w'.heap[gb102]? = some (.cells #[.slice none 0 0, .slice none 0 0, .slice none 0 0] 112 (0, 0))) ∧ (Below w.heap.size w w')) ?_ ?_
           rotate_left
           ·intro hJ0_4
            refine join_ (σ := Value × Value) 6 (bz_ 14 1895) (fun s_ => [(3, s_.1), (11, s_.2)]) (fun s_ w' => (w'.cell? ⟨gb101, 0, none⟩ = some (.slice A0_0 l0_0.length c0_0) ∧ w'.cell? ⟨gb101, 1, none⟩ = some (.slice A0_1 l0_1.length c0_1) ∧ w'.cell? ⟨gb101, 2, none⟩ = some (.slice A0_2 l0_2.length c0_2)) ∧ (Kd.R Kd.string 9 w' w.heap.size (fun k_ => some k_ ≠ (s_.2 : Value).ownBlock) s_.1 y103) ∧ (Kd.R Kd.string 9 w' w.heap.size (fun k_ => some k_ ≠ (s_.1 : Value).ownBlock) s_.2 y115) ∧ (w'.heap[gb101]? = some (.cells #[.slice A0_0 l0_0.length c0_0, .slice A0_1 l0_1.length c0_1, .slice A0_2 l0_2.length c0_2] 107 (0, 0))) ∧ (w'.heap[gb102]? = some (.cells #[.slice none 0 0, .slice none 0 0, .slice none 0 0] 112 (0, 0))) ∧ (Below w.heap.size w w')) ?_ ?_
            rotate_left
            ·intro hJ0_8
             refine join_ (σ := Value × Value) 6 (bz_ 14 1910) (fun s_ => [(7, s_.1), (11, s_.2)]) (fun s_ w' => (w'.cell? ⟨gb101, 0, none⟩ = some (.slice A0_0 l0_0.length c0_0) ∧ w'.cell? ⟨gb101, 1, none⟩ = some (.slice A0_1 l0_1.length c0_1) ∧ w'.cell? ⟨gb101, 2, none⟩ = some (.slice A0_2 l0_2.length c0_2)) ∧ (Kd.R Kd.string 9 w' w.heap.size (fun k_ => some k_ ≠ (s_.2 : Value).ownBlock) s_.1 y109) ∧ (Kd.R Kd.string 9 w' w.heap.size (fun k_ => some k_ ≠ (s_.1 : Value).ownBlock) s_.2 y115) ∧ (w'.heap[gb101]? = some (.cells #[.slice A0_0 l0_0.length c0_0, .slice A0_1 l0_1.length c0_1, .slice A0_2 l0_2.length c0_2] 107 (0, 0))) ∧ (w'.heap[gb102]? = some (.cells #[.slice none 0 0, .slice none 0 0, .slice none 0 0] 112 (0, 0))) ∧ (Below w.heap.size w w')) ?_ ?_
             rotate_left
             ·intro hJ4_8
              refine join_ (σ := Value) 7 (bz_ 14 1639) (fun s_ => [(3, s_)]) (fun s_ w' => (w'.cell? ⟨gb101, 0, none⟩ = some (.slice A0_0 l0_0.length c0_0) ∧ w'.cell? ⟨gb101, 1, none⟩ = some (.slice A0_1 l0_1.length c0_1) ∧ w'.cell? ⟨gb101, 2, none⟩ = some (.slice A0_2 l0_2.length c0_2)) ∧ (Kd.R Kd.string 9 w' w.heap.size (fun _ => True) s_ y103) ∧ (w'.heap[gb101]? = some (.cells #[.slice A0_0 l0_0.length c0_0, .slice A0_1 l0_1.length c0_1, .slice A0_2 l0_2.length c0_2] 107 (0, 0))) ∧ (w'.heap[gb102]? = some (.cells #[.slice none 0 0, .slice none 0 0, .slice none 0 0] 112 (0, 0))) ∧ (Below w.heap.size w w')) ?_ ?_
              rotate_left
              ·intro hJ0
               refine join_ (σ := Value) 7 (bz_ 14 1654) (fun s_ => [(7, s_)]) (fun s_ w' => (w'.cell? ⟨gb101, 0, none⟩ = some (.slice A0_0 l0_0.length c0_0) ∧ w'.cell? ⟨gb101, 1, none⟩ = some (.slice A0_1 l0_1.length c0_1) ∧ w'.cell? ⟨gb101, 2, none⟩ = some (.slice A0_2 l0_2.length c0_2)) ∧ (Kd.R Kd.string 9 w' w.heap.size (fun _ => True) s_ y109) ∧ (w'.heap[gb101]? = some (.cells #[.slice A0_0 l0_0.length c0_0, .slice A0_1 l0_1.length c0_1, .slice A0_2 l0_2.length c0_2] 107 (0, 0))) ∧ (w'.heap[gb102]? = some (.cells #[.slice none 0 0, .slice none 0 0, .slice none 0 0] 112 (0, 0))) ∧ (Below w.heap.size w w')) ?_ ?_
               rotate_left
               ·intro hJ4
                refine join_ (σ := Value) 7 (bz_ 14 1894) (fun s_ => [(11, s_)]) (fun s_ w' => (w'.cell? ⟨gb101, 0, none⟩ = some (.slice A0_0 l0_0.length c0_0) ∧ w'.cell? ⟨gb101, 1, none⟩ = some (.slice A0_1 l0_1.length c0_1) ∧ w'.cell? ⟨gb101, 2, none⟩ = some (.slice A0_2 l0_2.length c0_2)) ∧ (Kd.R Kd.string 9 w' w.heap.size (fun _ => True) s_ y115) ∧ (w'.heap[gb101]? = some (.cells #[.slice A0_0 l0_0.length c0_0, .slice A0_1 l0_1.length c0_1, .slice A0_2 l0_2.length c0_2] 107 (0, 0))) ∧ (w'.heap[gb102]? = some (.cells #[.slice none 0 0, .slice none 0 0, .slice none 0 0] 112 (0, 0))) ∧ (Below w.heap.size w w')) ?_ ?_
                rotate_left
                ·intro hJ8
                 refine three_ (i := 0) (j := 4) (k := 8) (Ni := some 3) (Nj := some 7) (Nk := some 11) (bz_ 14 1639) (bz_ 14 1654) (bz_ 14 1894) rfl rfl rfl rfl rfl rfl (three_of HT_.out (by kernel_rfl)) (by decide) (by decide) (by decide) (fun K hK => ?_) (fun K hK => ?_) (fun K hK => ?_)
                 ·skip
                  refine Kd.R_lit_step Kd.string _ 9 ?hg (N := 3) ?hd (xs := ([] : List ByteArray)) (inner := []) (ok := fun _ => True) (okp := fun _ => True) ?hr ?hp (fun _ hk => hk) trivial (Below.refl _ _) (Nat.le_refl _) (by simp) ?_; (case hd => rfl); (case hg => rfl); (case hr => first | (go_simp; done) | (go_simp; rfl)); (case hp => exact (Reps.none _ _))
                  intro v104 w8 ho9 hb hg_ hnew_
                  clear hg_ hnew_
                  (first | rw [← Ny103.out] at ho9 | (simp only [Int.reduceToNat] at ho9; rw [← Ny103.out] at ho9))
                  have n0_ := Ja38_.mk (Kd.R_lower ho9 (Ja45_ (by repeat (first | (with_reducible first | exact HB.out | apply Ja43_ | apply Ja41_ | apply Ja42_ | refine Ja46_ ?_ GE101.out | refine Ja46_ ?_ GE102.out) | exact HB.out))))
                  have n1_ := Ja38_.mk (Ja47_ (g := gb101) (o := .cells #[.slice A0_0 l0_0.length c0_0, .slice A0_1 l0_1.length c0_1, .slice A0_2 l0_2.length c0_2] 107 (0, 0)) (by (with_reducible repeat (first | refine Ja50_ ?_ _ | refine Ja49_ ?_ | refine Ja48_ ?_ _)); exact BK101.out) hb)
                  have n2_ := Ja38_.mk (Ja47_ (g := gb102) (o := .cells #[.slice none 0 0, .slice none 0 0, .slice none 0 0] 112 (0, 0)) (by (with_reducible repeat (first | refine Ja50_ ?_ _ | refine Ja49_ ?_ | refine Ja48_ ?_ _)); exact BK102.out) hb)
                  have n3_ := Ja38_.mk (Ja44_ (by repeat (first | (with_reducible first | exact HB.out | apply Ja43_ | apply Ja41_ | apply Ja42_ | refine Ja46_ ?_ GE101.out | refine Ja46_ ?_ GE102.out) | exact HB.out)) hb)
                  clear BK101
                  clear BK102
                  clear HB
                  have HO105 := n0_
                  have BK101 := n1_
                  have BK102 := n2_
                  have HB := n3_
                  clear n0_ n1_ n2_ n3_
                  clear hb ho9
                  refine hK.out _ _ ⟨(Ja39_ BK101.out 0).trans rfl, (Ja39_ BK101.out 1).trans rfl, (Ja39_ BK101.out 2).trans rfl⟩ (fun hHeld => ?_)
                  clear hK K
                  refine norm_ (a' := ?_) ?_ ?_
                  rotate_left
                  ·show Act.put _ (some 3) _ = _
                   simp only [Act.put, sA_, sB_, sC_, i64_w, i32_w]
                   rfl
                  exact norm_ (by first | (simp only [putAll, Act.put, sA_, sB_, sC_]; done) | (simp only [putAll, Act.put, sA_, sB_, sC_]; rfl)) (hJ0 (v104) _ ⟨hHeld, (by (with_reducible repeat (first | apply Kd.R_alloc | apply Kd.R_drewN | apply Kd.R_drew)); exact HO105.out), (by (with_reducible repeat (first | refine Ja50_ ?_ _ | refine Ja49_ ?_ | refine Ja48_ ?_ _)); exact BK101.out), (by (with_reducible repeat (first | refine Ja50_ ?_ _ | refine Ja49_ ?_ | refine Ja48_ ?_ _)); exact BK102.out), (by repeat (first | (with_reducible first | exact HB.out | apply Ja43_ | apply Ja41_ | apply Ja42_ | refine Ja46_ ?_ GE101.out | refine Ja46_ ?_ GE102.out) | exact HB.out))⟩)
                 ·skip
                  refine Kd.R_lit_step Kd.string _ 9 ?hg (N := 7) ?hd (xs := ([] : List ByteArray)) (inner := []) (ok := fun _ => True) (okp := fun _ => True) ?hr ?hp (fun _ hk => hk) trivial (Below.refl _ _) (Nat.le_refl _) (by simp) ?_; (case hd => rfl); (case hg => rfl); (case hr => first | (go_simp; done) | (go_simp; rfl)); (case hp => exact (Reps.none _ _))
                  intro v110 w8 ho9 hb hg_ hnew_
                  clear hg_ hnew_
                  (first | rw [← Ny109.out] at ho9 | (simp only [Int.reduceToNat] at ho9; rw [← Ny109.out] at ho9))
                  have n0_ := Ja38_.mk (Kd.R_lower ho9 (Ja45_ (by repeat (first | (with_reducible first | exact HB.out | apply Ja43_ | apply Ja41_ | apply Ja42_ | refine Ja46_ ?_ GE101.out | refine Ja46_ ?_ GE102.out) | exact HB.out))))
                  have n1_ := Ja38_.mk (Ja47_ (g := gb101) (o := .cells #[.slice A0_0 l0_0.length c0_0, .slice A0_1 l0_1.length c0_1, .slice A0_2 l0_2.length c0_2] 107 (0, 0)) (by (with_reducible repeat (first | refine Ja50_ ?_ _ | refine Ja49_ ?_ | refine Ja48_ ?_ _)); exact BK101.out) hb)
                  have n2_ := Ja38_.mk (Ja47_ (g := gb102) (o := .cells #[.slice none 0 0, .slice none 0 0, .slice none 0 0] 112 (0, 0)) (by (with_reducible repeat (first | refine Ja50_ ?_ _ | refine Ja49_ ?_ | refine Ja48_ ?_ _)); exact BK102.out) hb)
                  have n3_ := Ja38_.mk (Ja44_ (by repeat (first | (with_reducible first | exact HB.out | apply Ja43_ | apply Ja41_ | apply Ja42_ | refine Ja46_ ?_ GE101.out | refine Ja46_ ?_ GE102.out) | exact HB.out)) hb)
                  clear BK101
                  clear BK102
                  clear HB
                  have HO111 := n0_
                  have BK101 := n1_
                  have BK102 := n2_
                  have HB := n3_
                  clear n0_ n1_ n2_ n3_
                  clear hb ho9
                  refine hK.out _ _ ⟨(Ja39_ BK101.out 0).trans rfl, (Ja39_ BK101.out 1).trans rfl, (Ja39_ BK101.out 2).trans rfl⟩ (fun hHeld => ?_)
                  clear hK K
                  refine norm_ (a' := ?_) ?_ ?_
                  rotate_left
                  ·show Act.put _ (some 7) _ = _
                   simp only [Act.put, sA_, sB_, sC_, i64_w, i32_w]
                   rfl
                  exact norm_ (by first | (simp only [putAll, Act.put, sA_, sB_, sC_]; done) | (simp only [putAll, Act.put, sA_, sB_, sC_]; rfl)) (hJ4 (v110) _ ⟨hHeld, (by (with_reducible repeat (first | apply Kd.R_alloc | apply Kd.R_drewN | apply Kd.R_drew)); exact HO111.out), (by (with_reducible repeat (first | refine Ja50_ ?_ _ | refine Ja49_ ?_ | refine Ja48_ ?_ _)); exact BK101.out), (by (with_reducible repeat (first | refine Ja50_ ?_ _ | refine Ja49_ ?_ | refine Ja48_ ?_ _)); exact BK102.out), (by repeat (first | (with_reducible first | exact HB.out | apply Ja43_ | apply Ja41_ | apply Ja42_ | refine Ja46_ ?_ GE101.out | refine Ja46_ ?_ GE102.out) | exact HB.out))⟩)
                 ·skip
                  refine Kd.R_lit_step Kd.string _ 9 ?hg (N := 11) ?hd (xs := ([] : List ByteArray)) (inner := []) (ok := fun _ => True) (okp := fun _ => True) ?hr ?hp (fun _ hk => hk) trivial (Below.refl _ _) (Nat.le_refl _) (by simp) ?_; (case hd => rfl); (case hg => rfl); (case hr => first | (go_simp; done) | (go_simp; rfl)); (case hp => exact (Reps.none _ _))
                  intro v116 w8 ho9 hb hg_ hnew_
                  clear hg_ hnew_
                  (first | rw [← Ny115.out] at ho9 | (simp only [Int.reduceToNat] at ho9; rw [← Ny115.out] at ho9))
                  have n0_ := Ja38_.mk (Kd.R_lower ho9 (Ja45_ (by repeat (first | (with_reducible first | exact HB.out | apply Ja43_ | apply Ja41_ | apply Ja42_ | refine Ja46_ ?_ GE101.out | refine Ja46_ ?_ GE102.out) | exact HB.out))))
                  have n1_ := Ja38_.mk (Ja47_ (g := gb101) (o := .cells #[.slice A0_0 l0_0.length c0_0, .slice A0_1 l0_1.length c0_1, .slice A0_2 l0_2.length c0_2] 107 (0, 0)) (by (with_reducible repeat (first | refine Ja50_ ?_ _ | refine Ja49_ ?_ | refine Ja48_ ?_ _)); exact BK101.out) hb)
                  have n2_ := Ja38_.mk (Ja47_ (g := gb102) (o := .cells #[.slice none 0 0, .slice none 0 0, .slice none 0 0] 112 (0, 0)) (by (with_reducible repeat (first | refine Ja50_ ?_ _ | refine Ja49_ ?_ | refine Ja48_ ?_ _)); exact BK102.out) hb)
                  have n3_ := Ja38_.mk (Ja44_ (by repeat (first | (with_reducible first | exact HB.out | apply Ja43_ | apply Ja41_ | apply Ja42_ | refine Ja46_ ?_ GE101.out | refine Ja46_ ?_ GE102.out) | exact HB.out)) hb)
                  clear BK101
                  clear BK102
                  clear HB
                  have HO117 := n0_
                  have BK101 := n1_
                  have BK102 := n2_
                  have HB := n3_
                  clear n0_ n1_ n2_ n3_
                  clear hb ho9
                  refine hK.out _ _ ⟨(Ja39_ BK101.out 0).trans rfl, (Ja39_ BK101.out 1).trans rfl, (Ja39_ BK101.out 2).trans rfl⟩ (fun hHeld => ?_)
                  clear hK K
                  refine norm_ (a' := ?_) ?_ ?_
                  rotate_left
                  ·show Act.put _ (some 11) _ = _
                   simp only [Act.put, sA_, sB_, sC_, i64_w, i32_w]
                   rfl
                  exact norm_ (by first | (simp only [putAll, Act.put, sA_, sB_, sC_]; done) | (simp only [putAll, Act.put, sA_, sB_, sC_]; rfl)) (hJ8 (v116) _ ⟨hHeld, (by (with_reducible repeat (first | apply Kd.R_alloc | apply Kd.R_drewN | apply Kd.R_drew)); exact HO117.out), (by (with_reducible repeat (first | refine Ja50_ ?_ _ | refine Ja49_ ?_ | refine Ja48_ ?_ _)); exact BK101.out), (by (with_reducible repeat (first | refine Ja50_ ?_ _ | refine Ja49_ ?_ | refine Ja48_ ?_ _)); exact BK102.out), (by repeat (first | (with_reducible first | exact HB.out | apply Ja43_ | apply Ja41_ | apply Ja42_ | refine Ja46_ ?_ GE101.out | refine Ja46_ ?_ GE102.out) | exact HB.out))⟩)
                ·skip
                 rintro v116 w10 ⟨hS_, h0_, h1_, h2_, h3_⟩
                 have n0_ : Ja38_ (Kd.R Kd.string 9 w10 w.heap.size (fun _ => True) v116 y115) := ⟨h0_⟩
                 have n1_ : Ja38_ (w10.heap[gb101]? = some (.cells #[.slice A0_0 l0_0.length c0_0, .slice A0_1 l0_1.length c0_1, .slice A0_2 l0_2.length c0_2] 107 (0, 0))) := ⟨h1_⟩
                 have n2_ : Ja38_ (w10.heap[gb102]? = some (.cells #[.slice none 0 0, .slice none 0 0, .slice none 0 0] 112 (0, 0))) := ⟨h2_⟩
                 have n3_ : Ja38_ (Below w.heap.size w w10) := ⟨h3_⟩
                 clear BK101
                 clear BK102
                 clear HB
                 clear h0_ h1_ h2_ h3_
                 have HO117 := n0_
                 have BK101 := n1_
                 have BK102 := n2_
                 have HB := n3_
                 clear n0_ n1_ n2_ n3_
                 have hHeld : w10.cell? ⟨gb101, 0, none⟩ = some (.slice A0_0 l0_0.length c0_0) ∧ w10.cell? ⟨gb101, 1, none⟩ = some (.slice A0_1 l0_1.length c0_1) ∧ w10.cell? ⟨gb101, 2, none⟩ = some (.slice A0_2 l0_2.length c0_2) := hS_
                 refine norm_ (a' := ?_) ?_ ?_
                 rotate_left
                 ·simp only [putAll, Act.put, sA_, sB_, sC_]
                  rfl
                 refine two_ (i := 0) (j := 4) (Ni := some 3) (Nj := some 7) (bz_ 14 1895) (bz_ 14 1910) rfl rfl rfl rfl (two_of HT_.out (by kernel_rfl)) (by decide) (by decide) (fun K hK => ?_) (fun K hK => ?_)
                 ·skip
                  refine Kd.R_lit_step Kd.string _ 9 ?hg (N := 3) ?hd (xs := ([] : List ByteArray)) (inner := []) (ok := fun _ => True) (okp := fun _ => True) ?hr ?hp (fun _ hk => hk) trivial (Below.refl _ _) (Nat.le_refl _) (by simp) ?_; (case hd => rfl); (case hg => rfl); (case hr => first | (go_simp; done) | (go_simp; rfl)); (case hp => exact (Reps.none _ _))
                  intro v104 w11 ho12 hb hg_ hnew_
                  clear hg_ hnew_
                  (first | rw [← Ny103.out] at ho12 | (simp only [Int.reduceToNat] at ho12; rw [← Ny103.out] at ho12))
                  have n0_ := Ja38_.mk (Kd.R_elder' (by (with_reducible repeat (first | apply Kd.R_alloc | apply Kd.R_drewN | apply Kd.R_drew)); exact HO117.out) (Kd.R_base ho12) hb)
                  have n1_ := Ja38_.mk (Kd.R_lower (Kd.R_new' ho12 (Kd.R_lt (by (with_reducible repeat (first | apply Kd.R_alloc | apply Kd.R_drewN | apply Kd.R_drew)); exact HO117.out))) (Ja45_ (by repeat (first | (with_reducible first | exact HB.out | apply Ja43_ | apply Ja41_ | apply Ja42_ | refine Ja46_ ?_ GE101.out | refine Ja46_ ?_ GE102.out) | exact HB.out))))
                  have n2_ := Ja38_.mk (Ja47_ (g := gb101) (o := .cells #[.slice A0_0 l0_0.length c0_0, .slice A0_1 l0_1.length c0_1, .slice A0_2 l0_2.length c0_2] 107 (0, 0)) (by (with_reducible repeat (first | refine Ja50_ ?_ _ | refine Ja49_ ?_ | refine Ja48_ ?_ _)); exact BK101.out) hb)
                  have n3_ := Ja38_.mk (Ja47_ (g := gb102) (o := .cells #[.slice none 0 0, .slice none 0 0, .slice none 0 0] 112 (0, 0)) (by (with_reducible repeat (first | refine Ja50_ ?_ _ | refine Ja49_ ?_ | refine Ja48_ ?_ _)); exact BK102.out) hb)
                  have n4_ := Ja38_.mk (Ja44_ (by repeat (first | (with_reducible first | exact HB.out | apply Ja43_ | apply Ja41_ | apply Ja42_ | refine Ja46_ ?_ GE101.out | refine Ja46_ ?_ GE102.out) | exact HB.out)) hb)
                  clear HO117
                  clear BK101
                  clear BK102
                  clear HB
                  have HO117 := n0_
                  have HO105 := n1_
                  have BK101 := n2_
                  have BK102 := n3_
                  have HB := n4_
                  clear n0_ n1_ n2_ n3_ n4_
                  clear hb ho12
                  refine hK.out _ _ ⟨(Ja39_ BK101.out 0).trans rfl, (Ja39_ BK101.out 1).trans rfl, (Ja39_ BK101.out 2).trans rfl⟩ (fun hHeld => ?_)
                  clear hK K
                  refine norm_ (a' := ?_) ?_ ?_
                  rotate_left
                  ·show Act.put _ (some 3) _ = _
                   simp only [Act.put, sA_, sB_, sC_, i64_w, i32_w]
                   rfl
                  exact norm_ (by first | (simp only [putAll, Act.put, sA_, sB_, sC_]; done) | (simp only [putAll, Act.put, sA_, sB_, sC_]; rfl)) (hJ0_8 (v104, v116) _ ⟨hHeld, (by (with_reducible repeat (first | apply Kd.R_alloc | apply Kd.R_drewN | apply Kd.R_drew)); exact Kd.R_mono HO105.out (fun _ hk => hk.2)), (by (with_reducible repeat (first | apply Kd.R_alloc | apply Kd.R_drewN | apply Kd.R_drew)); exact Kd.R_mono HO117.out (fun _ hk => hk.2)), (by (with_reducible repeat (first | refine Ja50_ ?_ _ | refine Ja49_ ?_ | refine Ja48_ ?_ _)); exact BK101.out), (by (with_reducible repeat (first | refine Ja50_ ?_ _ | refine Ja49_ ?_ | refine Ja48_ ?_ _)); exact BK102.out), (by repeat (first | (with_reducible first | exact HB.out | apply Ja43_ | apply Ja41_ | apply Ja42_ | refine Ja46_ ?_ GE101.out | refine Ja46_ ?_ GE102.out) | exact HB.out))⟩)
                 ·skip
                  refine Kd.R_lit_step Kd.string _ 9 ?hg (N := 7) ?hd (xs := ([] : List ByteArray)) (inner := []) (ok := fun _ => True) (okp := fun _ => True) ?hr ?hp (fun _ hk => hk) trivial (Below.refl _ _) (Nat.le_refl _) (by simp) ?_; (case hd => rfl); (case hg => rfl); (case hr => first | (go_simp; done) | (go_simp; rfl)); (case hp => exact (Reps.none _ _))
                  intro v110 w11 ho12 hb hg_ hnew_
                  clear hg_ hnew_
                  (first | rw [← Ny109.out] at ho12 | (simp only [Int.reduceToNat] at ho12; rw [← Ny109.out] at ho12))
                  have n0_ := Ja38_.mk (Kd.R_elder' (by (with_reducible repeat (first | apply Kd.R_alloc | apply Kd.R_drewN | apply Kd.R_drew)); exact HO117.out) (Kd.R_base ho12) hb)
                  have n1_ := Ja38_.mk (Kd.R_lower (Kd.R_new' ho12 (Kd.R_lt (by (with_reducible repeat (first | apply Kd.R_alloc | apply Kd.R_drewN | apply Kd.R_drew)); exact HO117.out))) (Ja45_ (by repeat (first | (with_reducible first | exact HB.out | apply Ja43_ | apply Ja41_ | apply Ja42_ | refine Ja46_ ?_ GE101.out | refine Ja46_ ?_ GE102.out) | exact HB.out))))
                  have n2_ := Ja38_.mk (Ja47_ (g := gb101) (o := .cells #[.slice A0_0 l0_0.length c0_0, .slice A0_1 l0_1.length c0_1, .slice A0_2 l0_2.length c0_2] 107 (0, 0)) (by (with_reducible repeat (first | refine Ja50_ ?_ _ | refine Ja49_ ?_ | refine Ja48_ ?_ _)); exact BK101.out) hb)
                  have n3_ := Ja38_.mk (Ja47_ (g := gb102) (o := .cells #[.slice none 0 0, .slice none 0 0, .slice none 0 0] 112 (0, 0)) (by (with_reducible repeat (first | refine Ja50_ ?_ _ | refine Ja49_ ?_ | refine Ja48_ ?_ _)); exact BK102.out) hb)
                  have n4_ := Ja38_.mk (Ja44_ (by repeat (first | (with_reducible first | exact HB.out | apply Ja43_ | apply Ja41_ | apply Ja42_ | refine Ja46_ ?_ GE101.out | refine Ja46_ ?_ GE102.out) | exact HB.out)) hb)
                  clear HO117
                  clear BK101
                  clear BK102
                  clear HB
                  have HO117 := n0_
                  have HO111 := n1_
                  have BK101 := n2_
                  have BK102 := n3_
                  have HB := n4_
                  clear n0_ n1_ n2_ n3_ n4_
                  clear hb ho12
                  refine hK.out _ _ ⟨(Ja39_ BK101.out 0).trans rfl, (Ja39_ BK101.out 1).trans rfl, (Ja39_ BK101.out 2).trans rfl⟩ (fun hHeld => ?_)
                  clear hK K
                  refine norm_ (a' := ?_) ?_ ?_
                  rotate_left
                  ·show Act.put _ (some 7) _ = _
                   simp only [Act.put, sA_, sB_, sC_, i64_w, i32_w]
                   rfl
                  exact norm_ (by first | (simp only [putAll, Act.put, sA_, sB_, sC_]; done) | (simp only [putAll, Act.put, sA_, sB_, sC_]; rfl)) (hJ4_8 (v110, v116) _ ⟨hHeld, (by (with_reducible repeat (first | apply Kd.R_alloc | apply Kd.R_drewN | apply Kd.R_drew)); exact Kd.R_mono HO111.out (fun _ hk => hk.2)), (by (with_reducible repeat (first | apply Kd.R_alloc | apply Kd.R_drewN | apply Kd.R_drew)); exact Kd.R_mono HO117.out (fun _ hk => hk.2)), (by (with_reducible repeat (first | refine Ja50_ ?_ _ | refine Ja49_ ?_ | refine Ja48_ ?_ _)); exact BK101.out), (by (with_reducible repeat (first | refine Ja50_ ?_ _ | refine Ja49_ ?_ | refine Ja48_ ?_ _)); exact BK102.out), (by repeat (first | (with_reducible first | exact HB.out | apply Ja43_ | apply Ja41_ | apply Ja42_ | refine Ja46_ ?_ GE101.out | refine Ja46_ ?_ GE102.out) | exact HB.out))⟩)
               ·skip
                rintro v110 w10 ⟨hS_, h0_, h1_, h2_, h3_⟩
                have n0_ : Ja38_ (Kd.R Kd.string 9 w10 w.heap.size (fun _ => True) v110 y109) := ⟨h0_⟩
                have n1_ : Ja38_ (w10.heap[gb101]? = some (.cells #[.slice A0_0 l0_0.length c0_0, .slice A0_1 l0_1.length c0_1, .slice A0_2 l0_2.length c0_2] 107 (0, 0))) := ⟨h1_⟩
                have n2_ : Ja38_ (w10.heap[gb102]? = some (.cells #[.slice none 0 0, .slice none 0 0, .slice none 0 0] 112 (0, 0))) := ⟨h2_⟩
                have n3_ : Ja38_ (Below w.heap.size w w10) := ⟨h3_⟩
                clear BK101
                clear BK102
                clear HB
                clear h0_ h1_ h2_ h3_
                have HO111 := n0_
                have BK101 := n1_
                have BK102 := n2_
                have HB := n3_
                clear n0_ n1_ n2_ n3_
                have hHeld : w10.cell? ⟨gb101, 0, none⟩ = some (.slice A0_0 l0_0.length c0_0) ∧ w10.cell? ⟨gb101, 1, none⟩ = some (.slice A0_1 l0_1.length c0_1) ∧ w10.cell? ⟨gb101, 2, none⟩ = some (.slice A0_2 l0_2.length c0_2) := hS_
                refine norm_ (a' := ?_) ?_ ?_
                rotate_left
                ·simp only [putAll, Act.put, sA_, sB_, sC_]
                 rfl
                refine two_ (i := 0) (j := 8) (Ni := some 3) (Nj := some 11) (bz_ 14 1655) (bz_ 14 1910) rfl rfl rfl rfl (two_of HT_.out (by kernel_rfl)) (by decide) (by decide) (fun K hK => ?_) (fun K hK => ?_)
                ·skip
                 refine Kd.R_lit_step Kd.string _ 9 ?hg (N := 3) ?hd (xs := ([] : List ByteArray)) (inner := []) (ok := fun _ => True) (okp := fun _ => True) ?hr ?hp (fun _ hk => hk) trivial (Below.refl _ _) (Nat.le_refl _) (by simp) ?_; (case hd => rfl); (case hg => rfl); (case hr => first | (go_simp; done) | (go_simp; rfl)); (case hp => exact (Reps.none _ _))
                 intro v104 w11 ho12 hb hg_ hnew_
                 clear hg_ hnew_
                 (first | rw [← Ny103.out] at ho12 | (simp only [Int.reduceToNat] at ho12; rw [← Ny103.out] at ho12))
                 have n0_ := Ja38_.mk (Kd.R_elder' (by (with_reducible repeat (first | apply Kd.R_alloc | apply Kd.R_drewN | apply Kd.R_drew)); exact HO111.out) (Kd.R_base ho12) hb)
                 have n1_ := Ja38_.mk (Kd.R_lower (Kd.R_new' ho12 (Kd.R_lt (by (with_reducible repeat (first | apply Kd.R_alloc | apply Kd.R_drewN | apply Kd.R_drew)); exact HO111.out))) (Ja45_ (by repeat (first | (with_reducible first | exact HB.out | apply Ja43_ | apply Ja41_ | apply Ja42_ | refine Ja46_ ?_ GE101.out | refine Ja46_ ?_ GE102.out) | exact HB.out))))
                 have n2_ := Ja38_.mk (Ja47_ (g := gb101) (o := .cells #[.slice A0_0 l0_0.length c0_0, .slice A0_1 l0_1.length c0_1, .slice A0_2 l0_2.length c0_2] 107 (0, 0)) (by (with_reducible repeat (first | refine Ja50_ ?_ _ | refine Ja49_ ?_ | refine Ja48_ ?_ _)); exact BK101.out) hb)
                 have n3_ := Ja38_.mk (Ja47_ (g := gb102) (o := .cells #[.slice none 0 0, .slice none 0 0, .slice none 0 0] 112 (0, 0)) (by (with_reducible repeat (first | refine Ja50_ ?_ _ | refine Ja49_ ?_ | refine Ja48_ ?_ _)); exact BK102.out) hb)
                 have n4_ := Ja38_.mk (Ja44_ (by repeat (first | (with_reducible first | exact HB.out | apply Ja43_ | apply Ja41_ | apply Ja42_ | refine Ja46_ ?_ GE101.out | refine Ja46_ ?_ GE102.out) | exact HB.out)) hb)
                 clear HO111
                 clear BK101
                 clear BK102
                 clear HB
                 have HO111 := n0_
                 have HO105 := n1_
                 have BK101 := n2_
                 have BK102 := n3_
                 have HB := n4_
                 clear n0_ n1_ n2_ n3_ n4_
                 clear hb ho12
                 refine hK.out _ _ ⟨(Ja39_ BK101.out 0).trans rfl, (Ja39_ BK101.out 1).trans rfl, (Ja39_ BK101.out 2).trans rfl⟩ (fun hHeld => ?_)
                 clear hK K
                 refine norm_ (a' := ?_) ?_ ?_
                 rotate_left
                 ·show Act.put _ (some 3) _ = _
                  simp only [Act.put, sA_, sB_, sC_, i64_w, i32_w]
                  rfl
                 exact norm_ (by first | (simp only [putAll, Act.put, sA_, sB_, sC_]; done) | (simp only [putAll, Act.put, sA_, sB_, sC_]; rfl)) (hJ0_4 (v104, v110) _ ⟨hHeld, (by (with_reducible repeat (first | apply Kd.R_alloc | apply Kd.R_drewN | apply Kd.R_drew)); exact Kd.R_mono HO105.out (fun _ hk => hk.2)), (by (with_reducible repeat (first | apply Kd.R_alloc | apply Kd.R_drewN | apply Kd.R_drew)); exact Kd.R_mono HO111.out (fun _ hk => hk.2)), (by (with_reducible repeat (first | refine Ja50_ ?_ _ | refine Ja49_ ?_ | refine Ja48_ ?_ _)); exact BK101.out), (by (with_reducible repeat (first | refine Ja50_ ?_ _ | refine Ja49_ ?_ | refine Ja48_ ?_ _)); exact BK102.out), (by repeat (first | (with_reducible first | exact HB.out | apply Ja43_ | apply Ja41_ | apply Ja42_ | refine Ja46_ ?_ GE101.out | refine Ja46_ ?_ GE102.out) | exact HB.out))⟩)
                ·skip
                 refine Kd.R_lit_step Kd.string _ 9 ?hg (N := 11) ?hd (xs := ([] : List ByteArray)) (inner := []) (ok := fun _ => True) (okp := fun _ => True) ?hr ?hp (fun _ hk => hk) trivial (Below.refl _ _) (Nat.le_refl _) (by simp) ?_; (case hd => rfl); (case hg => rfl); (case hr => first | (go_simp; done) | (go_simp; rfl)); (case hp => exact (Reps.none _ _))
                 intro v116 w11 ho12 hb hg_ hnew_
                 clear hg_ hnew_
                 (first | rw [← Ny115.out] at ho12 | (simp only [Int.reduceToNat] at ho12; rw [← Ny115.out] at ho12))
                 have n0_ := Ja38_.mk (Kd.R_elder' (by (with_reducible repeat (first | apply Kd.R_alloc | apply Kd.R_drewN | apply Kd.R_drew)); exact HO111.out) (Kd.R_base ho12) hb)
                 have n1_ := Ja38_.mk (Kd.R_lower (Kd.R_new' ho12 (Kd.R_lt (by (with_reducible repeat (first | apply Kd.R_alloc | apply Kd.R_drewN | apply Kd.R_drew)); exact HO111.out))) (Ja45_ (by repeat (first | (with_reducible first | exact HB.out | apply Ja43_ | apply Ja41_ | apply Ja42_ | refine Ja46_ ?_ GE101.out | refine Ja46_ ?_ GE102.out) | exact HB.out))))
                 have n2_ := Ja38_.mk (Ja47_ (g := gb101) (o := .cells #[.slice A0_0 l0_0.length c0_0, .slice A0_1 l0_1.length c0_1, .slice A0_2 l0_2.length c0_2] 107 (0, 0)) (by (with_reducible repeat (first | refine Ja50_ ?_ _ | refine Ja49_ ?_ | refine Ja48_ ?_ _)); exact BK101.out) hb)
                 have n3_ := Ja38_.mk (Ja47_ (g := gb102) (o := .cells #[.slice none 0 0, .slice none 0 0, .slice none 0 0] 112 (0, 0)) (by (with_reducible repeat (first | refine Ja50_ ?_ _ | refine Ja49_ ?_ | refine Ja48_ ?_ _)); exact BK102.out) hb)
                 have n4_ := Ja38_.mk (Ja44_ (by repeat (first | (with_reducible first | exact HB.out | apply Ja43_ | apply Ja41_ | apply Ja42_ | refine Ja46_ ?_ GE101.out | refine Ja46_ ?_ GE102.out) | exact HB.out)) hb)
                 clear HO111
                 clear BK101
                 clear BK102
                 clear HB
                 have HO111 := n0_
                 have HO117 := n1_
                 have BK101 := n2_
                 have BK102 := n3_
                 have HB := n4_
                 clear n0_ n1_ n2_ n3_ n4_
                 clear hb ho12
                 refine hK.out _ _ ⟨(Ja39_ BK101.out 0).trans rfl, (Ja39_ BK101.out 1).trans rfl, (Ja39_ BK101.out 2).trans rfl⟩ (fun hHeld => ?_)
                 clear hK K
                 refine norm_ (a' := ?_) ?_ ?_
                 rotate_left
                 ·show Act.put _ (some 11) _ = _
                  simp only [Act.put, sA_, sB_, sC_, i64_w, i32_w]
                  rfl
                 exact norm_ (by first | (simp only [putAll, Act.put, sA_, sB_, sC_]; done) | (simp only [putAll, Act.put, sA_, sB_, sC_]; rfl)) (hJ4_8 (v110, v116) _ ⟨hHeld, (by (with_reducible repeat (first | apply Kd.R_alloc | apply Kd.R_drewN | apply Kd.R_drew)); exact Kd.R_mono HO111.out (fun _ hk => hk.2)), (by (with_reducible repeat (first | apply Kd.R_alloc | apply Kd.R_drewN | apply Kd.R_drew)); exact Kd.R_mono HO117.out (fun _ hk => hk.2)), (by (with_reducible repeat (first | refine Ja50_ ?_ _ | refine Ja49_ ?_ | refine Ja48_ ?_ _)); exact BK101.out), (by (with_reducible repeat (first | refine Ja50_ ?_ _ | refine Ja49_ ?_ | refine Ja48_ ?_ _)); exact BK102.out), (by repeat (first | (with_reducible first | exact HB.out | apply Ja43_ | apply Ja41_ | apply Ja42_ | refine Ja46_ ?_ GE101.out | refine Ja46_ ?_ GE102.out) | exact HB.out))⟩)
              ·skip
               rintro v104 w10 ⟨hS_, h0_, h1_, h2_, h3_⟩
               have n0_ : Ja38_ (Kd.R Kd.string 9 w10 w.heap.size (fun _ => True) v104 y103) := ⟨h0_⟩
               have n1_ : Ja38_ (w10.heap[gb101]? = some (.cells #[.slice A0_0 l0_0.length c0_0, .slice A0_1 l0_1.length c0_1, .slice A0_2 l0_2.length c0_2] 107 (0, 0))) := ⟨h1_⟩
               have n2_ : Ja38_ (w10.heap[gb102]? = some (.cells #[.slice none 0 0, .slice none 0 0, .slice none 0 0] 112 (0, 0))) := ⟨h2_⟩
               have n3_ : Ja38_ (Below w.heap.size w w10) := ⟨h3_⟩
               clear BK101
               clear BK102
               clear HB
               clear h0_ h1_ h2_ h3_
               have HO105 := n0_
               have BK101 := n1_
               have BK102 := n2_
               have HB := n3_
               clear n0_ n1_ n2_ n3_
               have hHeld : w10.cell? ⟨gb101, 0, none⟩ = some (.slice A0_0 l0_0.length c0_0) ∧ w10.cell? ⟨gb101, 1, none⟩ = some (.slice A0_1 l0_1.length c0_1) ∧ w10.cell? ⟨gb101, 2, none⟩ = some (.slice A0_2 l0_2.length c0_2) := hS_
               refine norm_ (a' := ?_) ?_ ?_
               rotate_left
               ·simp only [putAll, Act.put, sA_, sB_, sC_]
                rfl
               refine three_ (i := 3) (j := 4) (k := 8) (Ni := some 6) (Nj := some 7) (Nk := some 11) (bz_ 14 1647) (bz_ 14 1655) (bz_ 14 1895) rfl rfl rfl rfl rfl rfl (three_of HT_.out (by kernel_rfl)) (by decide) (by decide) (by decide) (fun K hK => ?_) (fun K hK => ?_) (fun K hK => ?_)
               ·skip
                refine Kd.R_append_rows_step Kd.string (w0 := w) w.heap.size (by rfl) (.tmp 3) (.tmp 5) 27 9 (.string ⟨#[]⟩) 16 rfl Try.underlying27 info9 rfl (by decide) (by omega) v104 y103 l0_0 _ _ _ (fun _ => True) (fun _ => False) rfl rfl ?aO ?aR (fun _ _ h => h) (fun _ h => h.elim) ?aF ?aB ?aS ?aL ?_
                (case aR => repeat (first | exact (Kd.C_below HR0_0.out HB.out) | (with_reducible refine Kd.C_alloc ?_ _) | (with_reducible refine Kd.C_drewN ?_ _) | (with_reducible refine Kd.C_drew ?_)))
                (case aB => exact (by repeat (first | (with_reducible first | exact HB.out | apply Ja43_ | apply Ja41_ | apply Ja42_ | refine Ja46_ ?_ GE101.out | refine Ja46_ ?_ GE102.out) | exact HB.out)))
                (case aF => exact (fun _ _ => trivial))
                (case aO => exact (by (with_reducible repeat (first | apply Kd.R_alloc | apply Kd.R_drewN | apply Kd.R_drew)); exact HO105.out))
                (case aS => exact (Ja45_ (by repeat (first | (with_reducible first | exact HB.out | apply Ja43_ | apply Ja41_ | apply Ja42_ | refine Ja46_ ?_ GE101.out | refine Ja46_ ?_ GE102.out) | exact HB.out))))
                (case aL => have := LMc2.out; omega)
                intro v107 w11 ho hb hg hat
                rw [← Ny106.out] at ho
                have n0_ := Ja38_.mk (blk_grown (g := gb101) (o := .cells #[.slice A0_0 l0_0.length c0_0, .slice A0_1 l0_1.length c0_1, .slice A0_2 l0_2.length c0_2] 107 (0, 0)) (by (with_reducible repeat (first | refine Ja50_ ?_ _ | refine Ja49_ ?_ | refine Ja48_ ?_ _)); exact BK101.out) hg (Kd.R_ne HO105.out BK101.out (by decide)))
                have n1_ := Ja38_.mk (blk_grown (g := gb102) (o := .cells #[.slice none 0 0, .slice none 0 0, .slice none 0 0] 112 (0, 0)) (by (with_reducible repeat (first | refine Ja50_ ?_ _ | refine Ja49_ ?_ | refine Ja48_ ?_ _)); exact BK102.out) hg (Kd.R_ne HO105.out BK102.out (by decide)))
                have n2_ := Ja38_.mk (hb)
                have n3_ := Ja38_.mk (ho)
                clear BK101
                clear BK102
                clear HB
                clear HO105
                have BK101 := n0_
                have BK102 := n1_
                have HB := n2_
                have HO108 := n3_
                clear n0_ n1_ n2_ n3_
                clear ho hb hg hat
                refine hK.out _ _ ⟨(Ja39_ BK101.out 0).trans rfl, (Ja39_ BK101.out 1).trans rfl, (Ja39_ BK101.out 2).trans rfl⟩ (fun hHeld => ?_)
                clear hK K
                refine norm_ (a' := ?_) ?_ ?_
                rotate_left
                ·show Act.put _ (some 6) _ = _
                 simp only [Act.put, sA_, sB_, sC_, i64_w, i32_w]
                 rfl
                exact norm_ (by first | (simp only [putAll, Act.put, sA_, sB_, sC_]; done) | (simp only [putAll, Act.put, sA_, sB_, sC_]; rfl)) (hJ0_3 (v104, v107) _ ⟨hHeld, (by (with_reducible repeat (first | apply Kd.R_alloc | apply Kd.R_drewN | apply Kd.R_drew)); exact HO108.out), (by (with_reducible repeat (first | refine Ja50_ ?_ _ | refine Ja49_ ?_ | refine Ja48_ ?_ _)); exact BK101.out), (by (with_reducible repeat (first | refine Ja50_ ?_ _ | refine Ja49_ ?_ | refine Ja48_ ?_ _)); exact BK102.out), (by repeat (first | (with_reducible first | exact HB.out | apply Ja43_ | apply Ja41_ | apply Ja42_ | refine Ja46_ ?_ GE101.out | refine Ja46_ ?_ GE102.out) | exact HB.out))⟩)
               ·skip
                refine Kd.R_lit_step Kd.string _ 9 ?hg (N := 7) ?hd (xs := ([] : List ByteArray)) (inner := []) (ok := fun _ => True) (okp := fun _ => True) ?hr ?hp (fun _ hk => hk) trivial (Below.refl _ _) (Nat.le_refl _) (by simp) ?_; (case hd => rfl); (case hg => rfl); (case hr => first | (go_simp; done) | (go_simp; rfl)); (case hp => exact (Reps.none _ _))
                intro v110 w11 ho12 hb hg_ hnew_
                clear hg_ hnew_
                (first | rw [← Ny109.out] at ho12 | (simp only [Int.reduceToNat] at ho12; rw [← Ny109.out] at ho12))
                have n0_ := Ja38_.mk (Kd.R_elder' (by (with_reducible repeat (first | apply Kd.R_alloc | apply Kd.R_drewN | apply Kd.R_drew)); exact HO105.out) (Kd.R_base ho12) hb)
                have n1_ := Ja38_.mk (Kd.R_lower (Kd.R_new' ho12 (Kd.R_lt (by (with_reducible repeat (first | apply Kd.R_alloc | apply Kd.R_drewN | apply Kd.R_drew)); exact HO105.out))) (Ja45_ (by repeat (first | (with_reducible first | exact HB.out | apply Ja43_ | apply Ja41_ | apply Ja42_ | refine Ja46_ ?_ GE101.out | refine Ja46_ ?_ GE102.out) | exact HB.out))))
                have n2_ := Ja38_.mk (Ja47_ (g := gb101) (o := .cells #[.slice A0_0 l0_0.length c0_0, .slice A0_1 l0_1.length c0_1, .slice A0_2 l0_2.length c0_2] 107 (0, 0)) (by (with_reducible repeat (first | refine Ja50_ ?_ _ | refine Ja49_ ?_ | refine Ja48_ ?_ _)); exact BK101.out) hb)
                have n3_ := Ja38_.mk (Ja47_ (g := gb102) (o := .cells #[.slice none 0 0, .slice none 0 0, .slice none 0 0] 112 (0, 0)) (by (with_reducible repeat (first | refine Ja50_ ?_ _ | refine Ja49_ ?_ | refine Ja48_ ?_ _)); exact BK102.out) hb)
                have n4_ := Ja38_.mk (Ja44_ (by repeat (first | (with_reducible first | exact HB.out | apply Ja43_ | apply Ja41_ | apply Ja42_ | refine Ja46_ ?_ GE101.out | refine Ja46_ ?_ GE102.out) | exact HB.out)) hb)
                clear HO105
                clear BK101
                clear BK102
                clear HB
                have HO105 := n0_
                have HO111 := n1_
                have BK101 := n2_
                have BK102 := n3_
                have HB := n4_
                clear n0_ n1_ n2_ n3_ n4_
                clear hb ho12
                refine hK.out _ _ ⟨(Ja39_ BK101.out 0).trans rfl, (Ja39_ BK101.out 1).trans rfl, (Ja39_ BK101.out 2).trans rfl⟩ (fun hHeld => ?_)
                clear hK K
                refine norm_ (a' := ?_) ?_ ?_
                rotate_left
                ·show Act.put _ (some 7) _ = _
                 simp only [Act.put, sA_, sB_, sC_, i64_w, i32_w]
                 rfl
                exact norm_ (by first | (simp only [putAll, Act.put, sA_, sB_, sC_]; done) | (simp only [putAll, Act.put, sA_, sB_, sC_]; rfl)) (hJ0_4 (v104, v110) _ ⟨hHeld, (by (with_reducible repeat (first | apply Kd.R_alloc | apply Kd.R_drewN | apply Kd.R_drew)); exact Kd.R_mono HO105.out (fun _ hk => hk.2)), (by (with_reducible repeat (first | apply Kd.R_alloc | apply Kd.R_drewN | apply Kd.R_drew)); exact Kd.R_mono HO111.out (fun _ hk => hk.2)), (by (with_reducible repeat (first | refine Ja50_ ?_ _ | refine Ja49_ ?_ | refine Ja48_ ?_ _)); exact BK101.out), (by (with_reducible repeat (first | refine Ja50_ ?_ _ | refine Ja49_ ?_ | refine Ja48_ ?_ _)); exact BK102.out), (by repeat (first | (with_reducible first | exact HB.out | apply Ja43_ | apply Ja41_ | apply Ja42_ | refine Ja46_ ?_ GE101.out | refine Ja46_ ?_ GE102.out) | exact HB.out))⟩)
               ·skip
                refine Kd.R_lit_step Kd.string _ 9 ?hg (N := 11) ?hd (xs := ([] : List ByteArray)) (inner := []) (ok := fun _ => True) (okp := fun _ => True) ?hr ?hp (fun _ hk => hk) trivial (Below.refl _ _) (Nat.le_refl _) (by simp) ?_; (case hd => rfl); (case hg => rfl); (case hr => first | (go_simp; done) | (go_simp; rfl)); (case hp => exact (Reps.none _ _))
                intro v116 w11 ho12 hb hg_ hnew_
                clear hg_ hnew_
                (first | rw [← Ny115.out] at ho12 | (simp only [Int.reduceToNat] at ho12; rw [← Ny115.out] at ho12))
                have n0_ := Ja38_.mk (Kd.R_elder' (by (with_reducible repeat (first | apply Kd.R_alloc | apply Kd.R_drewN | apply Kd.R_drew)); exact HO105.out) (Kd.R_base ho12) hb)
                have n1_ := Ja38_.mk (Kd.R_lower (Kd.R_new' ho12 (Kd.R_lt (by (with_reducible repeat (first | apply Kd.R_alloc | apply Kd.R_drewN | apply Kd.R_drew)); exact HO105.out))) (Ja45_ (by repeat (first | (with_reducible first | exact HB.out | apply Ja43_ | apply Ja41_ | apply Ja42_ | refine Ja46_ ?_ GE101.out | refine Ja46_ ?_ GE102.out) | exact HB.out))))
                have n2_ := Ja38_.mk (Ja47_ (g := gb101) (o := .cells #[.slice A0_0 l0_0.length c0_0, .slice A0_1 l0_1.length c0_1, .slice A0_2 l0_2.length c0_2] 107 (0, 0)) (by (with_reducible repeat (first | refine Ja50_ ?_ _ | refine Ja49_ ?_ | refine Ja48_ ?_ _)); exact BK101.out) hb)
                have n3_ := Ja38_.mk (Ja47_ (g := gb102) (o := .cells #[.slice none 0 0, .slice none 0 0, .slice none 0 0] 112 (0, 0)) (by (with_reducible repeat (first | refine Ja50_ ?_ _ | refine Ja49_ ?_ | refine Ja48_ ?_ _)); exact BK102.out) hb)
                have n4_ := Ja38_.mk (Ja44_ (by repeat (first | (with_reducible first | exact HB.out | apply Ja43_ | apply Ja41_ | apply Ja42_ | refine Ja46_ ?_ GE101.out | refine Ja46_ ?_ GE102.out) | exact HB.out)) hb)
                clear HO105
                clear BK101
                clear BK102
                clear HB
                have HO105 := n0_
                have HO117 := n1_
                have BK101 := n2_
                have BK102 := n3_
                have HB := n4_
                clear n0_ n1_ n2_ n3_ n4_
                clear hb ho12
                refine hK.out _ _ ⟨(Ja39_ BK101.out 0).trans rfl, (Ja39_ BK101.out 1).trans rfl, (Ja39_ BK101.out 2).trans rfl⟩ (fun hHeld => ?_)
                clear hK K
                refine norm_ (a' := ?_) ?_ ?_
                rotate_left
                ·show Act.put _ (some 11) _ = _
                 simp only [Act.put, sA_, sB_, sC_, i64_w, i32_w]
                 rfl
                exact norm_ (by first | (simp only [putAll, Act.put, sA_, sB_, sC_]; done) | (simp only [putAll, Act.put, sA_, sB_, sC_]; rfl)) (hJ0_8 (v104, v116) _ ⟨hHeld, (by (with_reducible repeat (first | apply Kd.R_alloc | apply Kd.R_drewN | apply Kd.R_drew)); exact Kd.R_mono HO105.out (fun _ hk => hk.2)), (by (with_reducible repeat (first | apply Kd.R_alloc | apply Kd.R_drewN | apply Kd.R_drew)); exact Kd.R_mono HO117.out (fun _ hk => hk.2)), (by (with_reducible repeat (first | refine Ja50_ ?_ _ | refine Ja49_ ?_ | refine Ja48_ ?_ _)); exact BK101.out), (by (with_reducible repeat (first | refine Ja50_ ?_ _ | refine Ja49_ ?_ | refine Ja48_ ?_ _)); exact BK102.out), (by repeat (first | (with_reducible first | exact HB.out | apply Ja43_ | apply Ja41_ | apply Ja42_ | refine Ja46_ ?_ GE101.out | refine Ja46_ ?_ GE102.out) | exact HB.out))⟩)
             ·skip
              rintro ⟨v110, v116⟩ w12 ⟨hS_, h0_, h1_, h2_, h3_, h4_⟩
              have n0_ : Ja38_ (Kd.R Kd.string 9 w12 w.heap.size (fun k_ => some k_ ≠ (v116 : Value).ownBlock) v110 y109) := ⟨h0_⟩
              have n1_ : Ja38_ (Kd.R Kd.string 9 w12 w.heap.size (fun k_ => some k_ ≠ (v110 : Value).ownBlock) v116 y115) := ⟨h1_⟩
              have n2_ : Ja38_ (w12.heap[gb101]? = some (.cells #[.slice A0_0 l0_0.length c0_0, .slice A0_1 l0_1.length c0_1, .slice A0_2 l0_2.length c0_2] 107 (0, 0))) := ⟨h2_⟩
              have n3_ : Ja38_ (w12.heap[gb102]? = some (.cells #[.slice none 0 0, .slice none 0 0, .slice none 0 0] 112 (0, 0))) := ⟨h3_⟩
              have n4_ : Ja38_ (Below w.heap.size w w12) := ⟨h4_⟩
              clear BK101
              clear BK102
              clear HB
              clear h0_ h1_ h2_ h3_ h4_
              have HO111 := n0_
              have HO117 := n1_
              have BK101 := n2_
              have BK102 := n3_
              have HB := n4_
              clear n0_ n1_ n2_ n3_ n4_
              have hHeld : w12.cell? ⟨gb101, 0, none⟩ = some (.slice A0_0 l0_0.length c0_0) ∧ w12.cell? ⟨gb101, 1, none⟩ = some (.slice A0_1 l0_1.length c0_1) ∧ w12.cell? ⟨gb101, 2, none⟩ = some (.slice A0_2 l0_2.length c0_2) := hS_
              refine norm_ (a' := ?_) ?_ ?_
              rotate_left
              ·simp only [putAll, Act.put, sA_, sB_, sC_]
               rfl
              refine one_ (i := 0) (N := some 3) (bz_ 14 1911) rfl rfl (one_of HT_.out (by kernel_rfl)) (by decide) (fun K hK => ?_)
              refine Kd.R_lit_step Kd.string _ 9 ?hg (N := 3) ?hd (xs := ([] : List ByteArray)) (inner := []) (ok := fun _ => True) (okp := fun _ => True) ?hr ?hp (fun _ hk => hk) trivial (Below.refl _ _) (Nat.le_refl _) (by simp) ?_; (case hd => rfl); (case hg => rfl); (case hr => first | (go_simp; done) | (go_simp; rfl)); (case hp => exact (Reps.none _ _))
              intro v104 w13 ho14 hb hg_ hnew_
              clear hg_ hnew_
              (first | rw [← Ny103.out] at ho14 | (simp only [Int.reduceToNat] at ho14; rw [← Ny103.out] at ho14))
              have n0_ := Ja38_.mk (Kd.R_elder' (by (with_reducible repeat (first | apply Kd.R_alloc | apply Kd.R_drewN | apply Kd.R_drew)); exact HO111.out) (Kd.R_base ho14) hb)
              have n1_ := Ja38_.mk (Kd.R_elder' (by (with_reducible repeat (first | apply Kd.R_alloc | apply Kd.R_drewN | apply Kd.R_drew)); exact HO117.out) (Kd.R_base ho14) hb)
              have n2_ := Ja38_.mk (Kd.R_lower (Kd.R_new' (Kd.R_new' ho14 (Kd.R_lt (by (with_reducible repeat (first | apply Kd.R_alloc | apply Kd.R_drewN | apply Kd.R_drew)); exact HO111.out))) (Kd.R_lt (by (with_reducible repeat (first | apply Kd.R_alloc | apply Kd.R_drewN | apply Kd.R_drew)); exact HO117.out))) (Ja45_ (by repeat (first | (with_reducible first | exact HB.out | apply Ja43_ | apply Ja41_ | apply Ja42_ | refine Ja46_ ?_ GE101.out | refine Ja46_ ?_ GE102.out) | exact HB.out))))
              have n3_ := Ja38_.mk (Ja47_ (g := gb101) (o := .cells #[.slice A0_0 l0_0.length c0_0, .slice A0_1 l0_1.length c0_1, .slice A0_2 l0_2.length c0_2] 107 (0, 0)) (by (with_reducible repeat (first | refine Ja50_ ?_ _ | refine Ja49_ ?_ | refine Ja48_ ?_ _)); exact BK101.out) hb)
              have n4_ := Ja38_.mk (Ja47_ (g := gb102) (o := .cells #[.slice none 0 0, .slice none 0 0, .slice none 0 0] 112 (0, 0)) (by (with_reducible repeat (first | refine Ja50_ ?_ _ | refine Ja49_ ?_ | refine Ja48_ ?_ _)); exact BK102.out) hb)
              have n5_ := Ja38_.mk (Ja44_ (by repeat (first | (with_reducible first | exact HB.out | apply Ja43_ | apply Ja41_ | apply Ja42_ | refine Ja46_ ?_ GE101.out | refine Ja46_ ?_ GE102.out) | exact HB.out)) hb)
              clear HO111
              clear HO117
              clear BK101
              clear BK102
              clear HB
              have HO111 := n0_
              have HO117 := n1_
              have HO105 := n2_
              have BK101 := n3_
              have BK102 := n4_
              have HB := n5_
              clear n0_ n1_ n2_ n3_ n4_ n5_
              clear hb ho14
              refine hK.out _ _ ⟨(Ja39_ BK101.out 0).trans rfl, (Ja39_ BK101.out 1).trans rfl, (Ja39_ BK101.out 2).trans rfl⟩ (fun hHeld => ?_)
              clear hK K
              refine norm_ (a' := ?_) ?_ ?_
              rotate_left
              ·show Act.put _ (some 3) _ = _
               simp only [Act.put, sA_, sB_, sC_, i64_w, i32_w]
               rfl
              exact norm_ (by first | (simp only [putAll, Act.put, sA_, sB_, sC_]; done) | (simp only [putAll, Act.put, sA_, sB_, sC_]; rfl)) (hJ0_4_8 (v104, v110, v116) _ ⟨hHeld, (by (with_reducible repeat (first | apply Kd.R_alloc | apply Kd.R_drewN | apply Kd.R_drew)); exact Kd.R_mono HO105.out (fun _ hk => ⟨hk.1.2, hk.2⟩)), (by (with_reducible repeat (first | apply Kd.R_alloc | apply Kd.R_drewN | apply Kd.R_drew)); exact Kd.R_mono HO111.out (fun _ hk => ⟨hk.2, hk.1⟩)), (by (with_reducible repeat (first | apply Kd.R_alloc | apply Kd.R_drewN | apply Kd.R_drew)); exact Kd.R_mono HO117.out (fun _ hk => ⟨hk.2, hk.1⟩)), (by (with_reducible repeat (first | refine Ja50_ ?_ _ | refine Ja49_ ?_ | refine Ja48_ ?_ _)); exact BK101.out), (by (with_reducible repeat (first | refine Ja50_ ?_ _ | refine Ja49_ ?_ | refine Ja48_ ?_ _)); exact BK102.out), (by repeat (first | (with_reducible first | exact HB.out | apply Ja43_ | apply Ja41_ | apply Ja42_ | refine Ja46_ ?_ GE101.out | refine Ja46_ ?_ GE102.out) | exact HB.out))⟩)
            ·skip
             rintro ⟨v104, v116⟩ w12 ⟨hS_, h0_, h1_, h2_, h3_, h4_⟩
             have n0_ : Ja38_ (Kd.R Kd.string 9 w12 w.heap.size (fun k_ => some k_ ≠ (v116 : Value).ownBlock) v104 y103) := ⟨h0_⟩
             have n1_ : Ja38_ (Kd.R Kd.string 9 w12 w.heap.size (fun k_ => some k_ ≠ (v104 : Value).ownBlock) v116 y115) := ⟨h1_⟩
             have n2_ : Ja38_ (w12.heap[gb101]? = some (.cells #[.slice A0_0 l0_0.length c0_0, .slice A0_1 l0_1.length c0_1, .slice A0_2 l0_2.length c0_2] 107 (0, 0))) := ⟨h2_⟩
             have n3_ : Ja38_ (w12.heap[gb102]? = some (.cells #[.slice none 0 0, .slice none 0 0, .slice none 0 0] 112 (0, 0))) := ⟨h3_⟩
             have n4_ : Ja38_ (Below w.heap.size w w12) := ⟨h4_⟩
             clear BK101
             clear BK102
             clear HB
             clear h0_ h1_ h2_ h3_ h4_
             have HO105 := n0_
             have HO117 := n1_
             have BK101 := n2_
             have BK102 := n3_
             have HB := n4_
             clear n0_ n1_ n2_ n3_ n4_
             have hHeld : w12.cell? ⟨gb101, 0, none⟩ = some (.slice A0_0 l0_0.length c0_0) ∧ w12.cell? ⟨gb101, 1, none⟩ = some (.slice A0_1 l0_1.length c0_1) ∧ w12.cell? ⟨gb101, 2, none⟩ = some (.slice A0_2 l0_2.length c0_2) := hS_
             refine norm_ (a' := ?_) ?_ ?_
             rotate_left
             ·simp only [putAll, Act.put, sA_, sB_, sC_]
              rfl
             refine two_ (i := 3) (j := 4) (Ni := some 6) (Nj := some 7) (bz_ 14 1903) (bz_ 14 1911) rfl rfl rfl rfl (two_of HT_.out (by kernel_rfl)) (by decide) (by decide) (fun K hK => ?_) (fun K hK => ?_)
             ·skip
              refine Kd.R_append_rows_step Kd.string (w0 := w) w.heap.size (by rfl) (.tmp 3) (.tmp 5) 27 9 (.string ⟨#[]⟩) 16 rfl Try.underlying27 info9 rfl (by decide) (by omega) v104 y103 l0_0 _ _ _ (fun k_ => some k_ ≠ (v116 : Value).ownBlock) (fun _ => False) rfl rfl ?aO ?aR (fun _ _ h => h) (fun _ h => h.elim) ?aF ?aB ?aS ?aL ?_
              (case aR => repeat (first | exact (Kd.C_below HR0_0.out HB.out) | (with_reducible refine Kd.C_alloc ?_ _) | (with_reducible refine Kd.C_drewN ?_ _) | (with_reducible refine Kd.C_drew ?_)))
              (case aB => exact (by repeat (first | (with_reducible first | exact HB.out | apply Ja43_ | apply Ja41_ | apply Ja42_ | refine Ja46_ ?_ GE101.out | refine Ja46_ ?_ GE102.out) | exact HB.out)))
              (case aF => exact (fun k_ hk => Kd.fresh' (Kd.R_lt (by (with_reducible repeat (first | apply Kd.R_alloc | apply Kd.R_drewN | apply Kd.R_drew)); exact HO117.out)) k_ hk))
              (case aO => exact (by (with_reducible repeat (first | apply Kd.R_alloc | apply Kd.R_drewN | apply Kd.R_drew)); exact HO105.out))
              (case aS => exact (Ja45_ (by repeat (first | (with_reducible first | exact HB.out | apply Ja43_ | apply Ja41_ | apply Ja42_ | refine Ja46_ ?_ GE101.out | refine Ja46_ ?_ GE102.out) | exact HB.out))))
              (case aL => have := LMc2.out; omega)
              intro v107 w13 ho hb hg hat
              rw [← Ny106.out] at ho
              have n0_ := Ja38_.mk (blk_grown (g := gb101) (o := .cells #[.slice A0_0 l0_0.length c0_0, .slice A0_1 l0_1.length c0_1, .slice A0_2 l0_2.length c0_2] 107 (0, 0)) (by (with_reducible repeat (first | refine Ja50_ ?_ _ | refine Ja49_ ?_ | refine Ja48_ ?_ _)); exact BK101.out) hg (Kd.R_ne HO105.out BK101.out (by decide)))
              have n1_ := Ja38_.mk (blk_grown (g := gb102) (o := .cells #[.slice none 0 0, .slice none 0 0, .slice none 0 0] 112 (0, 0)) (by (with_reducible repeat (first | refine Ja50_ ?_ _ | refine Ja49_ ?_ | refine Ja48_ ?_ _)); exact BK102.out) hg (Kd.R_ne HO105.out BK102.out (by decide)))
              have n2_ := Ja38_.mk (Kd.R_after (ok := (fun _ => True)) (by (with_reducible repeat (first | apply Kd.R_alloc | apply Kd.R_drewN | apply Kd.R_drew)); exact Kd.R_mono HO117.out (fun _ hk => ⟨trivial, hk⟩)) hg hat)
              have n3_ := Ja38_.mk (hb)
              have n4_ := Ja38_.mk (ho)
              clear BK101
              clear BK102
              clear HO117
              clear HB
              clear HO105
              have BK101 := n0_
              have BK102 := n1_
              have HO117 := n2_
              have HB := n3_
              have HO108 := n4_
              clear n0_ n1_ n2_ n3_ n4_
              clear ho hb hg hat
              refine hK.out _ _ ⟨(Ja39_ BK101.out 0).trans rfl, (Ja39_ BK101.out 1).trans rfl, (Ja39_ BK101.out 2).trans rfl⟩ (fun hHeld => ?_)
              clear hK K
              refine norm_ (a' := ?_) ?_ ?_
              rotate_left
              ·show Act.put _ (some 6) _ = _
               simp only [Act.put, sA_, sB_, sC_, i64_w, i32_w]
               rfl
              exact norm_ (by first | (simp only [putAll, Act.put, sA_, sB_, sC_]; done) | (simp only [putAll, Act.put, sA_, sB_, sC_]; rfl)) (hJ0_3_8 (v104, v107, v116) _ ⟨hHeld, (by (with_reducible repeat (first | apply Kd.R_alloc | apply Kd.R_drewN | apply Kd.R_drew)); exact HO108.out), (by (with_reducible repeat (first | apply Kd.R_alloc | apply Kd.R_drewN | apply Kd.R_drew)); exact Kd.R_mono HO117.out (fun _ hk => hk.2)), (by (with_reducible repeat (first | refine Ja50_ ?_ _ | refine Ja49_ ?_ | refine Ja48_ ?_ _)); exact BK101.out), (by (with_reducible repeat (first | refine Ja50_ ?_ _ | refine Ja49_ ?_ | refine Ja48_ ?_ _)); exact BK102.out), (by repeat (first | (with_reducible first | exact HB.out | apply Ja43_ | apply Ja41_ | apply Ja42_ | refine Ja46_ ?_ GE101.out | refine Ja46_ ?_ GE102.out) | exact HB.out))⟩)
             ·skip
              refine Kd.R_lit_step Kd.string _ 9 ?hg (N := 7) ?hd (xs := ([] : List ByteArray)) (inner := []) (ok := fun _ => True) (okp := fun _ => True) ?hr ?hp (fun _ hk => hk) trivial (Below.refl _ _) (Nat.le_refl _) (by simp) ?_; (case hd => rfl); (case hg => rfl); (case hr => first | (go_simp; done) | (go_simp; rfl)); (case hp => exact (Reps.none _ _))
              intro v110 w13 ho14 hb hg_ hnew_
              clear hg_ hnew_
              (first | rw [← Ny109.out] at ho14 | (simp only [Int.reduceToNat] at ho14; rw [← Ny109.out] at ho14))
              have n0_ := Ja38_.mk (Kd.R_elder' (by (with_reducible repeat (first | apply Kd.R_alloc | apply Kd.R_drewN | apply Kd.R_drew)); exact HO105.out) (Kd.R_base ho14) hb)
              have n1_ := Ja38_.mk (Kd.R_elder' (by (with_reducible repeat (first | apply Kd.R_alloc | apply Kd.R_drewN | apply Kd.R_drew)); exact HO117.out) (Kd.R_base ho14) hb)
              have n2_ := Ja38_.mk (Kd.R_lower (Kd.R_new' (Kd.R_new' ho14 (Kd.R_lt (by (with_reducible repeat (first | apply Kd.R_alloc | apply Kd.R_drewN | apply Kd.R_drew)); exact HO105.out))) (Kd.R_lt (by (with_reducible repeat (first | apply Kd.R_alloc | apply Kd.R_drewN | apply Kd.R_drew)); exact HO117.out))) (Ja45_ (by repeat (first | (with_reducible first | exact HB.out | apply Ja43_ | apply Ja41_ | apply Ja42_ | refine Ja46_ ?_ GE101.out | refine Ja46_ ?_ GE102.out) | exact HB.out))))
              have n3_ := Ja38_.mk (Ja47_ (g := gb101) (o := .cells #[.slice A0_0 l0_0.length c0_0, .slice A0_1 l0_1.length c0_1, .slice A0_2 l0_2.length c0_2] 107 (0, 0)) (by (with_reducible repeat (first | refine Ja50_ ?_ _ | refine Ja49_ ?_ | refine Ja48_ ?_ _)); exact BK101.out) hb)
              have n4_ := Ja38_.mk (Ja47_ (g := gb102) (o := .cells #[.slice none 0 0, .slice none 0 0, .slice none 0 0] 112 (0, 0)) (by (with_reducible repeat (first | refine Ja50_ ?_ _ | refine Ja49_ ?_ | refine Ja48_ ?_ _)); exact BK102.out) hb)
              have n5_ := Ja38_.mk (Ja44_ (by repeat (first | (with_reducible first | exact HB.out | apply Ja43_ | apply Ja41_ | apply Ja42_ | refine Ja46_ ?_ GE101.out | refine Ja46_ ?_ GE102.out) | exact HB.out)) hb)
              clear HO105
              clear HO117
              clear BK101
              clear BK102
              clear HB
              have HO105 := n0_
              have HO117 := n1_
              have HO111 := n2_
              have BK101 := n3_
              have BK102 := n4_
              have HB := n5_
              clear n0_ n1_ n2_ n3_ n4_ n5_
              clear hb ho14
              refine hK.out _ _ ⟨(Ja39_ BK101.out 0).trans rfl, (Ja39_ BK101.out 1).trans rfl, (Ja39_ BK101.out 2).trans rfl⟩ (fun hHeld => ?_)
              clear hK K
              refine norm_ (a' := ?_) ?_ ?_
              rotate_left
              ·show Act.put _ (some 7) _ = _
               simp only [Act.put, sA_, sB_, sC_, i64_w, i32_w]
               rfl
              exact norm_ (by first | (simp only [putAll, Act.put, sA_, sB_, sC_]; done) | (simp only [putAll, Act.put, sA_, sB_, sC_]; rfl)) (hJ0_4_8 (v104, v110, v116) _ ⟨hHeld, (by (with_reducible repeat (first | apply Kd.R_alloc | apply Kd.R_drewN | apply Kd.R_drew)); exact Kd.R_mono HO105.out (fun _ hk => ⟨hk.2, hk.1⟩)), (by (with_reducible repeat (first | apply Kd.R_alloc | apply Kd.R_drewN | apply Kd.R_drew)); exact Kd.R_mono HO111.out (fun _ hk => ⟨hk.1.2, hk.2⟩)), (by (with_reducible repeat (first | apply Kd.R_alloc | apply Kd.R_drewN | apply Kd.R_drew)); exact HO117.out), (by (with_reducible repeat (first | refine Ja50_ ?_ _ | refine Ja49_ ?_ | refine Ja48_ ?_ _)); exact BK101.out), (by (with_reducible repeat (first | refine Ja50_ ?_ _ | refine Ja49_ ?_ | refine Ja48_ ?_ _)); exact BK102.out), (by repeat (first | (with_reducible first | exact HB.out | apply Ja43_ | apply Ja41_ | apply Ja42_ | refine Ja46_ ?_ GE101.out | refine Ja46_ ?_ GE102.out) | exact HB.out))⟩)
           ·skip
            rintro ⟨v104, v110⟩ w12 ⟨hS_, h0_, h1_, h2_, h3_, h4_⟩
            have n0_ : Ja38_ (Kd.R Kd.string 9 w12 w.heap.size (fun k_ => some k_ ≠ (v110 : Value).ownBlock) v104 y103) := ⟨h0_⟩
            have n1_ : Ja38_ (Kd.R Kd.string 9 w12 w.heap.size (fun k_ => some k_ ≠ (v104 : Value).ownBlock) v110 y109) := ⟨h1_⟩
            have n2_ : Ja38_ (w12.heap[gb101]? = some (.cells #[.slice A0_0 l0_0.length c0_0, .slice A0_1 l0_1.length c0_1, .slice A0_2 l0_2.length c0_2] 107 (0, 0))) := ⟨h2_⟩
            have n3_ : Ja38_ (w12.heap[gb102]? = some (.cells #[.slice none 0 0, .slice none 0 0, .slice none 0 0] 112 (0, 0))) := ⟨h3_⟩
            have n4_ : Ja38_ (Below w.heap.size w w12) := ⟨h4_⟩
            clear BK101
            clear BK102
            clear HB
            clear h0_ h1_ h2_ h3_ h4_
            have HO105 := n0_
            have HO111 := n1_
            have BK101 := n2_
            have BK102 := n3_
            have HB := n4_
            clear n0_ n1_ n2_ n3_ n4_
            have hHeld : w12.cell? ⟨gb101, 0, none⟩ = some (.slice A0_0 l0_0.length c0_0) ∧ w12.cell? ⟨gb101, 1, none⟩ = some (.slice A0_1 l0_1.length c0_1) ∧ w12.cell? ⟨gb101, 2, none⟩ = some (.slice A0_2 l0_2.length c0_2) := hS_
            refine norm_ (a' := ?_) ?_ ?_
            rotate_left
            ·simp only [putAll, Act.put, sA_, sB_, sC_]
             rfl
            refine two_ (i := 3) (j := 8) (Ni := some 6) (Nj := some 11) (bz_ 14 1663) (bz_ 14 1911) rfl rfl rfl rfl (two_of HT_.out (by kernel_rfl)) (by decide) (by decide) (fun K hK => ?_) (fun K hK => ?_)
            ·skip
             refine Kd.R_append_rows_step Kd.string (w0 := w) w.heap.size (by rfl) (.tmp 3) (.tmp 5) 27 9 (.string ⟨#[]⟩) 16 rfl Try.underlying27 info9 rfl (by decide) (by omega) v104 y103 l0_0 _ _ _ (fun k_ => some k_ ≠ (v110 : Value).ownBlock) (fun _ => False) rfl rfl ?aO ?aR (fun _ _ h => h) (fun _ h => h.elim) ?aF ?aB ?aS ?aL ?_
             (case aR => repeat (first | exact (Kd.C_below HR0_0.out HB.out) | (with_reducible refine Kd.C_alloc ?_ _) | (with_reducible refine Kd.C_drewN ?_ _) | (with_reducible refine Kd.C_drew ?_)))
             (case aB => exact (by repeat (first | (with_reducible first | exact HB.out | apply Ja43_ | apply Ja41_ | apply Ja42_ | refine Ja46_ ?_ GE101.out | refine Ja46_ ?_ GE102.out) | exact HB.out)))
             (case aF => exact (fun k_ hk => Kd.fresh' (Kd.R_lt (by (with_reducible repeat (first | apply Kd.R_alloc | apply Kd.R_drewN | apply Kd.R_drew)); exact HO111.out)) k_ hk))
             (case aO => exact (by (with_reducible repeat (first | apply Kd.R_alloc | apply Kd.R_drewN | apply Kd.R_drew)); exact HO105.out))
             (case aS => exact (Ja45_ (by repeat (first | (with_reducible first | exact HB.out | apply Ja43_ | apply Ja41_ | apply Ja42_ | refine Ja46_ ?_ GE101.out | refine Ja46_ ?_ GE102.out) | exact HB.out))))
             (case aL => have := LMc2.out; omega)
             intro v107 w13 ho hb hg hat
             rw [← Ny106.out] at ho
             have n0_ := Ja38_.mk (blk_grown (g := gb101) (o := .cells #[.slice A0_0 l0_0.length c0_0, .slice A0_1 l0_1.length c0_1, .slice A0_2 l0_2.length c0_2] 107 (0, 0)) (by (with_reducible repeat (first | refine Ja50_ ?_ _ | refine Ja49_ ?_ | refine Ja48_ ?_ _)); exact BK101.out) hg (Kd.R_ne HO105.out BK101.out (by decide)))
             have n1_ := Ja38_.mk (blk_grown (g := gb102) (o := .cells #[.slice none 0 0, .slice none 0 0, .slice none 0 0] 112 (0, 0)) (by (with_reducible repeat (first | refine Ja50_ ?_ _ | refine Ja49_ ?_ | refine Ja48_ ?_ _)); exact BK102.out) hg (Kd.R_ne HO105.out BK102.out (by decide)))
             have n2_ := Ja38_.mk (Kd.R_after (ok := (fun _ => True)) (by (with_reducible repeat (first | apply Kd.R_alloc | apply Kd.R_drewN | apply Kd.R_drew)); exact Kd.R_mono HO111.out (fun _ hk => ⟨trivial, hk⟩)) hg hat)
             have n3_ := Ja38_.mk (hb)
             have n4_ := Ja38_.mk (ho)
             clear BK101
             clear BK102
             clear HO111
             clear HB
             clear HO105
             have BK101 := n0_
             have BK102 := n1_
             have HO111 := n2_
             have HB := n3_
             have HO108 := n4_
             clear n0_ n1_ n2_ n3_ n4_
             clear ho hb hg hat
             refine hK.out _ _ ⟨(Ja39_ BK101.out 0).trans rfl, (Ja39_ BK101.out 1).trans rfl, (Ja39_ BK101.out 2).trans rfl⟩ (fun hHeld => ?_)
             clear hK K
             refine norm_ (a' := ?_) ?_ ?_
             rotate_left
             ·show Act.put _ (some 6) _ = _
              simp only [Act.put, sA_, sB_, sC_, i64_w, i32_w]
              rfl
             exact norm_ (by first | (simp only [putAll, Act.put, sA_, sB_, sC_]; done) | (simp only [putAll, Act.put, sA_, sB_, sC_]; rfl)) (hJ0_3_4 (v104, v107, v110) _ ⟨hHeld, (by (with_reducible repeat (first | apply Kd.R_alloc | apply Kd.R_drewN | apply Kd.R_drew)); exact HO108.out), (by (with_reducible repeat (first | apply Kd.R_alloc | apply Kd.R_drewN | apply Kd.R_drew)); exact Kd.R_mono HO111.out (fun _ hk => hk.2)), (by (with_reducible repeat (first | refine Ja50_ ?_ _ | refine Ja49_ ?_ | refine Ja48_ ?_ _)); exact BK101.out), (by (with_reducible repeat (first | refine Ja50_ ?_ _ | refine Ja49_ ?_ | refine Ja48_ ?_ _)); exact BK102.out), (by repeat (first | (with_reducible first | exact HB.out | apply Ja43_ | apply Ja41_ | apply Ja42_ | refine Ja46_ ?_ GE101.out | refine Ja46_ ?_ GE102.out) | exact HB.out))⟩)
            ·skip
             refine Kd.R_lit_step Kd.string _ 9 ?hg (N := 11) ?hd (xs := ([] : List ByteArray)) (inner := []) (ok := fun _ => True) (okp := fun _ => True) ?hr ?hp (fun _ hk => hk) trivial (Below.refl _ _) (Nat.le_refl _) (by simp) ?_; (case hd => rfl); (case hg => rfl); (case hr => first | (go_simp; done) | (go_simp; rfl)); (case hp => exact (Reps.none _ _))
             intro v116 w13 ho14 hb hg_ hnew_
             clear hg_ hnew_
             (first | rw [← Ny115.out] at ho14 | (simp only [Int.reduceToNat] at ho14; rw [← Ny115.out] at ho14))
             have n0_ := Ja38_.mk (Kd.R_elder' (by (with_reducible repeat (first | apply Kd.R_alloc | apply Kd.R_drewN | apply Kd.R_drew)); exact HO105.out) (Kd.R_base ho14) hb)
             have n1_ := Ja38_.mk (Kd.R_elder' (by (with_reducible repeat (first | apply Kd.R_alloc | apply Kd.R_drewN | apply Kd.R_drew)); exact HO111.out) (Kd.R_base ho14) hb)
             have n2_ := Ja38_.mk (Kd.R_lower (Kd.R_new' (Kd.R_new' ho14 (Kd.R_lt (by (with_reducible repeat (first | apply Kd.R_alloc | apply Kd.R_drewN | apply Kd.R_drew)); exact HO105.out))) (Kd.R_lt (by (with_reducible repeat (first | apply Kd.R_alloc | apply Kd.R_drewN | apply Kd.R_drew)); exact HO111.out))) (Ja45_ (by repeat (first | (with_reducible first | exact HB.out | apply Ja43_ | apply Ja41_ | apply Ja42_ | refine Ja46_ ?_ GE101.out | refine Ja46_ ?_ GE102.out) | exact HB.out))))
             have n3_ := Ja38_.mk (Ja47_ (g := gb101) (o := .cells #[.slice A0_0 l0_0.length c0_0, .slice A0_1 l0_1.length c0_1, .slice A0_2 l0_2.length c0_2] 107 (0, 0)) (by (with_reducible repeat (first | refine Ja50_ ?_ _ | refine Ja49_ ?_ | refine Ja48_ ?_ _)); exact BK101.out) hb)
             have n4_ := Ja38_.mk (Ja47_ (g := gb102) (o := .cells #[.slice none 0 0, .slice none 0 0, .slice none 0 0] 112 (0, 0)) (by (with_reducible repeat (first | refine Ja50_ ?_ _ | refine Ja49_ ?_ | refine Ja48_ ?_ _)); exact BK102.out) hb)
             have n5_ := Ja38_.mk (Ja44_ (by repeat (first | (with_reducible first | exact HB.out | apply Ja43_ | apply Ja41_ | apply Ja42_ | refine Ja46_ ?_ GE101.out | refine Ja46_ ?_ GE102.out) | exact HB.out)) hb)
             clear HO105
             clear HO111
             clear BK101
             clear BK102
             clear HB
             have HO105 := n0_
             have HO111 := n1_
             have HO117 := n2_
             have BK101 := n3_
             have BK102 := n4_
             have HB := n5_
             clear n0_ n1_ n2_ n3_ n4_ n5_
             clear hb ho14
             refine hK.out _ _ ⟨(Ja39_ BK101.out 0).trans rfl, (Ja39_ BK101.out 1).trans rfl, (Ja39_ BK101.out 2).trans rfl⟩ (fun hHeld => ?_)
             clear hK K
             refine norm_ (a' := ?_) ?_ ?_
             rotate_left
             ·show Act.put _ (some 11) _ = _
              simp only [Act.put, sA_, sB_, sC_, i64_w, i32_w]
              rfl
             exact norm_ (by first | (simp only [putAll, Act.put, sA_, sB_, sC_]; done) | (simp only [putAll, Act.put, sA_, sB_, sC_]; rfl)) (hJ0_4_8 (v104, v110, v116) _ ⟨hHeld, (by (with_reducible repeat (first | apply Kd.R_alloc | apply Kd.R_drewN | apply Kd.R_drew)); exact HO105.out), (by (with_reducible repeat (first | apply Kd.R_alloc | apply Kd.R_drewN | apply Kd.R_drew)); exact HO111.out), (by (with_reducible repeat (first | apply Kd.R_alloc | apply Kd.R_drewN | apply Kd.R_drew)); exact Kd.R_mono HO117.out (fun _ hk => ⟨hk.1.2, hk.2⟩)), (by (with_reducible repeat (first | refine Ja50_ ?_ _ | refine Ja49_ ?_ | refine Ja48_ ?_ _)); exact BK101.out), (by (with_reducible repeat (first | refine Ja50_ ?_ _ | refine Ja49_ ?_ | refine Ja48_ ?_ _)); exact BK102.out), (by repeat (first | (with_reducible first | exact HB.out | apply Ja43_ | apply Ja41_ | apply Ja42_ | refine Ja46_ ?_ GE101.out | refine Ja46_ ?_ GE102.out) | exact HB.out))⟩)
          ·skip
           rintro ⟨v104, v107⟩ w11 ⟨hS_, h0_, h1_, h2_, h3_⟩
           have n0_ : Ja38_ (Kd.R Kd.string 9 w11 w.heap.size (fun _ => True) v107 y106) := ⟨h0_⟩
           have n1_ : Ja38_ (w11.heap[gb101]? = some (.cells #[.slice A0_0 l0_0.length c0_0, .slice A0_1 l0_1.length c0_1, .slice A0_2 l0_2.length c0_2] 107 (0, 0))) := ⟨h1_⟩
           have n2_ : Ja38_ (w11.heap[gb102]? = some (.cells #[.slice none 0 0, .slice none 0 0, .slice none 0 0] 112 (0, 0))) := ⟨h2_⟩
           have n3_ : Ja38_ (Below w.heap.size w w11) := ⟨h3_⟩
           clear BK101
           clear BK102
           clear HB
           clear h0_ h1_ h2_ h3_
           have HO108 := n0_
           have BK101 := n1_
           have BK102 := n2_
           have HB := n3_
           clear n0_ n1_ n2_ n3_
           have hHeld : w11.cell? ⟨gb101, 0, none⟩ = some (.slice A0_0 l0_0.length c0_0) ∧ w11.cell? ⟨gb101, 1, none⟩ = some (.slice A0_1 l0_1.length c0_1) ∧ w11.cell? ⟨gb101, 2, none⟩ = some (.slice A0_2 l0_2.length c0_2) := hS_
           refine norm_ (a' := ?_) ?_ ?_
           rotate_left
           ·simp only [putAll, Act.put, sA_, sB_, sC_]
            rfl
           refine two_ (i := 4) (j := 8) (Ni := some 7) (Nj := some 11) (bz_ 14 1663) (bz_ 14 1903) rfl rfl rfl rfl (two_of HT_.out (by kernel_rfl)) (by decide) (by decide) (fun K hK => ?_) (fun K hK => ?_)
           ·skip
            refine Kd.R_lit_step Kd.string _ 9 ?hg (N := 7) ?hd (xs := ([] : List ByteArray)) (inner := []) (ok := fun _ => True) (okp := fun _ => True) ?hr ?hp (fun _ hk => hk) trivial (Below.refl _ _) (Nat.le_refl _) (by simp) ?_; (case hd => rfl); (case hg => rfl); (case hr => first | (go_simp; done) | (go_simp; rfl)); (case hp => exact (Reps.none _ _))
            intro v110 w12 ho13 hb hg_ hnew_
            clear hg_ hnew_
            (first | rw [← Ny109.out] at ho13 | (simp only [Int.reduceToNat] at ho13; rw [← Ny109.out] at ho13))
            have n0_ := Ja38_.mk (Kd.R_elder' (by (with_reducible repeat (first | apply Kd.R_alloc | apply Kd.R_drewN | apply Kd.R_drew)); exact HO108.out) (Kd.R_base ho13) hb)
            have n1_ := Ja38_.mk (Kd.R_lower (Kd.R_new' ho13 (Kd.R_lt (by (with_reducible repeat (first | apply Kd.R_alloc | apply Kd.R_drewN | apply Kd.R_drew)); exact HO108.out))) (Ja45_ (by repeat (first | (with_reducible first | exact HB.out | apply Ja43_ | apply Ja41_ | apply Ja42_ | refine Ja46_ ?_ GE101.out | refine Ja46_ ?_ GE102.out) | exact HB.out))))
            have n2_ := Ja38_.mk (Ja47_ (g := gb101) (o := .cells #[.slice A0_0 l0_0.length c0_0, .slice A0_1 l0_1.length c0_1, .slice A0_2 l0_2.length c0_2] 107 (0, 0)) (by (with_reducible repeat (first | refine Ja50_ ?_ _ | refine Ja49_ ?_ | refine Ja48_ ?_ _)); exact BK101.out) hb)
            have n3_ := Ja38_.mk (Ja47_ (g := gb102) (o := .cells #[.slice none 0 0, .slice none 0 0, .slice none 0 0] 112 (0, 0)) (by (with_reducible repeat (first | refine Ja50_ ?_ _ | refine Ja49_ ?_ | refine Ja48_ ?_ _)); exact BK102.out) hb)
            have n4_ := Ja38_.mk (Ja44_ (by repeat (first | (with_reducible first | exact HB.out | apply Ja43_ | apply Ja41_ | apply Ja42_ | refine Ja46_ ?_ GE101.out | refine Ja46_ ?_ GE102.out) | exact HB.out)) hb)
            clear HO108
            clear BK101
            clear BK102
            clear HB
            have HO108 := n0_
            have HO111 := n1_
            have BK101 := n2_
            have BK102 := n3_
            have HB := n4_
            clear n0_ n1_ n2_ n3_ n4_
            clear hb ho13
            refine hK.out _ _ ⟨(Ja39_ BK101.out 0).trans rfl, (Ja39_ BK101.out 1).trans rfl, (Ja39_ BK101.out 2).trans rfl⟩ (fun hHeld => ?_)
            clear hK K
            refine norm_ (a' := ?_) ?_ ?_
            rotate_left
            ·show Act.put _ (some 7) _ = _
             simp only [Act.put, sA_, sB_, sC_, i64_w, i32_w]
             rfl
            exact norm_ (by first | (simp only [putAll, Act.put, sA_, sB_, sC_]; done) | (simp only [putAll, Act.put, sA_, sB_, sC_]; rfl)) (hJ0_3_4 (v104, v107, v110) _ ⟨hHeld, (by (with_reducible repeat (first | apply Kd.R_alloc | apply Kd.R_drewN | apply Kd.R_drew)); exact Kd.R_mono HO108.out (fun _ hk => hk.2)), (by (with_reducible repeat (first | apply Kd.R_alloc | apply Kd.R_drewN | apply Kd.R_drew)); exact Kd.R_mono HO111.out (fun _ hk => hk.2)), (by (with_reducible repeat (first | refine Ja50_ ?_ _ | refine Ja49_ ?_ | refine Ja48_ ?_ _)); exact BK101.out), (by (with_reducible repeat (first | refine Ja50_ ?_ _ | refine Ja49_ ?_ | refine Ja48_ ?_ _)); exact BK102.out), (by repeat (first | (with_reducible first | exact HB.out | apply Ja43_ | apply Ja41_ | apply Ja42_ | refine Ja46_ ?_ GE101.out | refine Ja46_ ?_ GE102.out) | exact HB.out))⟩)
           ·skip
            refine Kd.R_lit_step Kd.string _ 9 ?hg (N := 11) ?hd (xs := ([] : List ByteArray)) (inner := []) (ok := fun _ => True) (okp := fun _ => True) ?hr ?hp (fun _ hk => hk) trivial (Below.refl _ _) (Nat.le_refl _) (by simp) ?_; (case hd => rfl); (case hg => rfl); (case hr => first | (go_simp; done) | (go_simp; rfl)); (case hp => exact (Reps.none _ _))
            intro v116 w12 ho13 hb hg_ hnew_
            clear hg_ hnew_
            (first | rw [← Ny115.out] at ho13 | (simp only [Int.reduceToNat] at ho13; rw [← Ny115.out] at ho13))
            have n0_ := Ja38_.mk (Kd.R_elder' (by (with_reducible repeat (first | apply Kd.R_alloc | apply Kd.R_drewN | apply Kd.R_drew)); exact HO108.out) (Kd.R_base ho13) hb)
            have n1_ := Ja38_.mk (Kd.R_lower (Kd.R_new' ho13 (Kd.R_lt (by (with_reducible repeat (first | apply Kd.R_alloc | apply Kd.R_drewN | apply Kd.R_drew)); exact HO108.out))) (Ja45_ (by repeat (first | (with_reducible first | exact HB.out | apply Ja43_ | apply Ja41_ | apply Ja42_ | refine Ja46_ ?_ GE101.out | refine Ja46_ ?_ GE102.out) | exact HB.out))))
            have n2_ := Ja38_.mk (Ja47_ (g := gb101) (o := .cells #[.slice A0_0 l0_0.length c0_0, .slice A0_1 l0_1.length c0_1, .slice A0_2 l0_2.length c0_2] 107 (0, 0)) (by (with_reducible repeat (first | refine Ja50_ ?_ _ | refine Ja49_ ?_ | refine Ja48_ ?_ _)); exact BK101.out) hb)
            have n3_ := Ja38_.mk (Ja47_ (g := gb102) (o := .cells #[.slice none 0 0, .slice none 0 0, .slice none 0 0] 112 (0, 0)) (by (with_reducible repeat (first | refine Ja50_ ?_ _ | refine Ja49_ ?_ | refine Ja48_ ?_ _)); exact BK102.out) hb)
            have n4_ := Ja38_.mk (Ja44_ (by repeat (first | (with_reducible first | exact HB.out | apply Ja43_ | apply Ja41_ | apply Ja42_ | refine Ja46_ ?_ GE101.out | refine Ja46_ ?_ GE102.out) | exact HB.out)) hb)
            clear HO108
            clear BK101
            clear BK102
            clear HB
            have HO108 := n0_
            have HO117 := n1_
            have BK101 := n2_
            have BK102 := n3_
            have HB := n4_
            clear n0_ n1_ n2_ n3_ n4_
            clear hb ho13
            refine hK.out _ _ ⟨(Ja39_ BK101.out 0).trans rfl, (Ja39_ BK101.out 1).trans rfl, (Ja39_ BK101.out 2).trans rfl⟩ (fun hHeld => ?_)
            clear hK K
            refine norm_ (a' := ?_) ?_ ?_
            rotate_left
            ·show Act.put _ (some 11) _ = _
             simp only [Act.put, sA_, sB_, sC_, i64_w, i32_w]
             rfl
            exact norm_ (by first | (simp only [putAll, Act.put, sA_, sB_, sC_]; done) | (simp only [putAll, Act.put, sA_, sB_, sC_]; rfl)) (hJ0_3_8 (v104, v107, v116) _ ⟨hHeld, (by (with_reducible repeat (first | apply Kd.R_alloc | apply Kd.R_drewN | apply Kd.R_drew)); exact Kd.R_mono HO108.out (fun _ hk => hk.2)), (by (with_reducible repeat (first | apply Kd.R_alloc | apply Kd.R_drewN | apply Kd.R_drew)); exact Kd.R_mono HO117.out (fun _ hk => hk.2)), (by (with_reducible repeat (first | refine Ja50_ ?_ _ | refine Ja49_ ?_ | refine Ja48_ ?_ _)); exact BK101.out), (by (with_reducible repeat (first | refine Ja50_ ?_ _ | refine Ja49_ ?_ | refine Ja48_ ?_ _)); exact BK102.out), (by repeat (first | (with_reducible first | exact HB.out | apply Ja43_ | apply Ja41_ | apply Ja42_ | refine Ja46_ ?_ GE101.out | refine Ja46_ ?_ GE102.out) | exact HB.out))⟩)
         ·skip
          rintro ⟨v104, v110, v116⟩ w14 ⟨hS_, h0_, h1_, h2_, h3_, h4_, h5_⟩
          have n0_ : Ja38_ (Kd.R Kd.string 9 w14 w.heap.size (fun k_ => some k_ ≠ (v110 : Value).ownBlock ∧ some k_ ≠ (v116 : Value).ownBlock) v104 y103) := ⟨h0_⟩
          have n1_ : Ja38_ (Kd.R Kd.string 9 w14 w.heap.size (fun k_ => some k_ ≠ (v104 : Value).ownBlock ∧ some k_ ≠ (v116 : Value).ownBlock) v110 y109) := ⟨h1_⟩
          have n2_ : Ja38_ (Kd.R Kd.string 9 w14 w.heap.size (fun k_ => some k_ ≠ (v104 : Value).ownBlock ∧ some k_ ≠ (v110 : Value).ownBlock) v116 y115) := ⟨h2_⟩
          have n3_ : Ja38_ (w14.heap[gb101]? = some (.cells #[.slice A0_0 l0_0.length c0_0, .slice A0_1 l0_1.length c0_1, .slice A0_2 l0_2.length c0_2] 107 (0, 0))) := ⟨h3_⟩
          have n4_ : Ja38_ (w14.heap[gb102]? = some (.cells #[.slice none 0 0, .slice none 0 0, .slice none 0 0] 112 (0, 0))) := ⟨h4_⟩
          have n5_ : Ja38_ (Below w.heap.size w w14) := ⟨h5_⟩
          clear BK101
          clear BK102
          clear HB
          clear h0_ h1_ h2_ h3_ h4_ h5_
          have HO105 := n0_
          have HO111 := n1_
          have HO117 := n2_
          have BK101 := n3_
          have BK102 := n4_
          have HB := n5_
          clear n0_ n1_ n2_ n3_ n4_ n5_
          have hHeld : w14.cell? ⟨gb101, 0, none⟩ = some (.slice A0_0 l0_0.length c0_0) ∧ w14.cell? ⟨gb101, 1, none⟩ = some (.slice A0_1 l0_1.length c0_1) ∧ w14.cell? ⟨gb101, 2, none⟩ = some (.slice A0_2 l0_2.length c0_2) := hS_
          refine norm_ (a' := ?_) ?_ ?_
          rotate_left
          ·simp only [putAll, Act.put, sA_, sB_, sC_]
           rfl
          refine one_ (i := 3) (N := some 6) (bz_ 14 1919) rfl rfl (one_of HT_.out (by kernel_rfl)) (by decide) (fun K hK => ?_)
          refine Kd.R_append_rows_step Kd.string (w0 := w) w.heap.size (by rfl) (.tmp 3) (.tmp 5) 27 9 (.string ⟨#[]⟩) 16 rfl Try.underlying27 info9 rfl (by decide) (by omega) v104 y103 l0_0 _ _ _ (fun k_ => some k_ ≠ (v110 : Value).ownBlock ∧ some k_ ≠ (v116 : Value).ownBlock) (fun _ => False) rfl rfl ?aO ?aR (fun _ _ h => h) (fun _ h => h.elim) ?aF ?aB ?aS ?aL ?_
          (case aR => repeat (first | exact (Kd.C_below HR0_0.out HB.out) | (with_reducible refine Kd.C_alloc ?_ _) | (with_reducible refine Kd.C_drewN ?_ _) | (with_reducible refine Kd.C_drew ?_)))
          (case aB => exact (by repeat (first | (with_reducible first | exact HB.out | apply Ja43_ | apply Ja41_ | apply Ja42_ | refine Ja46_ ?_ GE101.out | refine Ja46_ ?_ GE102.out) | exact HB.out)))
          (case aF => exact (fun k_ hk => ⟨Kd.fresh' (Kd.R_lt (by (with_reducible repeat (first | apply Kd.R_alloc | apply Kd.R_drewN | apply Kd.R_drew)); exact HO111.out)) k_ hk, Kd.fresh' (Kd.R_lt (by (with_reducible repeat (first | apply Kd.R_alloc | apply Kd.R_drewN | apply Kd.R_drew)); exact HO117.out)) k_ hk⟩))
          (case aO => exact (by (with_reducible repeat (first | apply Kd.R_alloc | apply Kd.R_drewN | apply Kd.R_drew)); exact HO105.out))
          (case aS => exact (Ja45_ (by repeat (first | (with_reducible first | exact HB.out | apply Ja43_ | apply Ja41_ | apply Ja42_ | refine Ja46_ ?_ GE101.out | refine Ja46_ ?_ GE102.out) | exact HB.out))))
          (case aL => have := LMc2.out; omega)
          intro v107 w15 ho hb hg hat
          rw [← Ny106.out] at ho
          have n0_ := Ja38_.mk (blk_grown (g := gb101) (o := .cells #[.slice A0_0 l0_0.length c0_0, .slice A0_1 l0_1.length c0_1, .slice A0_2 l0_2.length c0_2] 107 (0, 0)) (by (with_reducible repeat (first | refine Ja50_ ?_ _ | refine Ja49_ ?_ | refine Ja48_ ?_ _)); exact BK101.out) hg (Kd.R_ne HO105.out BK101.out (by decide)))
          have n1_ := Ja38_.mk (blk_grown (g := gb102) (o := .cells #[.slice none 0 0, .slice none 0 0, .slice none 0 0] 112 (0, 0)) (by (with_reducible repeat (first | refine Ja50_ ?_ _ | refine Ja49_ ?_ | refine Ja48_ ?_ _)); exact BK102.out) hg (Kd.R_ne HO105.out BK102.out (by decide)))
          have n2_ := Ja38_.mk (Kd.R_after (ok := (fun k_ => some k_ ≠ (v116 : Value).ownBlock)) (by (with_reducible repeat (first | apply Kd.R_alloc | apply Kd.R_drewN | apply Kd.R_drew)); exact Kd.R_mono HO111.out (fun _ hk => ⟨hk.2, hk.1⟩)) hg hat)
          have n3_ := Ja38_.mk (Kd.R_after (ok := (fun k_ => some k_ ≠ (v110 : Value).ownBlock)) (by (with_reducible repeat (first | apply Kd.R_alloc | apply Kd.R_drewN | apply Kd.R_drew)); exact Kd.R_mono HO117.out (fun _ hk => ⟨hk.2, hk.1⟩)) hg hat)
          have n4_ := Ja38_.mk (hb)
          have n5_ := Ja38_.mk (ho)
          clear BK101
          clear BK102
          clear HO111
          clear HO117
          clear HB
          clear HO105
          have BK101 := n0_
          have BK102 := n1_
          have HO111 := n2_
          have HO117 := n3_
          have HB := n4_
          have HO108 := n5_
          clear n0_ n1_ n2_ n3_ n4_ n5_
          clear ho hb hg hat
          refine hK.out _ _ ⟨(Ja39_ BK101.out 0).trans rfl, (Ja39_ BK101.out 1).trans rfl, (Ja39_ BK101.out 2).trans rfl⟩ (fun hHeld => ?_)
          clear hK K
          refine norm_ (a' := ?_) ?_ ?_
          rotate_left
          ·show Act.put _ (some 6) _ = _
           simp only [Act.put, sA_, sB_, sC_, i64_w, i32_w]
           rfl
          exact norm_ (by first | (simp only [putAll, Act.put, sA_, sB_, sC_]; done) | (simp only [putAll, Act.put, sA_, sB_, sC_]; rfl)) (hJ0_3_4_8 (v104, v107, v110, v116) _ ⟨hHeld, (by (with_reducible repeat (first | apply Kd.R_alloc | apply Kd.R_drewN | apply Kd.R_drew)); exact HO108.out), (by (with_reducible repeat (first | apply Kd.R_alloc | apply Kd.R_drewN | apply Kd.R_drew)); exact Kd.R_mono HO111.out (fun _ hk => ⟨hk.2, hk.1⟩)), (by (with_reducible repeat (first | apply Kd.R_alloc | apply Kd.R_drewN | apply Kd.R_drew)); exact Kd.R_mono HO117.out (fun _ hk => ⟨hk.2, hk.1⟩)), (by (with_reducible repeat (first | refine Ja50_ ?_ _ | refine Ja49_ ?_ | refine Ja48_ ?_ _)); exact BK101.out), (by (with_reducible repeat (first | refine Ja50_ ?_ _ | refine Ja49_ ?_ | refine Ja48_ ?_ _)); exact BK102.out), (by repeat (first | (with_reducible first | exact HB.out | apply Ja43_ | apply Ja41_ | apply Ja42_ | refine Ja46_ ?_ GE101.out | refine Ja46_ ?_ GE102.out) | exact HB.out))⟩)
        ·skip
         rintro ⟨v104, v107, v116⟩ w13 ⟨hS_, h0_, h1_, h2_, h3_, h4_⟩
         have n0_ : Ja38_ (Kd.R Kd.string 9 w13 w.heap.size (fun k_ => some k_ ≠ (v116 : Value).ownBlock) v107 y106) := ⟨h0_⟩
         have n1_ : Ja38_ (Kd.R Kd.string 9 w13 w.heap.size (fun k_ => some k_ ≠ (v107 : Value).ownBlock) v116 y115) := ⟨h1_⟩
         have n2_ : Ja38_ (w13.heap[gb101]? = some (.cells #[.slice A0_0 l0_0.length c0_0, .slice A0_1 l0_1.length c0_1, .slice A0_2 l0_2.length c0_2] 107 (0, 0))) := ⟨h2_⟩
         have n3_ : Ja38_ (w13.heap[gb102]? = some (.cells #[.slice none 0 0, .slice none 0 0, .slice none 0 0] 112 (0, 0))) := ⟨h3_⟩
         have n4_ : Ja38_ (Below w.heap.size w w13) := ⟨h4_⟩
         clear BK101
         clear BK102
         clear HB
         clear h0_ h1_ h2_ h3_ h4_
         have HO108 := n0_
         have HO117 := n1_
         have BK101 := n2_
         have BK102 := n3_
         have HB := n4_
         clear n0_ n1_ n2_ n3_ n4_
         have hHeld : w13.cell? ⟨gb101, 0, none⟩ = some (.slice A0_0 l0_0.length c0_0) ∧ w13.cell? ⟨gb101, 1, none⟩ = some (.slice A0_1 l0_1.length c0_1) ∧ w13.cell? ⟨gb101, 2, none⟩ = some (.slice A0_2 l0_2.length c0_2) := hS_
         refine norm_ (a' := ?_) ?_ ?_
         rotate_left
         ·simp only [putAll, Act.put, sA_, sB_, sC_]
          rfl
         refine one_ (i := 4) (N := some 7) (bz_ 14 1919) rfl rfl (one_of HT_.out (by kernel_rfl)) (by decide) (fun K hK => ?_)
         refine Kd.R_lit_step Kd.string _ 9 ?hg (N := 7) ?hd (xs := ([] : List ByteArray)) (inner := []) (ok := fun _ => True) (okp := fun _ => True) ?hr ?hp (fun _ hk => hk) trivial (Below.refl _ _) (Nat.le_refl _) (by simp) ?_; (case hd => rfl); (case hg => rfl); (case hr => first | (go_simp; done) | (go_simp; rfl)); (case hp => exact (Reps.none _ _))
         intro v110 w14 ho15 hb hg_ hnew_
         clear hg_ hnew_
         (first | rw [← Ny109.out] at ho15 | (simp only [Int.reduceToNat] at ho15; rw [← Ny109.out] at ho15))
         have n0_ := Ja38_.mk (Kd.R_elder' (by (with_reducible repeat (first | apply Kd.R_alloc | apply Kd.R_drewN | apply Kd.R_drew)); exact HO108.out) (Kd.R_base ho15) hb)
         have n1_ := Ja38_.mk (Kd.R_elder' (by (with_reducible repeat (first | apply Kd.R_alloc | apply Kd.R_drewN | apply Kd.R_drew)); exact HO117.out) (Kd.R_base ho15) hb)
         have n2_ := Ja38_.mk (Kd.R_lower (Kd.R_new' (Kd.R_new' ho15 (Kd.R_lt (by (with_reducible repeat (first | apply Kd.R_alloc | apply Kd.R_drewN | apply Kd.R_drew)); exact HO108.out))) (Kd.R_lt (by (with_reducible repeat (first | apply Kd.R_alloc | apply Kd.R_drewN | apply Kd.R_drew)); exact HO117.out))) (Ja45_ (by repeat (first | (with_reducible first | exact HB.out | apply Ja43_ | apply Ja41_ | apply Ja42_ | refine Ja46_ ?_ GE101.out | refine Ja46_ ?_ GE102.out) | exact HB.out))))
         have n3_ := Ja38_.mk (Ja47_ (g := gb101) (o := .cells #[.slice A0_0 l0_0.length c0_0, .slice A0_1 l0_1.length c0_1, .slice A0_2 l0_2.length c0_2] 107 (0, 0)) (by (with_reducible repeat (first | refine Ja50_ ?_ _ | refine Ja49_ ?_ | refine Ja48_ ?_ _)); exact BK101.out) hb)
         have n4_ := Ja38_.mk (Ja47_ (g := gb102) (o := .cells #[.slice none 0 0, .slice none 0 0, .slice none 0 0] 112 (0, 0)) (by (with_reducible repeat (first | refine Ja50_ ?_ _ | refine Ja49_ ?_ | refine Ja48_ ?_ _)); exact BK102.out) hb)
         have n5_ := Ja38_.mk (Ja44_ (by repeat (first | (with_reducible first | exact HB.out | apply Ja43_ | apply Ja41_ | apply Ja42_ | refine Ja46_ ?_ GE101.out | refine Ja46_ ?_ GE102.out) | exact HB.out)) hb)
         clear HO108
         clear HO117
         clear BK101
         clear BK102
         clear HB
         have HO108 := n0_
         have HO117 := n1_
         have HO111 := n2_
         have BK101 := n3_
         have BK102 := n4_
         have HB := n5_
         clear n0_ n1_ n2_ n3_ n4_ n5_
         clear hb ho15
         refine hK.out _ _ ⟨(Ja39_ BK101.out 0).trans rfl, (Ja39_ BK101.out 1).trans rfl, (Ja39_ BK101.out 2).trans rfl⟩ (fun hHeld => ?_)
         clear hK K
         refine norm_ (a' := ?_) ?_ ?_
         rotate_left
         ·show Act.put _ (some 7) _ = _
          simp only [Act.put, sA_, sB_, sC_, i64_w, i32_w]
          rfl
         exact norm_ (by first | (simp only [putAll, Act.put, sA_, sB_, sC_]; done) | (simp only [putAll, Act.put, sA_, sB_, sC_]; rfl)) (hJ0_3_4_8 (v104, v107, v110, v116) _ ⟨hHeld, (by (with_reducible repeat (first | apply Kd.R_alloc | apply Kd.R_drewN | apply Kd.R_drew)); exact Kd.R_mono HO108.out (fun _ hk => ⟨hk.2, hk.1⟩)), (by (with_reducible repeat (first | apply Kd.R_alloc | apply Kd.R_drewN | apply Kd.R_drew)); exact Kd.R_mono HO111.out (fun _ hk => ⟨hk.1.2, hk.2⟩)), (by (with_reducible repeat (first | apply Kd.R_alloc | apply Kd.R_drewN | apply Kd.R_drew)); exact HO117.out), (by (with_reducible repeat (first | refine Ja50_ ?_ _ | refine Ja49_ ?_ | refine Ja48_ ?_ _)); exact BK101.out), (by (with_reducible repeat (first | refine Ja50_ ?_ _ | refine Ja49_ ?_ | refine Ja48_ ?_ _)); exact BK102.out), (by repeat (first | (with_reducible first | exact HB.out | apply Ja43_ | apply Ja41_ | apply Ja42_ | refine Ja46_ ?_ GE101.out | refine Ja46_ ?_ GE102.out) | exact HB.out))⟩)
       ·skip
        rintro ⟨v104, v107, v110⟩ w13 ⟨hS_, h0_, h1_, h2_, h3_, h4_⟩
        have n0_ : Ja38_ (Kd.R Kd.string 9 w13 w.heap.size (fun k_ => some k_ ≠ (v110 : Value).ownBlock) v107 y106) := ⟨h0_⟩
        have n1_ : Ja38_ (Kd.R Kd.string 9 w13 w.heap.size (fun k_ => some k_ ≠ (v107 : Value).ownBlock) v110 y109) := ⟨h1_⟩
        have n2_ : Ja38_ (w13.heap[gb101]? = some (.cells #[.slice A0_0 l0_0.length c0_0, .slice A0_1 l0_1.length c0_1, .slice A0_2 l0_2.length c0_2] 107 (0, 0))) := ⟨h2_⟩
        have n3_ : Ja38_ (w13.heap[gb102]? = some (.cells #[.slice none 0 0, .slice none 0 0, .slice none 0 0] 112 (0, 0))) := ⟨h3_⟩
        have n4_ : Ja38_ (Below w.heap.size w w13) := ⟨h4_⟩
        clear BK101
        clear BK102
        clear HB
        clear h0_ h1_ h2_ h3_ h4_
        have HO108 := n0_
        have HO111 := n1_
        have BK101 := n2_
        have BK102 := n3_
        have HB := n4_
        clear n0_ n1_ n2_ n3_ n4_
        have hHeld : w13.cell? ⟨gb101, 0, none⟩ = some (.slice A0_0 l0_0.length c0_0) ∧ w13.cell? ⟨gb101, 1, none⟩ = some (.slice A0_1 l0_1.length c0_1) ∧ w13.cell? ⟨gb101, 2, none⟩ = some (.slice A0_2 l0_2.length c0_2) := hS_
        refine norm_ (a' := ?_) ?_ ?_
        rotate_left
        ·simp only [putAll, Act.put, sA_, sB_, sC_]
         rfl
        refine two_ (i := 7) (j := 8) (Ni := some 10) (Nj := some 11) (bz_ 14 1791) (bz_ 14 1919) rfl rfl rfl rfl (two_of HT_.out (by kernel_rfl)) (by decide) (by decide) (fun K hK => ?_) (fun K hK => ?_)
        ·skip
         refine Kd.R_append_rows_step Kd.string (w0 := w) w.heap.size (by rfl) (.tmp 7) (.tmp 9) 27 9 (.string ⟨#[]⟩) 16 rfl Try.underlying27 info9 rfl (by decide) (by omega) v110 y109 l0_1 _ _ _ (fun k_ => some k_ ≠ (v107 : Value).ownBlock) (fun _ => False) rfl rfl ?aO ?aR (fun _ _ h => h) (fun _ h => h.elim) ?aF ?aB ?aS ?aL ?_
         (case aR => repeat (first | exact (Kd.C_below HR0_1.out HB.out) | (with_reducible refine Kd.C_alloc ?_ _) | (with_reducible refine Kd.C_drewN ?_ _) | (with_reducible refine Kd.C_drew ?_)))
         (case aB => exact (by repeat (first | (with_reducible first | exact HB.out | apply Ja43_ | apply Ja41_ | apply Ja42_ | refine Ja46_ ?_ GE101.out | refine Ja46_ ?_ GE102.out) | exact HB.out)))
         (case aF => exact (fun k_ hk => Kd.fresh' (Kd.R_lt (by (with_reducible repeat (first | apply Kd.R_alloc | apply Kd.R_drewN | apply Kd.R_drew)); exact HO108.out)) k_ hk))
         (case aO => exact (by (with_reducible repeat (first | apply Kd.R_alloc | apply Kd.R_drewN | apply Kd.R_drew)); exact HO111.out))
         (case aS => exact (Ja45_ (by repeat (first | (with_reducible first | exact HB.out | apply Ja43_ | apply Ja41_ | apply Ja42_ | refine Ja46_ ?_ GE101.out | refine Ja46_ ?_ GE102.out) | exact HB.out))))
         (case aL => have := LMc3.out; omega)
         intro v113 w14 ho hb hg hat
         rw [← Ny112.out] at ho
         have n0_ := Ja38_.mk (blk_grown (g := gb101) (o := .cells #[.slice A0_0 l0_0.length c0_0, .slice A0_1 l0_1.length c0_1, .slice A0_2 l0_2.length c0_2] 107 (0, 0)) (by (with_reducible repeat (first | refine Ja50_ ?_ _ | refine Ja49_ ?_ | refine Ja48_ ?_ _)); exact BK101.out) hg (Kd.R_ne HO111.out BK101.out (by decide)))
         have n1_ := Ja38_.mk (blk_grown (g := gb102) (o := .cells #[.slice none 0 0, .slice none 0 0, .slice none 0 0] 112 (0, 0)) (by (with_reducible repeat (first | refine Ja50_ ?_ _ | refine Ja49_ ?_ | refine Ja48_ ?_ _)); exact BK102.out) hg (Kd.R_ne HO111.out BK102.out (by decide)))
         have n2_ := Ja38_.mk (Kd.R_after (ok := (fun _ => True)) (by (with_reducible repeat (first | apply Kd.R_alloc | apply Kd.R_drewN | apply Kd.R_drew)); exact Kd.R_mono HO108.out (fun _ hk => ⟨trivial, hk⟩)) hg hat)
         have n3_ := Ja38_.mk (hb)
         have n4_ := Ja38_.mk (ho)
         clear BK101
         clear BK102
         clear HO108
         clear HB
         clear HO111
         have BK101 := n0_
         have BK102 := n1_
         have HO108 := n2_
         have HB := n3_
         have HO114 := n4_
         clear n0_ n1_ n2_ n3_ n4_
         clear ho hb hg hat
         refine hK.out _ _ ⟨(Ja39_ BK101.out 0).trans rfl, (Ja39_ BK101.out 1).trans rfl, (Ja39_ BK101.out 2).trans rfl⟩ (fun hHeld => ?_)
         clear hK K
         refine norm_ (a' := ?_) ?_ ?_
         rotate_left
         ·show Act.put _ (some 10) _ = _
          simp only [Act.put, sA_, sB_, sC_, i64_w, i32_w]
          rfl
         exact norm_ (by first | (simp only [putAll, Act.put, sA_, sB_, sC_]; done) | (simp only [putAll, Act.put, sA_, sB_, sC_]; rfl)) (hJ0_3_4_7 (v104, v107, v110, v113) _ ⟨hHeld, (by (with_reducible repeat (first | apply Kd.R_alloc | apply Kd.R_drewN | apply Kd.R_drew)); exact Kd.R_mono HO108.out (fun _ hk => hk.2)), (by (with_reducible repeat (first | apply Kd.R_alloc | apply Kd.R_drewN | apply Kd.R_drew)); exact HO114.out), (by (with_reducible repeat (first | refine Ja50_ ?_ _ | refine Ja49_ ?_ | refine Ja48_ ?_ _)); exact BK101.out), (by (with_reducible repeat (first | refine Ja50_ ?_ _ | refine Ja49_ ?_ | refine Ja48_ ?_ _)); exact BK102.out), (by repeat (first | (with_reducible first | exact HB.out | apply Ja43_ | apply Ja41_ | apply Ja42_ | refine Ja46_ ?_ GE101.out | refine Ja46_ ?_ GE102.out) | exact HB.out))⟩)
        ·skip
         refine Kd.R_lit_step Kd.string _ 9 ?hg (N := 11) ?hd (xs := ([] : List ByteArray)) (inner := []) (ok := fun _ => True) (okp := fun _ => True) ?hr ?hp (fun _ hk => hk) trivial (Below.refl _ _) (Nat.le_refl _) (by simp) ?_; (case hd => rfl); (case hg => rfl); (case hr => first | (go_simp; done) | (go_simp; rfl)); (case hp => exact (Reps.none _ _))
         intro v116 w14 ho15 hb hg_ hnew_
         clear hg_ hnew_
         (first | rw [← Ny115.out] at ho15 | (simp only [Int.reduceToNat] at ho15; rw [← Ny115.out] at ho15))
         have n0_ := Ja38_.mk (Kd.R_elder' (by (with_reducible repeat (first | apply Kd.R_alloc | apply Kd.R_drewN | apply Kd.R_drew)); exact HO108.out) (Kd.R_base ho15) hb)
         have n1_ := Ja38_.mk (Kd.R_elder' (by (with_reducible repeat (first | apply Kd.R_alloc | apply Kd.R_drewN | apply Kd.R_drew)); exact HO111.out) (Kd.R_base ho15) hb)
         have n2_ := Ja38_.mk (Kd.R_lower (Kd.R_new' (Kd.R_new' ho15 (Kd.R_lt (by (with_reducible repeat (first | apply Kd.R_alloc | apply Kd.R_drewN | apply Kd.R_drew)); exact HO108.out))) (Kd.R_lt (by (with_reducible repeat (first | apply Kd.R_alloc | apply Kd.R_drewN | apply Kd.R_drew)); exact HO111.out))) (Ja45_ (by repeat (first | (with_reducible first | exact HB.out | apply Ja43_ | apply Ja41_ | apply Ja42_ | refine Ja46_ ?_ GE101.out | refine Ja46_ ?_ GE102.out) | exact HB.out))))
         have n3_ := Ja38_.mk (Ja47_ (g := gb101) (o := .cells #[.slice A0_0 l0_0.length c0_0, .slice A0_1 l0_1.length c0_1, .slice A0_2 l0_2.length c0_2] 107 (0, 0)) (by (with_reducible repeat (first | refine Ja50_ ?_ _ | refine Ja49_ ?_ | refine Ja48_ ?_ _)); exact BK101.out) hb)
         have n4_ := Ja38_.mk (Ja47_ (g := gb102) (o := .cells #[.slice none 0 0, .slice none 0 0, .slice none 0 0] 112 (0, 0)) (by (with_reducible repeat (first | refine Ja50_ ?_ _ | refine Ja49_ ?_ | refine Ja48_ ?_ _)); exact BK102.out) hb)
         have n5_ := Ja38_.mk (Ja44_ (by repeat (first | (with_reducible first | exact HB.out | apply Ja43_ | apply Ja41_ | apply Ja42_ | refine Ja46_ ?_ GE101.out | refine Ja46_ ?_ GE102.out) | exact HB.out)) hb)
         clear HO108
         clear HO111
         clear BK101
         clear BK102
         clear HB
         have HO108 := n0_
         have HO111 := n1_
         have HO117 := n2_
         have BK101 := n3_
         have BK102 := n4_
         have HB := n5_
         clear n0_ n1_ n2_ n3_ n4_ n5_
         clear hb ho15
         refine hK.out _ _ ⟨(Ja39_ BK101.out 0).trans rfl, (Ja39_ BK101.out 1).trans rfl, (Ja39_ BK101.out 2).trans rfl⟩ (fun hHeld => ?_)
         clear hK K
         refine norm_ (a' := ?_) ?_ ?_
         rotate_left
         ·show Act.put _ (some 11) _ = _
          simp only [Act.put, sA_, sB_, sC_, i64_w, i32_w]
          rfl
         exact norm_ (by first | (simp only [putAll, Act.put, sA_, sB_, sC_]; done) | (simp only [putAll, Act.put, sA_, sB_, sC_]; rfl)) (hJ0_3_4_8 (v104, v107, v110, v116) _ ⟨hHeld, (by (with_reducible repeat (first | apply Kd.R_alloc | apply Kd.R_drewN | apply Kd.R_drew)); exact HO108.out), (by (with_reducible repeat (first | apply Kd.R_alloc | apply Kd.R_drewN | apply Kd.R_drew)); exact HO111.out), (by (with_reducible repeat (first | apply Kd.R_alloc | apply Kd.R_drewN | apply Kd.R_drew)); exact Kd.R_mono HO117.out (fun _ hk => ⟨hk.1.2, hk.2⟩)), (by (with_reducible repeat (first | refine Ja50_ ?_ _ | refine Ja49_ ?_ | refine Ja48_ ?_ _)); exact BK101.out), (by (with_reducible repeat (first | refine Ja50_ ?_ _ | refine Ja49_ ?_ | refine Ja48_ ?_ _)); exact BK102.out), (by repeat (first | (with_reducible first | exact HB.out | apply Ja43_ | apply Ja41_ | apply Ja42_ | refine Ja46_ ?_ GE101.out | refine Ja46_ ?_ GE102.out) | exact HB.out))⟩)
      ·skip
       rintro ⟨v104, v107, v110, v116⟩ w15 ⟨hS_, h0_, h1_, h2_, h3_, h4_, h5_⟩
       have n0_ : Ja38_ (Kd.R Kd.string 9 w15 w.heap.size (fun k_ => some k_ ≠ (v110 : Value).ownBlock ∧ some k_ ≠ (v116 : Value).ownBlock) v107 y106) := ⟨h0_⟩
       have n1_ : Ja38_ (Kd.R Kd.string 9 w15 w.heap.size (fun k_ => some k_ ≠ (v107 : Value).ownBlock ∧ some k_ ≠ (v116 : Value).ownBlock) v110 y109) := ⟨h1_⟩
       have n2_ : Ja38_ (Kd.R Kd.string 9 w15 w.heap.size (fun k_ => some k_ ≠ (v107 : Value).ownBlock ∧ some k_ ≠ (v110 : Value).ownBlock) v116 y115) := ⟨h2_⟩
       have n3_ : Ja38_ (w15.heap[gb101]? = some (.cells #[.slice A0_0 l0_0.length c0_0, .slice A0_1 l0_1.length c0_1, .slice A0_2 l0_2.length c0_2] 107 (0, 0))) := ⟨h3_⟩
       have n4_ : Ja38_ (w15.heap[gb102]? = some (.cells #[.slice none 0 0, .slice none 0 0, .slice none 0 0] 112 (0, 0))) := ⟨h4_⟩
       have n5_ : Ja38_ (Below w.heap.size w w15) := ⟨h5_⟩
       clear BK101
       clear BK102
       clear HB
       clear h0_ h1_ h2_ h3_ h4_ h5_
       have HO108 := n0_
       have HO111 := n1_
       have HO117 := n2_
       have BK101 := n3_
       have BK102 := n4_
       have HB := n5_
       clear n0_ n1_ n2_ n3_ n4_ n5_
       have hHeld : w15.cell? ⟨gb101, 0, none⟩ = some (.slice A0_0 l0_0.length c0_0) ∧ w15.cell? ⟨gb101, 1, none⟩ = some (.slice A0_1 l0_1.length c0_1) ∧ w15.cell? ⟨gb101, 2, none⟩ = some (.slice A0_2 l0_2.length c0_2) := hS_
       refine norm_ (a' := ?_) ?_ ?_
       rotate_left
       ·simp only [putAll, Act.put, sA_, sB_, sC_]
        rfl
       refine one_ (i := 7) (N := some 10) (bz_ 14 2047) rfl rfl (one_of HT_.out (by kernel_rfl)) (by decide) (fun K hK => ?_)
       refine Kd.R_append_rows_step Kd.string (w0 := w) w.heap.size (by rfl) (.tmp 7) (.tmp 9) 27 9 (.string ⟨#[]⟩) 16 rfl Try.underlying27 info9 rfl (by decide) (by omega) v110 y109 l0_1 _ _ _ (fun k_ => some k_ ≠ (v107 : Value).ownBlock ∧ some k_ ≠ (v116 : Value).ownBlock) (fun _ => False) rfl rfl ?aO ?aR (fun _ _ h => h) (fun _ h => h.elim) ?aF ?aB ?aS ?aL ?_
       (case aR => repeat (first | exact (Kd.C_below HR0_1.out HB.out) | (with_reducible refine Kd.C_alloc ?_ _) | (with_reducible refine Kd.C_drewN ?_ _) | (with_reducible refine Kd.C_drew ?_)))
       (case aB => exact (by repeat (first | (with_reducible first | exact HB.out | apply Ja43_ | apply Ja41_ | apply Ja42_ | refine Ja46_ ?_ GE101.out | refine Ja46_ ?_ GE102.out) | exact HB.out)))
       (case aF => exact (fun k_ hk => ⟨Kd.fresh' (Kd.R_lt (by (with_reducible repeat (first | apply Kd.R_alloc | apply Kd.R_drewN | apply Kd.R_drew)); exact HO108.out)) k_ hk, Kd.fresh' (Kd.R_lt (by (with_reducible repeat (first | apply Kd.R_alloc | apply Kd.R_drewN | apply Kd.R_drew)); exact HO117.out)) k_ hk⟩))
       (case aO => exact (by (with_reducible repeat (first | apply Kd.R_alloc | apply Kd.R_drewN | apply Kd.R_drew)); exact HO111.out))
       (case aS => exact (Ja45_ (by repeat (first | (with_reducible first | exact HB.out | apply Ja43_ | apply Ja41_ | apply Ja42_ | refine Ja46_ ?_ GE101.out | refine Ja46_ ?_ GE102.out) | exact HB.out))))
       (case aL => have := LMc3.out; omega)
       intro v113 w16 ho hb hg hat
       rw [← Ny112.out] at ho
       have n0_ := Ja38_.mk (blk_grown (g := gb101) (o := .cells #[.slice A0_0 l0_0.length c0_0, .slice A0_1 l0_1.length c0_1, .slice A0_2 l0_2.length c0_2] 107 (0, 0)) (by (with_reducible repeat (first | refine Ja50_ ?_ _ | refine Ja49_ ?_ | refine Ja48_ ?_ _)); exact BK101.out) hg (Kd.R_ne HO111.out BK101.out (by decide)))
       have n1_ := Ja38_.mk (blk_grown (g := gb102) (o := .cells #[.slice none 0 0, .slice none 0 0, .slice none 0 0] 112 (0, 0)) (by (with_reducible repeat (first | refine Ja50_ ?_ _ | refine Ja49_ ?_ | refine Ja48_ ?_ _)); exact BK102.out) hg (Kd.R_ne HO111.out BK102.out (by decide)))
       have n2_ := Ja38_.mk (Kd.R_after (ok := (fun k_ => some k_ ≠ (v116 : Value).ownBlock)) (by (with_reducible repeat (first | apply Kd.R_alloc | apply Kd.R_drewN | apply Kd.R_drew)); exact Kd.R_mono HO108.out (fun _ hk => ⟨hk.2, hk.1⟩)) hg hat)
       have n3_ := Ja38_.mk (Kd.R_after (ok := (fun k_ => some k_ ≠ (v107 : Value).ownBlock)) (by (with_reducible repeat (first | apply Kd.R_alloc | apply Kd.R_drewN | apply Kd.R_drew)); exact HO117.out) hg hat)
       have n4_ := Ja38_.mk (hb)
       have n5_ := Ja38_.mk (ho)
       clear BK101
       clear BK102
       clear HO108
       clear HO117
       clear HB
       clear HO111
       have BK101 := n0_
       have BK102 := n1_
       have HO108 := n2_
       have HO117 := n3_
       have HB := n4_
       have HO114 := n5_
       clear n0_ n1_ n2_ n3_ n4_ n5_
       clear ho hb hg hat
       refine hK.out _ _ ⟨(Ja39_ BK101.out 0).trans rfl, (Ja39_ BK101.out 1).trans rfl, (Ja39_ BK101.out 2).trans rfl⟩ (fun hHeld => ?_)
       clear hK K
       refine norm_ (a' := ?_) ?_ ?_
       rotate_left
       ·show Act.put _ (some 10) _ = _
        simp only [Act.put, sA_, sB_, sC_, i64_w, i32_w]
        rfl
       exact norm_ (by first | (simp only [putAll, Act.put, sA_, sB_, sC_]; done) | (simp only [putAll, Act.put, sA_, sB_, sC_]; rfl)) (hJ0_3_4_7_8 (v104, v107, v110, v113, v116) _ ⟨hHeld, (by (with_reducible repeat (first | apply Kd.R_alloc | apply Kd.R_drewN | apply Kd.R_drew)); exact Kd.R_mono HO108.out (fun _ hk => ⟨hk.2, hk.1⟩)), (by (with_reducible repeat (first | apply Kd.R_alloc | apply Kd.R_drewN | apply Kd.R_drew)); exact HO114.out), (by (with_reducible repeat (first | apply Kd.R_alloc | apply Kd.R_drewN | apply Kd.R_drew)); exact HO117.out), (by (with_reducible repeat (first | refine Ja50_ ?_ _ | refine Ja49_ ?_ | refine Ja48_ ?_ _)); exact BK101.out), (by (with_reducible repeat (first | refine Ja50_ ?_ _ | refine Ja49_ ?_ | refine Ja48_ ?_ _)); exact BK102.out), (by repeat (first | (with_reducible first | exact HB.out | apply Ja43_ | apply Ja41_ | apply Ja42_ | refine Ja46_ ?_ GE101.out | refine Ja46_ ?_ GE102.out) | exact HB.out))⟩)
     ·skip
      rintro ⟨v104, v107, v110, v113⟩ w14 ⟨hS_, h0_, h1_, h2_, h3_, h4_⟩
      have n0_ : Ja38_ (Kd.R Kd.string 9 w14 w.heap.size (fun k_ => some k_ ≠ (v113 : Value).ownBlock) v107 y106) := ⟨h0_⟩
      have n1_ : Ja38_ (Kd.R Kd.string 9 w14 w.heap.size (fun k_ => some k_ ≠ (v107 : Value).ownBlock) v113 y112) := ⟨h1_⟩
      have n2_ : Ja38_ (w14.heap[gb101]? = some (.cells #[.slice A0_0 l0_0.length c0_0, .slice A0_1 l0_1.length c0_1, .slice A0_2 l0_2.length c0_2] 107 (0, 0))) := ⟨h2_⟩
      have n3_ : Ja38_ (w14.heap[gb102]? = some (.cells #[.slice none 0 0, .slice none 0 0, .slice none 0 0] 112 (0, 0))) := ⟨h3_⟩
      have n4_ : Ja38_ (Below w.heap.size w w14) := ⟨h4_⟩
      clear BK101
      clear BK102
      clear HB
      clear h0_ h1_ h2_ h3_ h4_
      have HO108 := n0_
      have HO114 := n1_
      have BK101 := n2_
      have BK102 := n3_
      have HB := n4_
      clear n0_ n1_ n2_ n3_ n4_
      have hHeld : w14.cell? ⟨gb101, 0, none⟩ = some (.slice A0_0 l0_0.length c0_0) ∧ w14.cell? ⟨gb101, 1, none⟩ = some (.slice A0_1 l0_1.length c0_1) ∧ w14.cell? ⟨gb101, 2, none⟩ = some (.slice A0_2 l0_2.length c0_2) := hS_
      refine norm_ (a' := ?_) ?_ ?_
      rotate_left
      ·simp only [putAll, Act.put, sA_, sB_, sC_]
       rfl
      refine one_ (i := 8) (N := some 11) (bz_ 14 2047) rfl rfl (one_of HT_.out (by kernel_rfl)) (by decide) (fun K hK => ?_)
      refine Kd.R_lit_step Kd.string _ 9 ?hg (N := 11) ?hd (xs := ([] : List ByteArray)) (inner := []) (ok := fun _ => True) (okp := fun _ => True) ?hr ?hp (fun _ hk => hk) trivial (Below.refl _ _) (Nat.le_refl _) (by simp) ?_; (case hd => rfl); (case hg => rfl); (case hr => first | (go_simp; done) | (go_simp; rfl)); (case hp => exact (Reps.none _ _))
      intro v116 w15 ho16 hb hg_ hnew_
      clear hg_ hnew_
      (first | rw [← Ny115.out] at ho16 | (simp only [Int.reduceToNat] at ho16; rw [← Ny115.out] at ho16))
      have n0_ := Ja38_.mk (Kd.R_elder' (by (with_reducible repeat (first | apply Kd.R_alloc | apply Kd.R_drewN | apply Kd.R_drew)); exact HO108.out) (Kd.R_base ho16) hb)
      have n1_ := Ja38_.mk (Kd.R_elder' (by (with_reducible repeat (first | apply Kd.R_alloc | apply Kd.R_drewN | apply Kd.R_drew)); exact HO114.out) (Kd.R_base ho16) hb)
      have n2_ := Ja38_.mk (Kd.R_lower (Kd.R_new' (Kd.R_new' ho16 (Kd.R_lt (by (with_reducible repeat (first | apply Kd.R_alloc | apply Kd.R_drewN | apply Kd.R_drew)); exact HO108.out))) (Kd.R_lt (by (with_reducible repeat (first | apply Kd.R_alloc | apply Kd.R_drewN | apply Kd.R_drew)); exact HO114.out))) (Ja45_ (by repeat (first | (with_reducible first | exact HB.out | apply Ja43_ | apply Ja41_ | apply Ja42_ | refine Ja46_ ?_ GE101.out | refine Ja46_ ?_ GE102.out) | exact HB.out))))
      have n3_ := Ja38_.mk (Ja47_ (g := gb101) (o := .cells #[.slice A0_0 l0_0.length c0_0, .slice A0_1 l0_1.length c0_1, .slice A0_2 l0_2.length c0_2] 107 (0, 0)) (by (with_reducible repeat (first | refine Ja50_ ?_ _ | refine Ja49_ ?_ | refine Ja48_ ?_ _)); exact BK101.out) hb)
      have n4_ := Ja38_.mk (Ja47_ (g := gb102) (o := .cells #[.slice none 0 0, .slice none 0 0, .slice none 0 0] 112 (0, 0)) (by (with_reducible repeat (first | refine Ja50_ ?_ _ | refine Ja49_ ?_ | refine Ja48_ ?_ _)); exact BK102.out) hb)
      have n5_ := Ja38_.mk (Ja44_ (by repeat (first | (with_reducible first | exact HB.out | apply Ja43_ | apply Ja41_ | apply Ja42_ | refine Ja46_ ?_ GE101.out | refine Ja46_ ?_ GE102.out) | exact HB.out)) hb)
      clear HO108
      clear HO114
      clear BK101
      clear BK102
      clear HB
      have HO108 := n0_
      have HO114 := n1_
      have HO117 := n2_
      have BK101 := n3_
      have BK102 := n4_
      have HB := n5_
      clear n0_ n1_ n2_ n3_ n4_ n5_
      clear hb ho16
      refine hK.out _ _ ⟨(Ja39_ BK101.out 0).trans rfl, (Ja39_ BK101.out 1).trans rfl, (Ja39_ BK101.out 2).trans rfl⟩ (fun hHeld => ?_)
      clear hK K
      refine norm_ (a' := ?_) ?_ ?_
      rotate_left
      ·show Act.put _ (some 11) _ = _
       simp only [Act.put, sA_, sB_, sC_, i64_w, i32_w]
       rfl
      exact norm_ (by first | (simp only [putAll, Act.put, sA_, sB_, sC_]; done) | (simp only [putAll, Act.put, sA_, sB_, sC_]; rfl)) (hJ0_3_4_7_8 (v104, v107, v110, v113, v116) _ ⟨hHeld, (by (with_reducible repeat (first | apply Kd.R_alloc | apply Kd.R_drewN | apply Kd.R_drew)); exact HO108.out), (by (with_reducible repeat (first | apply Kd.R_alloc | apply Kd.R_drewN | apply Kd.R_drew)); exact HO114.out), (by (with_reducible repeat (first | apply Kd.R_alloc | apply Kd.R_drewN | apply Kd.R_drew)); exact Kd.R_mono HO117.out (fun _ hk => ⟨hk.1.2, hk.2⟩)), (by (with_reducible repeat (first | refine Ja50_ ?_ _ | refine Ja49_ ?_ | refine Ja48_ ?_ _)); exact BK101.out), (by (with_reducible repeat (first | refine Ja50_ ?_ _ | refine Ja49_ ?_ | refine Ja48_ ?_ _)); exact BK102.out), (by repeat (first | (with_reducible first | exact HB.out | apply Ja43_ | apply Ja41_ | apply Ja42_ | refine Ja46_ ?_ GE101.out | refine Ja46_ ?_ GE102.out) | exact HB.out))⟩)
    rintro ⟨v104, v107, v110, v113, v116⟩ w16 ⟨hS_, h0_, h1_, h2_, h3_, h4_, h5_⟩
    have n0_ : Ja38_ (Kd.R Kd.string 9 w16 w.heap.size (fun k_ => some k_ ≠ (v113 : Value).ownBlock ∧ some k_ ≠ (v116 : Value).ownBlock) v107 y106) := ⟨h0_⟩
    have n1_ : Ja38_ (Kd.R Kd.string 9 w16 w.heap.size (fun k_ => some k_ ≠ (v107 : Value).ownBlock ∧ some k_ ≠ (v116 : Value).ownBlock) v113 y112) := ⟨h1_⟩
    have n2_ : Ja38_ (Kd.R Kd.string 9 w16 w.heap.size (fun k_ => some k_ ≠ (v107 : Value).ownBlock ∧ some k_ ≠ (v113 : Value).ownBlock) v116 y115) := ⟨h2_⟩
    have n3_ : Ja38_ (w16.heap[gb101]? = some (.cells #[.slice A0_0 l0_0.length c0_0, .slice A0_1 l0_1.length c0_1, .slice A0_2 l0_2.length c0_2] 107 (0, 0))) := ⟨h3_⟩
    have n4_ : Ja38_ (w16.heap[gb102]? = some (.cells #[.slice none 0 0, .slice none 0 0, .slice none 0 0] 112 (0, 0))) := ⟨h4_⟩
    have n5_ : Ja38_ (Below w.heap.size w w16) := ⟨h5_⟩
    clear BK101
    clear BK102
    clear HB
    clear h0_ h1_ h2_ h3_ h4_ h5_
    have HO108 := n0_
    have HO114 := n1_
    have HO117 := n2_
    have BK101 := n3_
    have BK102 := n4_
    have HB := n5_
    clear n0_ n1_ n2_ n3_ n4_ n5_
    have hHeld : w16.cell? ⟨gb101, 0, none⟩ = some (.slice A0_0 l0_0.length c0_0) ∧ w16.cell? ⟨gb101, 1, none⟩ = some (.slice A0_1 l0_1.length c0_1) ∧ w16.cell? ⟨gb101, 2, none⟩ = some (.slice A0_2 l0_2.length c0_2) := hS_
    refine norm_ (a' := ?_) ?_ ?_
    rotate_left
    ·simp only [putAll, Act.put, sA_, sB_, sC_]
     rfl
    refine one_ (i := 11) (N := some 14) (bz_ 14 4095) rfl rfl (one_of HT_.out (by kernel_rfl)) (by decide) (fun K hK => ?_)
    refine Kd.R_append_rows_step Kd.string (w0 := w) w.heap.size (by rfl) (.tmp 11) (.tmp 13) 27 9 (.string ⟨#[]⟩) 16 rfl Try.underlying27 info9 rfl (by decide) (by omega) v116 y115 l0_2 _ _ _ (fun k_ => some k_ ≠ (v107 : Value).ownBlock ∧ some k_ ≠ (v113 : Value).ownBlock) (fun _ => False) rfl rfl ?aO ?aR (fun _ _ h => h) (fun _ h => h.elim) ?aF ?aB ?aS ?aL ?_
    (case aR => repeat (first | exact (Kd.C_below HR0_2.out HB.out) | (with_reducible refine Kd.C_alloc ?_ _) | (with_reducible refine Kd.C_drewN ?_ _) | (with_reducible refine Kd.C_drew ?_)))
    (case aB => exact (by repeat (first | (with_reducible first | exact HB.out | apply Ja43_ | apply Ja41_ | apply Ja42_ | refine Ja46_ ?_ GE101.out | refine Ja46_ ?_ GE102.out) | exact HB.out)))
    (case aF => exact (fun k_ hk => ⟨Kd.fresh' (Kd.R_lt (by (with_reducible repeat (first | apply Kd.R_alloc | apply Kd.R_drewN | apply Kd.R_drew)); exact HO108.out)) k_ hk, Kd.fresh' (Kd.R_lt (by (with_reducible repeat (first | apply Kd.R_alloc | apply Kd.R_drewN | apply Kd.R_drew)); exact HO114.out)) k_ hk⟩))
    (case aO => exact (by (with_reducible repeat (first | apply Kd.R_alloc | apply Kd.R_drewN | apply Kd.R_drew)); exact HO117.out))
    (case aS => exact (Ja45_ (by repeat (first | (with_reducible first | exact HB.out | apply Ja43_ | apply Ja41_ | apply Ja42_ | refine Ja46_ ?_ GE101.out | refine Ja46_ ?_ GE102.out) | exact HB.out))))
    (case aL => have := LMc4.out; omega)
    intro v119 w17 ho hb hg hat
    rw [← Ny118.out] at ho
    have n0_ := Ja38_.mk (blk_grown (g := gb101) (o := .cells #[.slice A0_0 l0_0.length c0_0, .slice A0_1 l0_1.length c0_1, .slice A0_2 l0_2.length c0_2] 107 (0, 0)) (by (with_reducible repeat (first | refine Ja50_ ?_ _ | refine Ja49_ ?_ | refine Ja48_ ?_ _)); exact BK101.out) hg (Kd.R_ne HO117.out BK101.out (by decide)))
    have n1_ := Ja38_.mk (blk_grown (g := gb102) (o := .cells #[.slice none 0 0, .slice none 0 0, .slice none 0 0] 112 (0, 0)) (by (with_reducible repeat (first | refine Ja50_ ?_ _ | refine Ja49_ ?_ | refine Ja48_ ?_ _)); exact BK102.out) hg (Kd.R_ne HO117.out BK102.out (by decide)))
    have n2_ := Ja38_.mk (Kd.R_after (ok := (fun k_ => some k_ ≠ (v113 : Value).ownBlock)) (by (with_reducible repeat (first | apply Kd.R_alloc | apply Kd.R_drewN | apply Kd.R_drew)); exact HO108.out) hg hat)
    have n3_ := Ja38_.mk (Kd.R_after (ok := (fun k_ => some k_ ≠ (v107 : Value).ownBlock)) (by (with_reducible repeat (first | apply Kd.R_alloc | apply Kd.R_drewN | apply Kd.R_drew)); exact HO114.out) hg hat)
    have n4_ := Ja38_.mk (hb)
    have n5_ := Ja38_.mk (ho)
    clear BK101
    clear BK102
    clear HO108
    clear HO114
    clear HB
    clear HO117
    have BK101 := n0_
    have BK102 := n1_
    have HO108 := n2_
    have HO114 := n3_
    have HB := n4_
    have HO120 := n5_
    clear n0_ n1_ n2_ n3_ n4_ n5_
    clear ho hb hg hat
    obtain ⟨Ao18, co18, eo18⟩ := Kd.R_slice HO120.out
    (first | subst eo18 | (injection eo18 with f1_ f2_ f3_; have f4_ := f1_.symm; have f5_ := f3_.symm; clear f1_ f2_ f3_; subst f4_; subst f5_))
    obtain ⟨Ao19, co19, eo19⟩ := Kd.R_slice HO114.out
    (first | subst eo19 | (injection eo19 with f1_ f2_ f3_; have f4_ := f1_.symm; have f5_ := f3_.symm; clear f1_ f2_ f3_; subst f4_; subst f5_))
    obtain ⟨Ao20, co20, eo20⟩ := Kd.R_slice HO108.out
    (first | subst eo20 | (injection eo20 with f1_ f2_ f3_; have f4_ := f1_.symm; have f5_ := f3_.symm; clear f1_ f2_ f3_; subst f4_; subst f5_))
    refine hK.out _ _ ⟨(Ja39_ BK101.out 0).trans rfl, (Ja39_ BK101.out 1).trans rfl, (Ja39_ BK101.out 2).trans rfl⟩ (fun hHeld => ?_)
    clear hK K
    refine norm_ (a' := ?_) ?_ ?_
    rotate_left
    ·show Act.put _ (some 14) _ = _
     simp only [Act.put, sA_, sB_, sC_, i64_w, i32_w]
     rfl
    refine pure_ (i := 12) (N := some 15) (v := ?_) (a' := ?_) (bz_ 14 8191) rfl rfl (any_of HT_.out (by kernel_rfl)) (fun _ _ _ h => h) (Or.inl ⟨by rfl, ?_⟩) ?_ ?_
    rotate_left
    ·intro w'
     go_simp
     with_reducible rfl
    rotate_left
    ·simp only [Act.put, sA_, sB_, sC_, i64_w, i32_w]
     rfl
    refine one_ (i := 13) (N := none) (bz_ 14 16383) rfl rfl (one_of HT_.out (by kernel_rfl)) (by decide) (fun K hK => ?_)
    have hs21 : w17.cell? ⟨gb102, 0, none⟩ = some (.slice none 0 0) := (Ja39_ BK102.out 0).trans rfl
    have hfs21 := Ja40_ BK102.out 0
    have hns21_0 := NB101_102.out
    have hms21_0 := NB102_101.out
    have hs22 : w17.cell? ⟨gb102, 1, none⟩ = some (.slice none 0 0) := (Ja39_ BK102.out 1).trans rfl
    have hfs22 := Ja40_ BK102.out 1
    have hns22_0 := NB101_102.out
    have hms22_0 := NB102_101.out
    have hs23 : w17.cell? ⟨gb102, 2, none⟩ = some (.slice none 0 0) := (Ja39_ BK102.out 2).trans rfl
    have hfs23 := Ja40_ BK102.out 2
    have hns23_0 := NB101_102.out
    have hms23_0 := NB102_101.out
    refine skip_ (w1 := ?_) (by rfl) rfl ?_ ?_
    rotate_left
    ·go_simp
     rfl
    refine hK.out _ _ ⟨((Ja53_ (p := ⟨gb102, _, none⟩) NB101_102.out _).trans (((Ja53_ (p := ⟨gb102, _, none⟩) NB101_102.out _).trans (((Ja53_ (p := ⟨gb102, _, none⟩) NB101_102.out _).trans (hHeld.1)))))), ((Ja53_ (p := ⟨gb102, _, none⟩) NB101_102.out _).trans (((Ja53_ (p := ⟨gb102, _, none⟩) NB101_102.out _).trans (((Ja53_ (p := ⟨gb102, _, none⟩) NB101_102.out _).trans (hHeld.2.1)))))), ((Ja53_ (p := ⟨gb102, _, none⟩) NB101_102.out _).trans (((Ja53_ (p := ⟨gb102, _, none⟩) NB101_102.out _).trans (((Ja53_ (p := ⟨gb102, _, none⟩) NB101_102.out _).trans (hHeld.2.2))))))⟩ (fun hHeld => ?_)
    clear hK K
    refine done_ (done_of HT_.out (by kernel_rfl)) ?_
    try go_wp2
    refine bodyPost_ret (results_cell_row rfl _ _ gb102 112 #[.slice Ao20 y106.length co20, .slice Ao19 y112.length co19, .slice Ao18 y118.length co18] (0, 0) _ rfl (by (with_reducible repeat (first | refine Ja50_ ?_ _ | refine Ja49_ ?_ | refine Ja48_ ?_ _)); refine blk_put (cs := #[.slice Ao20 y106.length co20, .slice Ao19 y112.length co19, .slice none 0 0]) ?_ 2 _ rfl; (with_reducible repeat (first | refine Ja50_ ?_ _ | refine Ja49_ ?_ | refine Ja48_ ?_ _)); refine blk_put (cs := #[.slice Ao20 y106.length co20, .slice none 0 0, .slice none 0 0]) ?_ 1 _ rfl; (with_reducible repeat (first | refine Ja50_ ?_ _ | refine Ja49_ ?_ | refine Ja48_ ?_ _)); refine blk_put (cs := #[.slice none 0 0, .slice none 0 0, .slice none 0 0]) ?_ 0 _ rfl; (with_reducible repeat (first | refine Ja50_ ?_ _ | refine Ja49_ ?_ | refine Ja48_ ?_ _)); exact BK102.out) Try.underlying112 rfl (by kernel_rfl)) rfl ?_
    exact ⟨_, _, _, by first | rfl | (simp [errW_none, errW_some] <;> rfl) | (simp [*, errW_none, errW_some] <;> rfl), by (with_reducible repeat (first | apply Kd.R_alloc | apply Kd.R_drewN | apply Kd.R_drew)); exact Kd.R_mono (Kd.R_far (p := ⟨gb102, 2, none⟩) (Kd.R_far (p := ⟨gb102, 1, none⟩) (Kd.R_far (p := ⟨gb102, 0, none⟩) (Kd.R_types HO108.out BK102.out (by decide)) (fun _ hk => hk.2) (.slice Ao20 y106.length co20)) (fun _ hk => hk.2) (.slice Ao19 y112.length co19)) (fun _ hk => hk.2) (.slice Ao18 y118.length co18)) (fun _ hk => ⟨hk.1.1, hk.1.2⟩), by (with_reducible repeat (first | apply Kd.R_alloc | apply Kd.R_drewN | apply Kd.R_drew)); exact Kd.R_mono (Kd.R_far (p := ⟨gb102, 2, none⟩) (Kd.R_far (p := ⟨gb102, 1, none⟩) (Kd.R_far (p := ⟨gb102, 0, none⟩) (Kd.R_types HO114.out BK102.out (by decide)) (fun _ hk => hk.2) (.slice Ao20 y106.length co20)) (fun _ hk => hk.2) (.slice Ao19 y112.length co19)) (fun _ hk => hk.2) (.slice Ao18 y118.length co18)) (fun _ hk => ⟨hk.1.1, hk.1.2⟩), by (with_reducible repeat (first | apply Kd.R_alloc | apply Kd.R_drewN | apply Kd.R_drew)); exact Kd.R_mono (Kd.R_far (p := ⟨gb102, 2, none⟩) (Kd.R_far (p := ⟨gb102, 1, none⟩) (Kd.R_far (p := ⟨gb102, 0, none⟩) (Kd.R_types HO120.out BK102.out (by decide)) (fun _ hk => hk.2) (.slice Ao20 y106.length co20)) (fun _ hk => hk.2) (.slice Ao19 y112.length co19)) (fun _ hk => hk.2) (.slice Ao18 y118.length co18)) (fun _ hk => ⟨hk.1.1, hk.1.2⟩), by repeat (first | (with_reducible first | exact HB.out | apply Ja43_ | apply Ja41_ | apply Ja42_ | refine Ja46_ ?_ GE101.out | refine Ja46_ ?_ GE102.out) | exact HB.out)⟩
   ·rw [if_neg c4] at H
    exact absurd H (by simp)
  ·rw [if_neg c3] at H
   exact absurd H (by simp)
 ·rw [if_neg c2] at H
  exact absurd H (by simp)
end Go.Proofs.Ytadafplbgophfaa.PA
end
section
namespace Go.Proofs.Ytadafplbgophfaa.PA
open Go.RowKit Go.Proofs.YtadafplbgophfaaW.PrintWords Go.Proofs.YtadafplbgophfaaW.PrintLast Go.Proofs.YtadafplbgophfaaW.PrintMore
attribute [local go_sem] max2_int min2_int max_two min_two max_three min_three max_four min_four   -- for this text's walks alone
set_option linter.unusedVariables false
set_option linter.unusedSimpArgs false
def J20_.f (a0_0 : Bool) (a0_1 : Int) (a0_2 : Int) (a0_3 : Int) (a0_4 : Int) (a0_5 : Int) (a0_6 : Int) : Option (Bool × Int × Int × Int × Int × Int × Int) := some (a0_0, a0_1, a0_2, a0_3, a0_4, a0_5, a0_6)
set_option maxHeartbeats 8000000 in
set_option maxRecDepth 100000 in
theorem J20_.calls (a0_0 : Bool) (a0_1 : Int) (a0_2 : Int) (a0_3 : Int) (a0_4 : Int) (a0_5 : Int) (a0_6 : Int) (r1 : Bool) (r2 : Int) (r3 : Int) (r4 : Int) (r5 : Int) (r6 : Int) (r7 : Int) (w : World) (h : J20_.f a0_0 a0_1 a0_2 a0_3 a0_4 a0_5 a0_6 = some (r1, r2, r3, r4, r5, r6, r7)) :
  Calls Try.prog 121 #[.agg #[.bool a0_0, .int .i64 a0_1, .int .i64 a0_2, .int .i64 a0_3, .int .i64 a0_4, .int .i64 a0_5, .int .i64 a0_6]] w fun e w' => e = .returned (.agg #[.bool r1, .int .i64 r2, .int .i64 r3, .int .i64 r4, .int .i64 r5, .int .i64 r6, .int .i64 r7]) ∧ Below w.heap.size w w' := by
 have hu81 := Try.underlying81
 have hu78 := Try.underlying78
 have hu76 := Try.underlying76
 have HB := Ja38_.mk (Below.refl w.heap.size w)
 have H : (some (a0_0, a0_1, a0_2, a0_3, a0_4, a0_5, a0_6)) = some (r1, r2, r3, r4, r5, r6, r7) := h
 clear h
 simp only [Option.some.injEq, Prod.mk.injEq] at H
 obtain ⟨rfl, rfl, rfl, rfl, rfl, rfl, rfl⟩ := H
 go_enter Try.func121, Try.ntmps121
 go_wp2_with (first | ((with_reducible refine gate_dst (N := 1) rfl ?_); refine box_event ?hg (N := 1) ?hd (cs := #[.bool a0_0, .int .i64 a0_1, .int .i64 a0_2, .int .i64 a0_3, .int .i64 a0_4, .int .i64 a0_5, .int .i64 a0_6]) (t := 81) ?hr ?_; (case hd => rfl); (case hg => rfl); (case hr => first | (go_simp; done) | (go_simp; rfl)); intro gb101 hg w2 hbox hb; have n0_ := Ja38_.mk (Ja44_ (by repeat (first | (with_reducible first | exact HB.out | apply Ja43_ | apply Ja41_ | apply Ja42_) | exact HB.out)) hb); have n1_ := Ja38_.mk (hbox); have n2_ := Ja38_.mk ((by rw [hg]; exact (Ja45_ (by repeat (first | (with_reducible first | exact HB.out | apply Ja43_ | apply Ja41_ | apply Ja42_) | exact HB.out))) : w.heap.size ≤ gb101)); have n3_ := Ja38_.mk ((by rw [hg]; exact (Ja45_ (by repeat (first | (with_reducible first | exact HB.out | apply Ja43_ | apply Ja41_ | apply Ja42_) | exact HB.out))) : w.heap.size ≤ gb101)); clear HB; have HB := n0_; have BK101 := n1_; have GW101 := n2_; have GE101 := n3_; clear n0_ n1_ n2_ n3_; clear hb hbox hg) | ((with_reducible refine gate_dst (N := 2) rfl ?_); refine box_event ?hg (N := 2) ?hd (cs := #[.bool false, .int .i64 0, .int .i64 0, .int .i64 0, .int .i64 0, .int .i64 0, .int .i64 0]) (t := 78) ?hr ?_; (case hd => rfl); (case hg => rfl); (case hr => first | (go_simp; done) | (go_simp; rfl)); intro gb102 hg w3 hbox hb; have n0_ := Ja38_.mk (Ja47_ (g := gb101) (o := .cells #[.bool a0_0, .int .i64 a0_1, .int .i64 a0_2, .int .i64 a0_3, .int .i64 a0_4, .int .i64 a0_5, .int .i64 a0_6] 81 (0, 0)) (by (with_reducible repeat (first | refine Ja50_ ?_ _ | refine Ja49_ ?_ | refine Ja48_ ?_ _)); exact BK101.out) hb); have n1_ := Ja38_.mk (Ja44_ (by repeat (first | (with_reducible first | exact HB.out | apply Ja43_ | apply Ja41_ | apply Ja42_ | refine Ja46_ ?_ GE101.out) | exact HB.out)) hb); have n2_ := Ja38_.mk (hbox); have n3_ := Ja38_.mk ((by rw [hg]; exact (Ja45_ (by repeat (first | (with_reducible first | exact HB.out | apply Ja43_ | apply Ja41_ | apply Ja42_ | refine Ja46_ ?_ GE101.out) | exact HB.out))) : w.heap.size ≤ gb102)); have n4_ := Ja38_.mk ((by rw [hg]; exact (Ja45_ (by repeat (first | (with_reducible first | exact HB.out | apply Ja43_ | apply Ja41_ | apply Ja42_ | refine Ja46_ ?_ GE101.out) | exact HB.out))) : w.heap.size ≤ gb102)); have n5_ := Ja38_.mk ((by rw [hg]; exact Nat.ne_of_lt (blk_lt (g := gb101) (o := .cells #[.bool a0_0, .int .i64 a0_1, .int .i64 a0_2, .int .i64 a0_3, .int .i64 a0_4, .int .i64 a0_5, .int .i64 a0_6] 81 (0, 0)) (by (with_reducible repeat (first | refine Ja50_ ?_ _ | refine Ja49_ ?_ | refine Ja48_ ?_ _)); exact BK101.out)) : gb101 ≠ gb102)); have n6_ := Ja38_.mk ((by rw [hg]; exact Nat.ne_of_gt (blk_lt (g := gb101) (o := .cells #[.bool a0_0, .int .i64 a0_1, .int .i64 a0_2, .int .i64 a0_3, .int .i64 a0_4, .int .i64 a0_5, .int .i64 a0_6] 81 (0, 0)) (by (with_reducible repeat (first | refine Ja50_ ?_ _ | refine Ja49_ ?_ | refine Ja48_ ?_ _)); exact BK101.out)) : gb102 ≠ gb101)); clear BK101; clear HB; have BK101 := n0_; have HB := n1_; have BK102 := n2_; have GW102 := n3_; have GE102 := n4_; have NB101_102 := n5_; have NB102_101 := n6_; clear n0_ n1_ n2_ n3_ n4_ n5_ n6_; clear hb hbox hg; have hnb4 := NB101_102.out; have hnc4 := NB102_101.out; have hcz5_0 : w3.cell? ⟨gb101, 0, none⟩ = some (.bool a0_0) := (Ja39_ BK101.out 0).trans rfl; have hcz5_1 : w3.cell? ⟨gb101, 1, none⟩ = some (.int .i64 a0_1) := (Ja39_ BK101.out 1).trans rfl; have hcz5_2 : w3.cell? ⟨gb101, 2, none⟩ = some (.int .i64 a0_2) := (Ja39_ BK101.out 2).trans rfl; have hcz5_3 : w3.cell? ⟨gb101, 3, none⟩ = some (.int .i64 a0_3) := (Ja39_ BK101.out 3).trans rfl; have hcz5_4 : w3.cell? ⟨gb101, 4, none⟩ = some (.int .i64 a0_4) := (Ja39_ BK101.out 4).trans rfl; have hcz5_5 : w3.cell? ⟨gb101, 5, none⟩ = some (.int .i64 a0_5) := (Ja39_ BK101.out 5).trans rfl; have hcz5_6 : w3.cell? ⟨gb101, 6, none⟩ = some (.int .i64 a0_6) := (Ja39_ BK101.out 6).trans rfl; have hfz5_0 := Ja40_ BK101.out 0; have hfz5_1 := Ja40_ BK101.out 1; have hfz5_2 := Ja40_ BK101.out 2; have hfz5_3 := Ja40_ BK101.out 3; have hfz5_4 := Ja40_ BK101.out 4; have hfz5_5 := Ja40_ BK101.out 5; have hfz5_6 := Ja40_ BK101.out 6; have hcz6_0 : w3.cell? ⟨gb102, 0, none⟩ = some (.bool false) := (Ja39_ BK102.out 0).trans rfl; have hcz6_1 : w3.cell? ⟨gb102, 1, none⟩ = some (.int .i64 0) := (Ja39_ BK102.out 1).trans rfl; have hcz6_2 : w3.cell? ⟨gb102, 2, none⟩ = some (.int .i64 0) := (Ja39_ BK102.out 2).trans rfl; have hcz6_3 : w3.cell? ⟨gb102, 3, none⟩ = some (.int .i64 0) := (Ja39_ BK102.out 3).trans rfl; have hcz6_4 : w3.cell? ⟨gb102, 4, none⟩ = some (.int .i64 0) := (Ja39_ BK102.out 4).trans rfl; have hcz6_5 : w3.cell? ⟨gb102, 5, none⟩ = some (.int .i64 0) := (Ja39_ BK102.out 5).trans rfl; have hcz6_6 : w3.cell? ⟨gb102, 6, none⟩ = some (.int .i64 0) := (Ja39_ BK102.out 6).trans rfl; have hfz6_0 := Ja40_ BK102.out 0; have hfz6_1 := Ja40_ BK102.out 1; have hfz6_2 := Ja40_ BK102.out 2; have hfz6_3 := Ja40_ BK102.out 3; have hfz6_4 := Ja40_ BK102.out 4; have hfz6_5 := Ja40_ BK102.out 5; have hfz6_6 := Ja40_ BK102.out 6))
 refine bodyPost_ret (results_cell_row rfl _ _ gb102 78 #[.bool a0_0, .int .i64 a0_1, .int .i64 a0_2, .int .i64 a0_3, .int .i64 a0_4, .int .i64 a0_5, .int .i64 a0_6] (0, 0) _ rfl (by (with_reducible repeat (first | refine Ja50_ ?_ _ | refine Ja49_ ?_ | refine Ja48_ ?_ _)); refine blk_put (cs := #[.bool a0_0, .int .i64 a0_1, .int .i64 a0_2, .int .i64 a0_3, .int .i64 a0_4, .int .i64 a0_5, .int .i64 0]) ?_ 6 _ rfl; (with_reducible repeat (first | refine Ja50_ ?_ _ | refine Ja49_ ?_ | refine Ja48_ ?_ _)); refine blk_put (cs := #[.bool a0_0, .int .i64 a0_1, .int .i64 a0_2, .int .i64 a0_3, .int .i64 a0_4, .int .i64 0, .int .i64 0]) ?_ 5 _ rfl; (with_reducible repeat (first | refine Ja50_ ?_ _ | refine Ja49_ ?_ | refine Ja48_ ?_ _)); refine blk_put (cs := #[.bool a0_0, .int .i64 a0_1, .int .i64 a0_2, .int .i64 a0_3, .int .i64 0, .int .i64 0, .int .i64 0]) ?_ 4 _ rfl; (with_reducible repeat (first | refine Ja50_ ?_ _ | refine Ja49_ ?_ | refine Ja48_ ?_ _)); refine blk_put (cs := #[.bool a0_0, .int .i64 a0_1, .int .i64 a0_2, .int .i64 0, .int .i64 0, .int .i64 0, .int .i64 0]) ?_ 3 _ rfl; (with_reducible repeat (first | refine Ja50_ ?_ _ | refine Ja49_ ?_ | refine Ja48_ ?_ _)); refine blk_put (cs := #[.bool a0_0, .int .i64 a0_1, .int .i64 0, .int .i64 0, .int .i64 0, .int .i64 0, .int .i64 0]) ?_ 2 _ rfl; (with_reducible repeat (first | refine Ja50_ ?_ _ | refine Ja49_ ?_ | refine Ja48_ ?_ _)); refine blk_put (cs := #[.bool a0_0, .int .i64 0, .int .i64 0, .int .i64 0, .int .i64 0, .int .i64 0, .int .i64 0]) ?_ 1 _ rfl; (with_reducible repeat (first | refine Ja50_ ?_ _ | refine Ja49_ ?_ | refine Ja48_ ?_ _)); refine blk_put (cs := #[.bool false, .int .i64 0, .int .i64 0, .int .i64 0, .int .i64 0, .int .i64 0, .int .i64 0]) ?_ 0 _ rfl; (with_reducible repeat (first | refine Ja50_ ?_ _ | refine Ja49_ ?_ | refine Ja48_ ?_ _)); exact BK102.out) Try.underlying78 rfl (by kernel_rfl)) rfl ?_
 exact ⟨by first | rfl | (simp [errW_none, errW_some] <;> rfl) | (simp [*, errW_none, errW_some] <;> rfl), by repeat (first | (with_reducible first | exact HB.out | apply Ja43_ | apply Ja41_ | apply Ja42_ | refine Ja46_ ?_ GE101.out | refine Ja46_ ?_ GE102.out) | exact HB.out)⟩
end Go.Proofs.Ytadafplbgophfaa.PA
end
section
namespace Go.Proofs.Ytadafplbgophfaa.PA
open Go.RowKit Go.Proofs.YtadafplbgophfaaW.PrintWords Go.Proofs.YtadafplbgophfaaW.PrintLast Go.Proofs.YtadafplbgophfaaW.PrintMore
attribute [local go_sem] max2_int min2_int max_two min_two max_three min_three max_four min_four   -- for this text's walks alone
set_option linter.unusedVariables false
set_option linter.unusedSimpArgs false
def J22_.l0 : Nat → List (S81) → List (S78) → Int → Option ((List (S78)))
 | 0, _, _, _ => none
 | k + 1, x0, x3, x4 => if x4 < (x0.length : Int) then (if 0 ≤ x4 then ((J20_.f ((rd_T81 x0 x4).f0) ((rd_T81 x0 x4).f1.f0) ((rd_T81 x0 x4).f1.f1) ((rd_T81 x0 x4).f2.f0) ((rd_T81 x0 x4).f2.f1) ((rd_T81 x0 x4).f3.f0) ((rd_T81 x0 x4).f3.f1)).bind fun bt102 => (if x3.length < 2513169434916 then (J22_.l0 k x0 (x3 ++ [(⟨bt102.1, (⟨bt102.2.1, bt102.2.2.1⟩ : S76), (⟨bt102.2.2.2.1, bt102.2.2.2.2.1⟩ : S76), (⟨bt102.2.2.2.2.2.1, bt102.2.2.2.2.2.2⟩ : S76)⟩ : S78)]) (wrap64 (x4 + 1))) else (none))) else (none)) else (some x3)
def J22_.f (k : Nat) (l0 : List (S81)) : Option ((List (S78))) := J22_.l0 k l0 ([] : List (S78)) 0
set_option maxHeartbeats 8000000 in
set_option maxRecDepth 100000 in
theorem J22_.calls (k : Nat) (A0 : Option Addr) (c0 : Nat) (l0 : List (S81)) (r : List (S78)) (w : World) (hr0 : Kd.C k81 w A0 l0.length l0) (hc0 : l0.length ≤ c0) (h : J22_.f k l0 = some r) :
  Calls Try.prog 75 #[.slice A0 l0.length c0] w fun e w' => ∃ v0_ : Value, e = .returned (v0_) ∧ Kd.R k78 78 w' w.heap.size (fun _ => True) v0_ r ∧ Below w.heap.size w w' := by
 have hu81 := Try.underlying81
 have HR0 := Ja38_.mk hr0
 have HC0 := Ja38_.mk hc0
 clear hr0 hc0
 have HB := Ja38_.mk (Below.refl w.heap.size w)
 have H : (J22_.l0 k l0 ([] : List (S78)) 0) = some r := h
 clear h
 have H' := Ja38_.mk H
 clear H
 go_enter Try.func75, Try.ntmps75
 go_wp2
 go_loopg [3, 4] k (fun kq v3 v4 w' => ∃ (x3_1 : List (S78)) (x4_1 : Int), v4 = .int .i64 x4_1 ∧ Ja38_ (J22_.l0 kq l0 x3_1 x4_1 = some r) ∧ Ja38_ (kq ≤ k) ∧ Ja38_ (Kd.R k78 78 w' w.heap.size (fun _ => True) v3 x3_1) ∧ Ja38_ (Below w.heap.size w w'))
 case atStart => exact ⟨(([] : List (S78))), (0), (by first | rfl | (simp; done) | (simp [*]; done)), H', ⟨Nat.le_refl _⟩, ⟨by first | exact Kd.R_nil _ _ _ _ _ | exact Kd.N_nil _ _ _ _ _ | exact Kd.V_nil _ _ _ _ _ | exact Kd.Q_nil _ _ _ _ _ | exact Kd.S_nil _ _ _ _ _⟩, ⟨by repeat (first | (with_reducible first | exact HB.out | apply Ja43_ | apply Ja41_ | apply Ja42_) | exact HB.out)⟩⟩
 case round =>
  clear H'
  obtain ⟨x3_1, x4_1, rfl, HA, HK1, HO_3, HB⟩ := hrel
  cases gk with
  | zero => exact absurd HA.out (by simp [J22_.l0])
  | succ k1 =>
   have H := HA.out
   clear HA
   simp only [J22_.l0] at H
   by_cases c2 : x4_1 < (l0.length : Int)
   ·rw [if_pos c2] at H
    have c2b0 : decide (x4_1 < (l0.length : Int)) = true := decide_eq_true c2
    clear c2
    by_cases c3 : 0 ≤ x4_1
    ·rw [if_pos c3] at H
     have c3b0 : decide (0 ≤ x4_1) = true := decide_eq_true c3
     clear c3
     replace H := Option.bind_eq_some_iff.mp H
     obtain ⟨⟨t102, t103, t104, t105, t106, t107, t108⟩, A40, H⟩ := H
     replace H : (if x3_1.length < 2513169434916 then (J22_.l0 k1 l0 (x3_1 ++ [(⟨t102, (⟨t103, t104⟩ : S76), (⟨t105, t106⟩ : S76), (⟨t107, t108⟩ : S76)⟩ : S78)]) (wrap64 (x4_1 + 1))) else (none)) = some r := H
     have A4 := Ja38_.mk A40
     clear A40
     by_cases c5 : x3_1.length < 2513169434916
     ·rw [if_pos c5] at H
      have LMc5 := Ja38_.mk c5
      clear c5
      obtain ⟨y109, hy109⟩ : ∃ y_ : List (S78), y_ = (x3_1 ++ [(⟨t102, (⟨t103, t104⟩ : S76), (⟨t105, t106⟩ : S76), (⟨t107, t108⟩ : S76)⟩ : S78)]) := ⟨_, rfl⟩
      replace H : (J22_.l0 k1 l0 y109 (wrap64 (x4_1 + 1))) = some r := by first | (rw [hy109]; with_reducible exact H) | (have H2_ := (Option.bind_some _ _).symm.trans H; rw [hy109]; with_reducible exact H2_) | (have H2_ := (Option.bind_some _ _).symm.trans H; with_reducible exact H2_) | with_reducible exact H | (rw [hy109]; exact H) | exact H
      have Ny109 := Ja38_.mk hy109
      clear hy109
      have H' := Ja38_.mk H
      clear H
      have p101 : 0 ≤ (x4_1 : Int) := of_decide_eq_true (by first | (with_reducible assumption) | assumption)
      have q101 : x4_1 < (l0.length : Int) := of_decide_eq_true (by first | (with_reducible assumption) | assumption)
      obtain ⟨ad101, e101, hx101_0, hx101_1, hx101_2, hx101_3, hx101_4, hx101_5, hx101_6⟩ := at_T81 HR0.out x4_1 p101 q101
      cases e101
      replace hx101_0 := (HB.out.cell (World.block_lt_of_cell? w _ hx101_0)).trans hx101_0
      replace hx101_1 := (HB.out.cell (World.block_lt_of_cell? w _ hx101_1)).trans hx101_1
      replace hx101_2 := (HB.out.cell (World.block_lt_of_cell? w _ hx101_2)).trans hx101_2
      replace hx101_3 := (HB.out.cell (World.block_lt_of_cell? w _ hx101_3)).trans hx101_3
      replace hx101_4 := (HB.out.cell (World.block_lt_of_cell? w _ hx101_4)).trans hx101_4
      replace hx101_5 := (HB.out.cell (World.block_lt_of_cell? w _ hx101_5)).trans hx101_5
      replace hx101_6 := (HB.out.cell (World.block_lt_of_cell? w _ hx101_6)).trans hx101_6
      replace p101 := eq_true p101
      replace q101 := eq_true q101
      go_wp2_with (first | ((with_reducible refine gate_callee (f := 121) rfl ?_); refine goesL_ (some 16) rfl rfl Try.func121 (by kernel_rfl) rfl #[.agg #[.bool ((rd_T81 l0 x4_1).f0), .int .i64 ((rd_T81 l0 x4_1).f1.f0), .int .i64 ((rd_T81 l0 x4_1).f1.f1), .int .i64 ((rd_T81 l0 x4_1).f2.f0), .int .i64 ((rd_T81 l0 x4_1).f2.f1), .int .i64 ((rd_T81 l0 x4_1).f3.f0), .int .i64 ((rd_T81 l0 x4_1).f3.f1)]] rfl (by (try simp only [List.map_toArray, List.map_cons, List.map_nil]); first | done | rfl | (simp only [List.length_drop, List.length_take]; rfl)) ?_; (with_reducible refine (J20_.calls ((rd_T81 l0 x4_1).f0) ((rd_T81 l0 x4_1).f1.f0) ((rd_T81 l0 x4_1).f1.f1) ((rd_T81 l0 x4_1).f2.f0) ((rd_T81 l0 x4_1).f2.f1) ((rd_T81 l0 x4_1).f3.f0) ((rd_T81 l0 x4_1).f3.f1) t102 t103 t104 t105 t106 t107 t108 _ A4.out).mono ?_); rintro e w6 ⟨rfl, hb⟩; refine ⟨_, rfl, ?_⟩; have n0_ := Ja38_.mk (Kd.R_below (by (with_reducible repeat (first | apply Kd.R_alloc | apply Kd.R_drewN | apply Kd.R_drew)); exact HO_3.out) hb); have n1_ := Ja38_.mk (Ja44_ (by repeat (first | (with_reducible first | exact HB.out | apply Ja43_ | apply Ja41_ | apply Ja42_) | exact HB.out)) hb); clear HO_3; clear HB; have HO_3 := n0_; have HB := n1_; clear n0_ n1_; (try clear hb); (try clear hb2); (try clear hk); (try clear hi)) | ((with_reducible refine gate_builtin (b := .append) (xs := #[.tmp 11, .tmp 17]) rfl ?_); at_builtin; refine Kd.R_append k78 (w0 := w) w.heap.size rfl (.tmp 11) (.tmp 17) 67 78 (.agg #[(.bool false), (.int .i64 0), (.int .i64 0), (.int .i64 0), (.int .i64 0), (.int .i64 0), (.int .i64 0)]) 56 rfl Try.underlying67 info78 rfl (by decide) (by omega) u3 x3_1 (⟨t102, (⟨t103, t104⟩ : S76), (⟨t105, t106⟩ : S76), (⟨t107, t108⟩ : S76)⟩ : S78) [.bool t102, .int .i64 t103, .int .i64 t104, .int .i64 t105, .int .i64 t106, .int .i64 t107, .int .i64 t108] (fun _ => True) (fun _ => False) rfl rfl ?aP (fun _ hk => hk.elim) ?aF ?aO ?aB ?aS ?aL ?_; (case aP => exact k78_mkM _ _ _ (⟨t102, (⟨t103, t104⟩ : S76), (⟨t105, t106⟩ : S76), (⟨t107, t108⟩ : S76)⟩ : S78)); (case aB => exact (by repeat (first | (with_reducible first | exact HB.out | apply Ja43_ | apply Ja41_ | apply Ja42_) | exact HB.out))); (case aF => exact (fun _ _ => trivial)); (case aO => exact (by (with_reducible repeat (first | apply Kd.R_alloc | apply Kd.R_drewN | apply Kd.R_drew)); exact HO_3.out)); (case aS => exact (Ja45_ (by repeat (first | (with_reducible first | exact HB.out | apply Ja43_ | apply Ja41_ | apply Ja42_) | exact HB.out)))); (case aL => have := LMc5.out; omega); intro v110 w7 ho hb hg hat; rw [← Ny109.out] at ho; have n0_ := Ja38_.mk (hb); have n1_ := Ja38_.mk (ho); clear HB; clear HO_3; have HB := n0_; have HO111 := n1_; clear n0_ n1_; clear ho hb hg hat))
      go_roundg k1
      case measure => have := HK1.out; omega
      case rel => exact ⟨(y109), (wrap64 (x4_1 + 1)), (by first | rfl | (simp; done) | (simp [*]; done)), H', ⟨by have := HK1.out; omega⟩, ⟨by (with_reducible repeat (first | apply Kd.R_alloc | apply Kd.R_drewN | apply Kd.R_drew)); exact HO111.out⟩, ⟨by repeat (first | (with_reducible first | exact HB.out | apply Ja43_ | apply Ja41_ | apply Ja42_) | exact HB.out)⟩⟩
     ·rw [if_neg c5] at H
      exact absurd H (by simp)
    ·rw [if_neg c3] at H
     exact absurd H (by simp)
   ·rw [if_neg c2] at H
    have c2b0 : decide (x4_1 < (l0.length : Int)) = false := decide_eq_false c2
    clear c2
    obtain rfl := Option.some.inj H
    go_wp2
    go_ret
    exact ⟨_, by first | rfl | (simp [errW_none, errW_some] <;> rfl) | (simp [*, errW_none, errW_some] <;> rfl), by (with_reducible repeat (first | apply Kd.R_alloc | apply Kd.R_drewN | apply Kd.R_drew)); exact HO_3.out, by repeat (first | (with_reducible first | exact HB.out | apply Ja43_ | apply Ja41_ | apply Ja42_) | exact HB.out)⟩
end Go.Proofs.Ytadafplbgophfaa.PA
end
section
namespace Go.Proofs.Ytadafplbgophfaa.PA
open Go.RowKit Go.Proofs.YtadafplbgophfaaW.PrintWords Go.Proofs.YtadafplbgophfaaW.PrintLast Go.Proofs.YtadafplbgophfaaW.PrintMore
attribute [local go_sem] max2_int min2_int max_two min_two max_three min_three max_four min_four   -- for this text's walks alone
set_option linter.unusedVariables false
set_option linter.unusedSimpArgs false
def J9_.l0 : Nat → Int → List (S120) → Int → Int → Option (Int)
 | 0, _, _, _, _ => none
 | k + 1, x3, x6, x7, x8 => if x8 < x7 then (if 0 ≤ x8 then (if x8 < (x6.length : Int) then (if (rd_T120 x6 x8).f1 = true then (J9_.l0 k (wrap64 (x3 + 1)) x6 x7 (wrap64 (x8 + 1))) else (J9_.l0 k x3 x6 x7 (wrap64 (x8 + 1)))) else (none)) else (none)) else (some x3)
def J9_.f (k : Nat) (l0 : List (S120)) : Option (Int) := J9_.l0 k 0 l0 (l0.length : Int) 0
theorem J9_.mono_l : ∀ k, (∀ y0 y1 y2 y3, LeO (J9_.l0 k y0 y1 y2 y3) (J9_.l0 (k + 1) y0 y1 y2 y3))
 | 0 => fun _ _ _ _ r h => by simp [J9_.l0] at h
 | k + 1 => by
  have ih0 := J9_.mono_l k
  ·intro y0 y1 y2 y3
   unfold J9_.l0
   repeat' first
   | (with_reducible exact ih0 _ _ _ _)
   | (with_reducible exact LeO.refl _)
   | (with_reducible exact LeO.none _)
   | (with_reducible refine LeO.ite ?_ ?_)
   | (with_reducible refine LeO.bind ?_ (fun _ => ?_))
   | exact ih0 _ _ _ _
   | exact LeO.none _
   | refine LeO.ite ?_ ?_
   | refine LeO.bind ?_ (fun _ => ?_)
theorem J9_.mono : ∀ a0 k, LeO (J9_.f k a0) (J9_.f (k + 1) a0) := by
 intro a0 k
 have ih0 := J9_.mono_l k
 unfold J9_.f
 repeat' first
   | (with_reducible exact ih0 _ _ _ _)
   | (with_reducible exact LeO.refl _)
   | (with_reducible exact LeO.none _)
   | (with_reducible refine LeO.ite ?_ ?_)
   | (with_reducible refine LeO.bind ?_ (fun _ => ?_))
   | exact ih0 _ _ _ _
   | exact LeO.none _
   | refine LeO.ite ?_ ?_
   | refine LeO.bind ?_ (fun _ => ?_)
set_option maxHeartbeats 8000000 in
set_option maxRecDepth 100000 in
theorem J9_.calls (k : Nat) (A0 : Option Addr) (c0 : Nat) (l0 : List (S120)) (r : Int) (w : World) (hr0 : Kd.C k120 w A0 l0.length l0) (hc0 : l0.length ≤ c0) (h : J9_.f k l0 = some r) :
  Calls Try.prog 76 #[.slice A0 l0.length c0] w fun e w' => e = .returned (.int .i64 r) ∧ Below w.heap.size w w' := by
 have hu120 := Try.underlying120
 have HR0 := Ja38_.mk hr0
 have HC0 := Ja38_.mk hc0
 clear hr0 hc0
 have HB := Ja38_.mk (Below.refl w.heap.size w)
 have H : (J9_.l0 k 0 l0 (l0.length : Int) 0) = some r := h
 clear h
 have H' := Ja38_.mk H
 clear H
 go_enter Try.func76, Try.ntmps76
 go_wp2
 go_loopg [3, 8] k (fun kq v3 v8 w' => ∃ (x3_1 : Int) (x8_1 : Int), v3 = .int .i64 x3_1 ∧ v8 = .int .i64 x8_1 ∧ Ja38_ (J9_.l0 kq x3_1 l0 (l0.length : Int) x8_1 = some r) ∧ Ja38_ (kq ≤ k) ∧ Ja38_ (Below w.heap.size w w'))
 case atStart => exact ⟨(0), (0), (by first | rfl | (simp; done) | (simp [*]; done)), (by first | rfl | (simp; done) | (simp [*]; done)), H', ⟨Nat.le_refl _⟩, ⟨by repeat (first | (with_reducible first | exact HB.out | apply Ja43_ | apply Ja41_ | apply Ja42_) | exact HB.out)⟩⟩
 case round =>
  clear H'
  obtain ⟨x3_1, x8_1, rfl, rfl, HA, HK1, HB⟩ := hrel
  cases gk with
  | zero => exact absurd HA.out (by simp [J9_.l0])
  | succ k1 =>
   have H := HA.out
   clear HA
   simp only [J9_.l0] at H
   by_cases c2 : x8_1 < (l0.length : Int)
   ·rw [if_pos c2] at H
    have c2b0 : decide (x8_1 < (l0.length : Int)) = true := decide_eq_true c2
    clear c2
    by_cases c3 : 0 ≤ x8_1
    ·rw [if_pos c3] at H
     have c3b0 : decide (0 ≤ x8_1) = true := decide_eq_true c3
     clear c3
     by_cases c4 : x8_1 < (l0.length : Int)
     ·rw [if_pos c4] at H
      have c4b0 : decide (x8_1 < (l0.length : Int)) = true := decide_eq_true c4
      clear c4
      obtain ⟨bq5, hbq5⟩ : ∃ b_ : Bool, b_ = ((rd_T120 l0 x8_1).f1) := ⟨_, rfl⟩
      replace H : (if bq5 = true then (J9_.l0 k1 (wrap64 (x3_1 + 1)) l0 (l0.length : Int) (wrap64 (x8_1 + 1))) else (J9_.l0 k1 x3_1 l0 (l0.length : Int) (wrap64 (x8_1 + 1)))) = some r := by rw [← hbq5] at H; exact H
      have Nbq5 := Ja38_.mk hbq5
      clear hbq5
      by_cases c6 : bq5 = true
      ·subst c6
       have H1 : (J9_.l0 k1 (wrap64 (x3_1 + 1)) l0 (l0.length : Int) (wrap64 (x8_1 + 1))) = some r := by rw [if_pos rfl] at H; exact H
       clear H
       have H := H1
       clear H1
       have H' := Ja38_.mk H
       clear H
       have p101 : 0 ≤ (x8_1 : Int) := of_decide_eq_true (by first | (with_reducible assumption) | assumption)
       have q101 : x8_1 < (l0.length : Int) := of_decide_eq_true (by first | (with_reducible assumption) | assumption)
       obtain ⟨ad101, e101, hx101_0, hx101_1, hx101_2, hx101_3, hx101_4, hx101_5, hx101_6, hx101_7, hx101_8⟩ := at_T120 HR0.out x8_1 p101 q101
       (try rw [← Nbq5.out] at hx101_3)
       (try rw [← Nbq5.out] at hx101_8)
       cases e101
       replace hx101_0 := (HB.out.cell (World.block_lt_of_cell? w _ hx101_0)).trans hx101_0
       replace hx101_1 := (HB.out.cell (World.block_lt_of_cell? w _ hx101_1)).trans hx101_1
       replace hx101_2 := (HB.out.cell (World.block_lt_of_cell? w _ hx101_2)).trans hx101_2
       replace hx101_3 := (HB.out.cell (World.block_lt_of_cell? w _ hx101_3)).trans hx101_3
       replace hx101_4 := (HB.out.cell (World.block_lt_of_cell? w _ hx101_4)).trans hx101_4
       replace hx101_5 := (HB.out.cell (World.block_lt_of_cell? w _ hx101_5)).trans hx101_5
       replace hx101_6 := (HB.out.cell (World.block_lt_of_cell? w _ hx101_6)).trans hx101_6
       replace hx101_7 := (HB.out.cell (World.block_lt_of_cell? w _ hx101_7)).trans hx101_7
       replace hx101_8 := (HB.out.cell (World.block_lt_of_cell? w _ hx101_8)).trans hx101_8
       replace p101 := eq_true p101
       replace q101 := eq_true q101
       go_wp2_with (first | ((with_reducible refine gate_dst (N := 5) rfl ?_); refine box_event ?hg (N := 5) ?hd (cs := #[.string (⟨#[]⟩ : ByteArray), .string (⟨#[]⟩ : ByteArray), .string (⟨#[]⟩ : ByteArray), .bool false, .string (⟨#[]⟩ : ByteArray), .string (⟨#[]⟩ : ByteArray), .string (⟨#[]⟩ : ByteArray), .string (⟨#[]⟩ : ByteArray), .bool false]) (t := 120) ?hr ?_; (case hd => rfl); (case hg => rfl); (case hr => first | (go_simp; done) | (go_simp; rfl)); intro gb102 hg w7 hbox hb; have n0_ := Ja38_.mk (Ja44_ (by repeat (first | (with_reducible first | exact HB.out | apply Ja43_ | apply Ja41_ | apply Ja42_) | exact HB.out)) hb); have n1_ := Ja38_.mk (hbox); have n2_ := Ja38_.mk ((by rw [hg]; exact (Ja45_ (by repeat (first | (with_reducible first | exact HB.out | apply Ja43_ | apply Ja41_ | apply Ja42_) | exact HB.out))) : w.heap.size ≤ gb102)); have n3_ := Ja38_.mk ((by rw [hg]; exact (Ja45_ (by repeat (first | (with_reducible first | exact HB.out | apply Ja43_ | apply Ja41_ | apply Ja42_) | exact HB.out))) : w.heap.size ≤ gb102)); clear HB; have HB := n0_; have BK102 := n1_; have GW102 := n2_; have GE102 := n3_; clear n0_ n1_ n2_ n3_; clear hb hbox hg; have hcz8_0 : w7.cell? ⟨gb102, 0, none⟩ = some (.string (⟨#[]⟩ : ByteArray)) := (Ja39_ BK102.out 0).trans rfl; have hcz8_1 : w7.cell? ⟨gb102, 1, none⟩ = some (.string (⟨#[]⟩ : ByteArray)) := (Ja39_ BK102.out 1).trans rfl; have hcz8_2 : w7.cell? ⟨gb102, 2, none⟩ = some (.string (⟨#[]⟩ : ByteArray)) := (Ja39_ BK102.out 2).trans rfl; have hcz8_3 : w7.cell? ⟨gb102, 3, none⟩ = some (.bool false) := (Ja39_ BK102.out 3).trans rfl; have hcz8_4 : w7.cell? ⟨gb102, 4, none⟩ = some (.string (⟨#[]⟩ : ByteArray)) := (Ja39_ BK102.out 4).trans rfl; have hcz8_5 : w7.cell? ⟨gb102, 5, none⟩ = some (.string (⟨#[]⟩ : ByteArray)) := (Ja39_ BK102.out 5).trans rfl; have hcz8_6 : w7.cell? ⟨gb102, 6, none⟩ = some (.string (⟨#[]⟩ : ByteArray)) := (Ja39_ BK102.out 6).trans rfl; have hcz8_7 : w7.cell? ⟨gb102, 7, none⟩ = some (.string (⟨#[]⟩ : ByteArray)) := (Ja39_ BK102.out 7).trans rfl; have hcz8_8 : w7.cell? ⟨gb102, 8, none⟩ = some (.bool false) := (Ja39_ BK102.out 8).trans rfl; have hfz8_0 := Ja40_ BK102.out 0; have hfz8_1 := Ja40_ BK102.out 1; have hfz8_2 := Ja40_ BK102.out 2; have hfz8_3 := Ja40_ BK102.out 3; have hfz8_4 := Ja40_ BK102.out 4; have hfz8_5 := Ja40_ BK102.out 5; have hfz8_6 := Ja40_ BK102.out 6; have hfz8_7 := Ja40_ BK102.out 7; have hfz8_8 := Ja40_ BK102.out 8))
       go_roundg k1
       case measure => have := HK1.out; omega
       case rel => exact ⟨(wrap64 (x3_1 + 1)), (wrap64 (x8_1 + 1)), (by first | rfl | (simp; done) | (simp [*]; done)), (by first | rfl | (simp; done) | (simp [*]; done)), H', ⟨by have := HK1.out; omega⟩, ⟨by repeat (first | (with_reducible first | exact HB.out | apply Ja43_ | apply Ja41_ | apply Ja42_ | refine Ja46_ ?_ GE102.out) | exact HB.out)⟩⟩
      ·replace c6 := Bool.eq_false_iff.mpr c6
       subst c6
       have H1 : (J9_.l0 k1 x3_1 l0 (l0.length : Int) (wrap64 (x8_1 + 1))) = some r := by rw [if_neg (show ¬ (false = true) by decide)] at H; exact H
       clear H
       have H := H1
       clear H1
       have H' := Ja38_.mk H
       clear H
       have p101 : 0 ≤ (x8_1 : Int) := of_decide_eq_true (by first | (with_reducible assumption) | assumption)
       have q101 : x8_1 < (l0.length : Int) := of_decide_eq_true (by first | (with_reducible assumption) | assumption)
       obtain ⟨ad101, e101, hx101_0, hx101_1, hx101_2, hx101_3, hx101_4, hx101_5, hx101_6, hx101_7, hx101_8⟩ := at_T120 HR0.out x8_1 p101 q101
       (try rw [← Nbq5.out] at hx101_3)
       (try rw [← Nbq5.out] at hx101_8)
       cases e101
       replace hx101_0 := (HB.out.cell (World.block_lt_of_cell? w _ hx101_0)).trans hx101_0
       replace hx101_1 := (HB.out.cell (World.block_lt_of_cell? w _ hx101_1)).trans hx101_1
       replace hx101_2 := (HB.out.cell (World.block_lt_of_cell? w _ hx101_2)).trans hx101_2
       replace hx101_3 := (HB.out.cell (World.block_lt_of_cell? w _ hx101_3)).trans hx101_3
       replace hx101_4 := (HB.out.cell (World.block_lt_of_cell? w _ hx101_4)).trans hx101_4
       replace hx101_5 := (HB.out.cell (World.block_lt_of_cell? w _ hx101_5)).trans hx101_5
       replace hx101_6 := (HB.out.cell (World.block_lt_of_cell? w _ hx101_6)).trans hx101_6
       replace hx101_7 := (HB.out.cell (World.block_lt_of_cell? w _ hx101_7)).trans hx101_7
       replace hx101_8 := (HB.out.cell (World.block_lt_of_cell? w _ hx101_8)).trans hx101_8
       replace p101 := eq_true p101
       replace q101 := eq_true q101
       go_wp2_with (first | ((with_reducible refine gate_dst (N := 5) rfl ?_); refine box_event ?hg (N := 5) ?hd (cs := #[.string (⟨#[]⟩ : ByteArray), .string (⟨#[]⟩ : ByteArray), .string (⟨#[]⟩ : ByteArray), .bool false, .string (⟨#[]⟩ : ByteArray), .string (⟨#[]⟩ : ByteArray), .string (⟨#[]⟩ : ByteArray), .string (⟨#[]⟩ : ByteArray), .bool false]) (t := 120) ?hr ?_; (case hd => rfl); (case hg => rfl); (case hr => first | (go_simp; done) | (go_simp; rfl)); intro gb102 hg w9 hbox hb; have n0_ := Ja38_.mk (Ja44_ (by repeat (first | (with_reducible first | exact HB.out | apply Ja43_ | apply Ja41_ | apply Ja42_) | exact HB.out)) hb); have n1_ := Ja38_.mk (hbox); have n2_ := Ja38_.mk ((by rw [hg]; exact (Ja45_ (by repeat (first | (with_reducible first | exact HB.out | apply Ja43_ | apply Ja41_ | apply Ja42_) | exact HB.out))) : w.heap.size ≤ gb102)); have n3_ := Ja38_.mk ((by rw [hg]; exact (Ja45_ (by repeat (first | (with_reducible first | exact HB.out | apply Ja43_ | apply Ja41_ | apply Ja42_) | exact HB.out))) : w.heap.size ≤ gb102)); clear HB; have HB := n0_; have BK102 := n1_; have GW102 := n2_; have GE102 := n3_; clear n0_ n1_ n2_ n3_; clear hb hbox hg; have hcz10_0 : w9.cell? ⟨gb102, 0, none⟩ = some (.string (⟨#[]⟩ : ByteArray)) := (Ja39_ BK102.out 0).trans rfl; have hcz10_1 : w9.cell? ⟨gb102, 1, none⟩ = some (.string (⟨#[]⟩ : ByteArray)) := (Ja39_ BK102.out 1).trans rfl; have hcz10_2 : w9.cell? ⟨gb102, 2, none⟩ = some (.string (⟨#[]⟩ : ByteArray)) := (Ja39_ BK102.out 2).trans rfl; have hcz10_3 : w9.cell? ⟨gb102, 3, none⟩ = some (.bool false) := (Ja39_ BK102.out 3).trans rfl; have hcz10_4 : w9.cell? ⟨gb102, 4, none⟩ = some (.string (⟨#[]⟩ : ByteArray)) := (Ja39_ BK102.out 4).trans rfl; have hcz10_5 : w9.cell? ⟨gb102, 5, none⟩ = some (.string (⟨#[]⟩ : ByteArray)) := (Ja39_ BK102.out 5).trans rfl; have hcz10_6 : w9.cell? ⟨gb102, 6, none⟩ = some (.string (⟨#[]⟩ : ByteArray)) := (Ja39_ BK102.out 6).trans rfl; have hcz10_7 : w9.cell? ⟨gb102, 7, none⟩ = some (.string (⟨#[]⟩ : ByteArray)) := (Ja39_ BK102.out 7).trans rfl; have hcz10_8 : w9.cell? ⟨gb102, 8, none⟩ = some (.bool false) := (Ja39_ BK102.out 8).trans rfl; have hfz10_0 := Ja40_ BK102.out 0; have hfz10_1 := Ja40_ BK102.out 1; have hfz10_2 := Ja40_ BK102.out 2; have hfz10_3 := Ja40_ BK102.out 3; have hfz10_4 := Ja40_ BK102.out 4; have hfz10_5 := Ja40_ BK102.out 5; have hfz10_6 := Ja40_ BK102.out 6; have hfz10_7 := Ja40_ BK102.out 7; have hfz10_8 := Ja40_ BK102.out 8))
       go_roundg k1
       case measure => have := HK1.out; omega
       case rel => exact ⟨(x3_1), (wrap64 (x8_1 + 1)), (by first | rfl | (simp; done) | (simp [*]; done)), (by first | rfl | (simp; done) | (simp [*]; done)), H', ⟨by have := HK1.out; omega⟩, ⟨by repeat (first | (with_reducible first | exact HB.out | apply Ja43_ | apply Ja41_ | apply Ja42_ | refine Ja46_ ?_ GE102.out) | exact HB.out)⟩⟩
     ·rw [if_neg c4] at H
      exact absurd H (by simp)
    ·rw [if_neg c3] at H
     exact absurd H (by simp)
   ·rw [if_neg c2] at H
    have c2b0 : decide (x8_1 < (l0.length : Int)) = false := decide_eq_false c2
    clear c2
    obtain rfl := Option.some.inj H
    go_wp2
    go_ret
    exact ⟨by first | rfl | (simp [errW_none, errW_some] <;> rfl) | (simp [*, errW_none, errW_some] <;> rfl), by repeat (first | (with_reducible first | exact HB.out | apply Ja43_ | apply Ja41_ | apply Ja42_) | exact HB.out)⟩
end Go.Proofs.Ytadafplbgophfaa.PA
end
section
namespace Go.Proofs.Ytadafplbgophfaa.PA
open Go.RowKit Go.Proofs.YtadafplbgophfaaW.PrintWords Go.Proofs.YtadafplbgophfaaW.PrintLast Go.Proofs.YtadafplbgophfaaW.PrintMore
attribute [local go_sem] max2_int min2_int max_two min_two max_three min_three max_four min_four   -- for this text's walks alone
set_option linter.unusedVariables false
set_option linter.unusedSimpArgs false
def J27_.l0 : Nat → List ByteArray → ByteArray → Int → Option (ByteArray)
 | 0, _, _, _ => none
 | k + 1, x0, x3, x4 => if x4 < (x0.length : Int) then (if 0 ≤ x4 then (if x3.size + (rdOf ByteArray.empty x0 x4).size ≤ 9223372036854775807 then (J27_.l0 k x0 (x3 ++ (rdOf ByteArray.empty x0 x4)) (wrap64 (x4 + 1))) else (none)) else (none)) else (some x3)
def J27_.f (k : Nat) (l0 : List ByteArray) : Option (ByteArray) := J27_.l0 k l0 (⟨#[]⟩ : ByteArray) 0
set_option maxHeartbeats 8000000 in
set_option maxRecDepth 100000 in
theorem J27_.calls (k : Nat) (A0 : Option Addr) (c0 : Nat) (l0 : List ByteArray) (r : ByteArray) (w : World) (hr0 : Kd.C Kd.string w A0 l0.length l0) (hc0 : l0.length ≤ c0) (h : J27_.f k l0 = some r) :
  Calls Try.prog 78 #[.slice A0 l0.length c0] w fun e w' => e = .returned (.string r) ∧ Drawn0 w w' := by
 have HR0 := Ja38_.mk hr0
 have HC0 := Ja38_.mk hc0
 clear hr0 hc0
 have H : (J27_.l0 k l0 (⟨#[]⟩ : ByteArray) 0) = some r := h
 clear h
 have H' := Ja38_.mk H
 clear H
 go_enter Try.func78, Try.ntmps78
 go_wp2
 go_loopg [3, 4] k (fun kq v3 v4 w' => ∃ (x3_1 : ByteArray) (x4_1 : Int), v3 = .string x3_1 ∧ v4 = .int .i64 x4_1 ∧ Ja38_ (J27_.l0 kq l0 x3_1 x4_1 = some r) ∧ Ja38_ (kq ≤ k) ∧ Drawn0 w w')
 case atStart => exact ⟨((⟨#[]⟩ : ByteArray)), (0), (by first | rfl | (simp; done) | (simp [*]; done)), (by first | rfl | (simp; done) | (simp [*]; done)), H', ⟨Nat.le_refl _⟩, by repeat (first | exact Drawn0.refl _ | apply Drawn0.step)⟩
 case round =>
  clear H'
  obtain ⟨x3_1, x4_1, rfl, rfl, HA, HK1, ⟨m1, rfl⟩⟩ := hrel
  cases gk with
  | zero => exact absurd HA.out (by simp [J27_.l0])
  | succ k1 =>
   have H := HA.out
   clear HA
   simp only [J27_.l0] at H
   by_cases c2 : x4_1 < (l0.length : Int)
   ·rw [if_pos c2] at H
    have c2b0 : decide (x4_1 < (l0.length : Int)) = true := decide_eq_true c2
    clear c2
    by_cases c3 : 0 ≤ x4_1
    ·rw [if_pos c3] at H
     have c3b0 : decide (0 ≤ x4_1) = true := decide_eq_true c3
     clear c3
     by_cases c4 : x3_1.size + (rdOf ByteArray.empty l0 x4_1).size ≤ 9223372036854775807
     ·rw [if_pos c4] at H
      have c4b0 := eq_true c4
      have c4b1 : decide (x3_1.size + (rdOf ByteArray.empty l0 x4_1).size ≤ 9223372036854775807) = true := decide_eq_true c4
      try have c4b2 : (9223372036854775807 < x3_1.size + (rdOf ByteArray.empty l0 x4_1).size) = False := eq_false (Nat.not_lt.2 c4)
      have H' := Ja38_.mk H
      clear H
      have p101 : 0 ≤ (x4_1 : Int) := of_decide_eq_true (by first | (with_reducible assumption) | assumption)
      have q101 : x4_1 < (l0.length : Int) := of_decide_eq_true (by first | (with_reducible assumption) | assumption)
      obtain ⟨ad101, e101, hx101_0⟩ := Kd.at_string HR0.out x4_1 p101 q101
      cases e101
      replace p101 := eq_true p101
      replace q101 := eq_true q101
      go_wp2
      go_roundg k1
      case measure => have := HK1.out; omega
      case rel => exact ⟨(x3_1 ++ (rdOf ByteArray.empty l0 x4_1)), (wrap64 (x4_1 + 1)), (by first | rfl | (simp; done) | (simp [*]; done)), (by first | rfl | (simp; done) | (simp [*]; done)), H', ⟨by have := HK1.out; omega⟩, by repeat (first | exact Drawn0.refl _ | apply Drawn0.step)⟩
     ·rw [if_neg c4] at H
      exact absurd H (by simp)
    ·rw [if_neg c3] at H
     exact absurd H (by simp)
   ·rw [if_neg c2] at H
    have c2b0 : decide (x4_1 < (l0.length : Int)) = false := decide_eq_false c2
    clear c2
    obtain rfl := Option.some.inj H
    go_wp2
    go_ret
    exact ⟨by first | rfl | (simp; done) | (simp [*]; done), by repeat (first | exact Drawn0.refl _ | apply Drawn0.step)⟩
end Go.Proofs.Ytadafplbgophfaa.PA
end
section
namespace Go.Proofs.Ytadafplbgophfaa.PA
open Go.RowKit Go.Proofs.YtadafplbgophfaaW.PrintWords Go.Proofs.YtadafplbgophfaaW.PrintLast Go.Proofs.YtadafplbgophfaaW.PrintMore
attribute [local go_sem] max2_int min2_int max_two min_two max_three min_three max_four min_four   -- for this text's walks alone
set_option linter.unusedVariables false
set_option linter.unusedSimpArgs false
def J0_.l0 : Nat → Int → List (S78) → Int → Int → List ByteArray → List ByteArray → List ByteArray → Option (Int)
 | 0, _, _, _, _, _, _, _ => none
 | k + 1, x5, x8, x9, x10, x102000, x102001, x102002 => if x10 < x9 then (if 0 ≤ x10 then (if x10 < (x8.length : Int) then ((J2_.f k x102000 x102001 x102002 ((rd_T78 x8 x10).f0) ((rd_T78 x8 x10).f1.f0) ((rd_T78 x8 x10).f1.f1) ((rd_T78 x8 x10).f2.f0) ((rd_T78 x8 x10).f2.f1) ((rd_T78 x8 x10).f3.f0) ((rd_T78 x8 x10).f3.f1)).bind fun bt104 => (if bt104.2.2.2.2.2.2.2.2.2.2 = 4 then (J0_.l0 k (wrap64 (x5 + 1)) x8 x9 (wrap64 (x10 + 1)) x102000 x102001 x102002) else (J0_.l0 k x5 x8 x9 (wrap64 (x10 + 1)) x102000 x102001 x102002))) else (none)) else (none)) else (some x5)
def J0_.f (k : Nat) (l0_0 : List ByteArray) (l0_1 : List ByteArray) (l0_2 : List ByteArray) (l1 : List (S78)) : Option (Int) := J0_.l0 k 0 l1 (l1.length : Int) 0 l0_0 l0_1 l0_2
set_option maxHeartbeats 8000000 in
set_option maxRecDepth 100000 in
theorem J0_.calls (k : Nat) (A0_0 : Option Addr) (c0_0 : Nat) (l0_0 : List ByteArray) (A0_1 : Option Addr) (c0_1 : Nat) (l0_1 : List ByteArray) (A0_2 : Option Addr) (c0_2 : Nat) (l0_2 : List ByteArray) (A1 : Option Addr) (c1 : Nat) (l1 : List (S78)) (r : Int) (w : World) (hr0_0 : Kd.C Kd.string w A0_0 l0_0.length l0_0) (hc0_0 : l0_0.length ≤ c0_0) (hr0_1 : Kd.C Kd.string w A0_1 l0_1.length l0_1) (hc0_1 : l0_1.length ≤ c0_1) (hr0_2 : Kd.C Kd.string w A0_2 l0_2.length l0_2) (hc0_2 : l0_2.length ≤ c0_2) (hr1 : Kd.C k78 w A1 l1.length l1) (hc1 : l1.length ≤ c1) (h : J0_.f k l0_0 l0_1 l0_2 l1 = some r) :
  Calls Try.prog 80 #[.agg #[.slice A0_0 l0_0.length c0_0, .slice A0_1 l0_1.length c0_1, .slice A0_2 l0_2.length c0_2], .slice A1 l1.length c1] w fun e w' => e = .returned (.int .i64 r) ∧ Below w.heap.size w w' := by
 have hu112 := Try.underlying112
 have hu78 := Try.underlying78
 have hfd184 : ∀ (b : Bool) (i1 i2 i3 i4 i5 i6 : Int) (v1 v2 v3 : Value) (i7 : Int) (w : World), (Instr.field 184 (.agg #[.bool b, .int .i64 i1, .int .i64 i2, .int .i64 i3, .int .i64 i4, .int .i64 i5, .int .i64 i6, v1, v2, v3, .int .i64 i7]) 4).run Try.prog w = .ok (.int .i64 i7) w := fun _ _ _ _ _ _ _ _ _ _ _ _ => by kernel_rfl
 have HR0_0 := Ja38_.mk hr0_0
 have HC0_0 := Ja38_.mk hc0_0
 clear hr0_0 hc0_0
 have HR0_1 := Ja38_.mk hr0_1
 have HC0_1 := Ja38_.mk hc0_1
 clear hr0_1 hc0_1
 have HR0_2 := Ja38_.mk hr0_2
 have HC0_2 := Ja38_.mk hc0_2
 clear hr0_2 hc0_2
 have HR1 := Ja38_.mk hr1
 have HC1 := Ja38_.mk hc1
 clear hr1 hc1
 have HB := Ja38_.mk (Below.refl w.heap.size w)
 have H : (J0_.l0 k 0 l1 (l1.length : Int) 0 l0_0 l0_1 l0_2) = some r := h
 clear h
 have H' := Ja38_.mk H
 clear H
 go_enter Try.func80, Try.ntmps80
 go_wp2_with (first | ((with_reducible refine gate_dst (N := 2) rfl ?_); refine box_event ?hg (N := 2) ?hd (cs := #[.slice A0_0 l0_0.length c0_0, .slice A0_1 l0_1.length c0_1, .slice A0_2 l0_2.length c0_2]) (t := 112) ?hr ?_; (case hd => rfl); (case hg => rfl); (case hr => first | (go_simp; done) | (go_simp; rfl)); intro gb101 hg w3 hbox hb; have n0_ := Ja38_.mk (Ja44_ (by repeat (first | (with_reducible first | exact HB.out | apply Ja43_ | apply Ja41_ | apply Ja42_) | exact HB.out)) hb); have n1_ := Ja38_.mk (hbox); have n2_ := Ja38_.mk ((by rw [hg]; exact (Ja45_ (by repeat (first | (with_reducible first | exact HB.out | apply Ja43_ | apply Ja41_ | apply Ja42_) | exact HB.out))) : w.heap.size ≤ gb101)); have n3_ := Ja38_.mk ((by rw [hg]; exact (Ja45_ (by repeat (first | (with_reducible first | exact HB.out | apply Ja43_ | apply Ja41_ | apply Ja42_) | exact HB.out))) : w.heap.size ≤ gb101)); clear HB; have HB := n0_; have BK101 := n1_; have GW101 := n2_; have GE101 := n3_; clear n0_ n1_ n2_ n3_; clear hb hbox hg))
 go_loopg [5, 10] k (fun kq v5 v10 w' => ∃ (x5_1 : Int) (x10_1 : Int), v5 = .int .i64 x5_1 ∧ v10 = .int .i64 x10_1 ∧ Ja38_ (J0_.l0 kq x5_1 l1 (l1.length : Int) x10_1 l0_0 l0_1 l0_2 = some r) ∧ Ja38_ (kq ≤ k) ∧ Ja38_ (w'.heap[gb101]? = some (.cells #[(.slice A0_0 l0_0.length c0_0), (.slice A0_1 l0_1.length c0_1), (.slice A0_2 l0_2.length c0_2)] 112 (0, 0))) ∧ Ja38_ (Below w.heap.size w w'))
 case atStart => exact ⟨(0), (0), (by first | rfl | (simp; done) | (simp [*]; done)), (by first | rfl | (simp; done) | (simp [*]; done)), H', ⟨Nat.le_refl _⟩, ⟨by (with_reducible repeat (first | refine Ja50_ ?_ _ | refine Ja49_ ?_ | refine Ja48_ ?_ _)); exact BK101.out⟩, ⟨by repeat (first | (with_reducible first | exact HB.out | apply Ja43_ | apply Ja41_ | apply Ja42_ | refine Ja46_ ?_ GE101.out) | exact HB.out)⟩⟩
 case round =>
  clear H'
  try clear c1
  try clear p2
  obtain ⟨x5_1, x10_1, rfl, rfl, HA, HK1, BK101, HB⟩ := hrel
  cases gk with
  | zero => exact absurd HA.out (by simp [J0_.l0])
  | succ k1 =>
   have H := HA.out
   clear HA
   simp only [J0_.l0] at H
   by_cases c4 : x10_1 < (l1.length : Int)
   ·rw [if_pos c4] at H
    have c4b0 : decide (x10_1 < (l1.length : Int)) = true := decide_eq_true c4
    clear c4
    by_cases c5 : 0 ≤ x10_1
    ·rw [if_pos c5] at H
     have c5b0 : decide (0 ≤ x10_1) = true := decide_eq_true c5
     clear c5
     by_cases c6 : x10_1 < (l1.length : Int)
     ·rw [if_pos c6] at H
      have c6b0 : decide (x10_1 < (l1.length : Int)) = true := decide_eq_true c6
      clear c6
      replace H := Option.bind_eq_some_iff.mp H
      obtain ⟨⟨t104, t105, t106, t107, t108, t109, t110, t111, t114, t117, t120⟩, A70, H⟩ := H
      replace H : (if t120 = 4 then (J0_.l0 k1 (wrap64 (x5_1 + 1)) l1 (l1.length : Int) (wrap64 (x10_1 + 1)) l0_0 l0_1 l0_2) else (J0_.l0 k1 x5_1 l1 (l1.length : Int) (wrap64 (x10_1 + 1)) l0_0 l0_1 l0_2)) = some r := H
      have A7 := Ja38_.mk A70
      clear A70
      by_cases c8 : t120 = 4
      ·rw [if_pos c8] at H
       have c8b0 : (t120 == 4) = true := beq_iff_eq.mpr c8
       have c8b1 : (t120 != 4) = false := bne_eq_false_iff_eq.mpr c8
       clear c8
       have H' := Ja38_.mk H
       clear H
       have p102 : 0 ≤ (x10_1 : Int) := of_decide_eq_true (by first | (with_reducible assumption) | assumption)
       have q102 : x10_1 < (l1.length : Int) := of_decide_eq_true (by first | (with_reducible assumption) | assumption)
       obtain ⟨ad102, e102, hx102_0, hx102_1, hx102_2, hx102_3, hx102_4, hx102_5, hx102_6⟩ := at_T78 HR1.out x10_1 p102 q102
       cases e102
       replace hx102_0 := (HB.out.cell (World.block_lt_of_cell? w _ hx102_0)).trans hx102_0
       replace hx102_1 := (HB.out.cell (World.block_lt_of_cell? w _ hx102_1)).trans hx102_1
       replace hx102_2 := (HB.out.cell (World.block_lt_of_cell? w _ hx102_2)).trans hx102_2
       replace hx102_3 := (HB.out.cell (World.block_lt_of_cell? w _ hx102_3)).trans hx102_3
       replace hx102_4 := (HB.out.cell (World.block_lt_of_cell? w _ hx102_4)).trans hx102_4
       replace hx102_5 := (HB.out.cell (World.block_lt_of_cell? w _ hx102_5)).trans hx102_5
       replace hx102_6 := (HB.out.cell (World.block_lt_of_cell? w _ hx102_6)).trans hx102_6
       replace p102 := eq_true p102
       replace q102 := eq_true q102
       go_wp2_with (first | ((with_reducible refine gate_dst (N := 7) rfl ?_); refine box_event ?hg (N := 7) ?hd (cs := #[.bool false, .int .i64 0, .int .i64 0, .int .i64 0, .int .i64 0, .int .i64 0, .int .i64 0]) (t := 78) ?hr ?_; (case hd => rfl); (case hg => rfl); (case hr => first | (go_simp; done) | (go_simp; rfl)); intro gb103 hg w9 hbox hb; have n0_ := Ja38_.mk (Ja47_ (g := gb101) (o := .cells #[.slice A0_0 l0_0.length c0_0, .slice A0_1 l0_1.length c0_1, .slice A0_2 l0_2.length c0_2] 112 (0, 0)) (by (with_reducible repeat (first | refine Ja50_ ?_ _ | refine Ja49_ ?_ | refine Ja48_ ?_ _)); exact BK101.out) hb); have n1_ := Ja38_.mk (Ja44_ (by repeat (first | (with_reducible first | exact HB.out | apply Ja43_ | apply Ja41_ | apply Ja42_ | refine Ja46_ ?_ GE101.out) | exact HB.out)) hb); have n2_ := Ja38_.mk (hbox); have n3_ := Ja38_.mk ((by rw [hg]; exact (Ja45_ (by repeat (first | (with_reducible first | exact HB.out | apply Ja43_ | apply Ja41_ | apply Ja42_ | refine Ja46_ ?_ GE101.out) | exact HB.out))) : w.heap.size ≤ gb103)); have n4_ := Ja38_.mk ((by rw [hg]; exact (Ja45_ (by repeat (first | (with_reducible first | exact HB.out | apply Ja43_ | apply Ja41_ | apply Ja42_ | refine Ja46_ ?_ GE101.out) | exact HB.out))) : w.heap.size ≤ gb103)); have n5_ := Ja38_.mk ((by rw [hg]; exact Nat.ne_of_lt (blk_lt (g := gb101) (o := .cells #[.slice A0_0 l0_0.length c0_0, .slice A0_1 l0_1.length c0_1, .slice A0_2 l0_2.length c0_2] 112 (0, 0)) (by (with_reducible repeat (first | refine Ja50_ ?_ _ | refine Ja49_ ?_ | refine Ja48_ ?_ _)); exact BK101.out)) : gb101 ≠ gb103)); have n6_ := Ja38_.mk ((by rw [hg]; exact Nat.ne_of_gt (blk_lt (g := gb101) (o := .cells #[.slice A0_0 l0_0.length c0_0, .slice A0_1 l0_1.length c0_1, .slice A0_2 l0_2.length c0_2] 112 (0, 0)) (by (with_reducible repeat (first | refine Ja50_ ?_ _ | refine Ja49_ ?_ | refine Ja48_ ?_ _)); exact BK101.out)) : gb103 ≠ gb101)); clear BK101; clear HB; have BK101 := n0_; have HB := n1_; have BK103 := n2_; have GW103 := n3_; have GE103 := n4_; have NB101_103 := n5_; have NB103_101 := n6_; clear n0_ n1_ n2_ n3_ n4_ n5_ n6_; clear hb hbox hg; have hnb10 := NB103_101.out; have hnc10 := NB101_103.out; have hcz11_0 : w9.cell? ⟨gb103, 0, none⟩ = some (.bool false) := (Ja39_ BK103.out 0).trans rfl; have hcz11_1 : w9.cell? ⟨gb103, 1, none⟩ = some (.int .i64 0) := (Ja39_ BK103.out 1).trans rfl; have hcz11_2 : w9.cell? ⟨gb103, 2, none⟩ = some (.int .i64 0) := (Ja39_ BK103.out 2).trans rfl; have hcz11_3 : w9.cell? ⟨gb103, 3, none⟩ = some (.int .i64 0) := (Ja39_ BK103.out 3).trans rfl; have hcz11_4 : w9.cell? ⟨gb103, 4, none⟩ = some (.int .i64 0) := (Ja39_ BK103.out 4).trans rfl; have hcz11_5 : w9.cell? ⟨gb103, 5, none⟩ = some (.int .i64 0) := (Ja39_ BK103.out 5).trans rfl; have hcz11_6 : w9.cell? ⟨gb103, 6, none⟩ = some (.int .i64 0) := (Ja39_ BK103.out 6).trans rfl; have hfz11_0 := Ja40_ BK103.out 0; have hfz11_1 := Ja40_ BK103.out 1; have hfz11_2 := Ja40_ BK103.out 2; have hfz11_3 := Ja40_ BK103.out 3; have hfz11_4 := Ja40_ BK103.out 4; have hfz11_5 := Ja40_ BK103.out 5; have hfz11_6 := Ja40_ BK103.out 6; have hcz12_0 : w9.cell? ⟨gb101, 0, none⟩ = some (.slice A0_0 l0_0.length c0_0) := (Ja39_ BK101.out 0).trans rfl; have hcz12_1 : w9.cell? ⟨gb101, 1, none⟩ = some (.slice A0_1 l0_1.length c0_1) := (Ja39_ BK101.out 1).trans rfl; have hcz12_2 : w9.cell? ⟨gb101, 2, none⟩ = some (.slice A0_2 l0_2.length c0_2) := (Ja39_ BK101.out 2).trans rfl; have hfz12_0 := Ja40_ BK101.out 0; have hfz12_1 := Ja40_ BK101.out 1; have hfz12_2 := Ja40_ BK101.out 2) | ((with_reducible refine gate_callee (f := 120) rfl ?_); refine goesL_ (some 16) rfl rfl Try.func120 (by kernel_rfl) rfl #[.agg #[.slice A0_0 l0_0.length c0_0, .slice A0_1 l0_1.length c0_1, .slice A0_2 l0_2.length c0_2], .agg #[.bool ((rd_T78 l1 x10_1).f0), .int .i64 ((rd_T78 l1 x10_1).f1.f0), .int .i64 ((rd_T78 l1 x10_1).f1.f1), .int .i64 ((rd_T78 l1 x10_1).f2.f0), .int .i64 ((rd_T78 l1 x10_1).f2.f1), .int .i64 ((rd_T78 l1 x10_1).f3.f0), .int .i64 ((rd_T78 l1 x10_1).f3.f1)]] rfl (by (try simp only [List.map_toArray, List.map_cons, List.map_nil]); first | done | rfl | (simp only [List.length_drop, List.length_take]; rfl)) ?_; (with_reducible refine (J2_.calls k1 _ _ l0_0 _ _ l0_1 _ _ l0_2 ((rd_T78 l1 x10_1).f0) ((rd_T78 l1 x10_1).f1.f0) ((rd_T78 l1 x10_1).f1.f1) ((rd_T78 l1 x10_1).f2.f0) ((rd_T78 l1 x10_1).f2.f1) ((rd_T78 l1 x10_1).f3.f0) ((rd_T78 l1 x10_1).f3.f1) t104 t105 t106 t107 t108 t109 t110 t111 t114 t117 t120 _ ?side1 ?side2 ?side3 ?side4 ?side5 ?side6 A7.out).mono ?_); (case side1 => exact Kd.C_below HR0_0.out (by repeat (first | (with_reducible first | exact HB.out | apply Ja43_ | apply Ja41_ | apply Ja42_ | refine Ja46_ ?_ GE101.out | refine Ja46_ ?_ GE103.out) | exact HB.out))); (case side2 => exact HC0_0.out); (case side3 => exact Kd.C_below HR0_1.out (by repeat (first | (with_reducible first | exact HB.out | apply Ja43_ | apply Ja41_ | apply Ja42_ | refine Ja46_ ?_ GE101.out | refine Ja46_ ?_ GE103.out) | exact HB.out))); (case side4 => exact HC0_1.out); (case side5 => exact Kd.C_below HR0_2.out (by repeat (first | (with_reducible first | exact HB.out | apply Ja43_ | apply Ja41_ | apply Ja42_ | refine Ja46_ ?_ GE101.out | refine Ja46_ ?_ GE103.out) | exact HB.out))); (case side6 => exact HC0_2.out); rintro e w13 ⟨v112, v115, v118, rfl, ho0, ho1, ho2, hb⟩; refine ⟨_, rfl, ?_⟩; have n0_ := Ja38_.mk (Kd.R_lower ho0 (Ja45_ (by repeat (first | (with_reducible first | exact HB.out | apply Ja43_ | apply Ja41_ | apply Ja42_ | refine Ja46_ ?_ GE101.out | refine Ja46_ ?_ GE103.out) | exact HB.out)))); have n1_ := Ja38_.mk (Kd.R_lower ho1 (Ja45_ (by repeat (first | (with_reducible first | exact HB.out | apply Ja43_ | apply Ja41_ | apply Ja42_ | refine Ja46_ ?_ GE101.out | refine Ja46_ ?_ GE103.out) | exact HB.out)))); have n2_ := Ja38_.mk (Kd.R_lower ho2 (Ja45_ (by repeat (first | (with_reducible first | exact HB.out | apply Ja43_ | apply Ja41_ | apply Ja42_ | refine Ja46_ ?_ GE101.out | refine Ja46_ ?_ GE103.out) | exact HB.out)))); have n3_ := Ja38_.mk (Ja47_ (g := gb101) (o := .cells #[.slice A0_0 l0_0.length c0_0, .slice A0_1 l0_1.length c0_1, .slice A0_2 l0_2.length c0_2] 112 (0, 0)) (by (with_reducible repeat (first | refine Ja50_ ?_ _ | refine Ja49_ ?_ | refine Ja48_ ?_ _)); refine blk_far ?_ NB101_103.out _; (with_reducible repeat (first | refine Ja50_ ?_ _ | refine Ja49_ ?_ | refine Ja48_ ?_ _)); refine blk_far ?_ NB101_103.out _; (with_reducible repeat (first | refine Ja50_ ?_ _ | refine Ja49_ ?_ | refine Ja48_ ?_ _)); refine blk_far ?_ NB101_103.out _; (with_reducible repeat (first | refine Ja50_ ?_ _ | refine Ja49_ ?_ | refine Ja48_ ?_ _)); refine blk_far ?_ NB101_103.out _; (with_reducible repeat (first | refine Ja50_ ?_ _ | refine Ja49_ ?_ | refine Ja48_ ?_ _)); refine blk_far ?_ NB101_103.out _; (with_reducible repeat (first | refine Ja50_ ?_ _ | refine Ja49_ ?_ | refine Ja48_ ?_ _)); refine blk_far ?_ NB101_103.out _; (with_reducible repeat (first | refine Ja50_ ?_ _ | refine Ja49_ ?_ | refine Ja48_ ?_ _)); refine blk_far ?_ NB101_103.out _; (with_reducible repeat (first | refine Ja50_ ?_ _ | refine Ja49_ ?_ | refine Ja48_ ?_ _)); exact BK101.out) hb); have n4_ := Ja38_.mk (Ja47_ (g := gb103) (o := .cells #[.bool ((rd_T78 l1 x10_1).f0), .int .i64 ((rd_T78 l1 x10_1).f1.f0), .int .i64 ((rd_T78 l1 x10_1).f1.f1), .int .i64 ((rd_T78 l1 x10_1).f2.f0), .int .i64 ((rd_T78 l1 x10_1).f2.f1), .int .i64 ((rd_T78 l1 x10_1).f3.f0), .int .i64 ((rd_T78 l1 x10_1).f3.f1)] 78 (0, 0)) (by (with_reducible repeat (first | refine Ja50_ ?_ _ | refine Ja49_ ?_ | refine Ja48_ ?_ _)); refine blk_put (cs := #[.bool ((rd_T78 l1 x10_1).f0), .int .i64 ((rd_T78 l1 x10_1).f1.f0), .int .i64 ((rd_T78 l1 x10_1).f1.f1), .int .i64 ((rd_T78 l1 x10_1).f2.f0), .int .i64 ((rd_T78 l1 x10_1).f2.f1), .int .i64 ((rd_T78 l1 x10_1).f3.f0), .int .i64 0]) ?_ 6 _ rfl; (with_reducible repeat (first | refine Ja50_ ?_ _ | refine Ja49_ ?_ | refine Ja48_ ?_ _)); refine blk_put (cs := #[.bool ((rd_T78 l1 x10_1).f0), .int .i64 ((rd_T78 l1 x10_1).f1.f0), .int .i64 ((rd_T78 l1 x10_1).f1.f1), .int .i64 ((rd_T78 l1 x10_1).f2.f0), .int .i64 ((rd_T78 l1 x10_1).f2.f1), .int .i64 0, .int .i64 0]) ?_ 5 _ rfl; (with_reducible repeat (first | refine Ja50_ ?_ _ | refine Ja49_ ?_ | refine Ja48_ ?_ _)); refine blk_put (cs := #[.bool ((rd_T78 l1 x10_1).f0), .int .i64 ((rd_T78 l1 x10_1).f1.f0), .int .i64 ((rd_T78 l1 x10_1).f1.f1), .int .i64 ((rd_T78 l1 x10_1).f2.f0), .int .i64 0, .int .i64 0, .int .i64 0]) ?_ 4 _ rfl; (with_reducible repeat (first | refine Ja50_ ?_ _ | refine Ja49_ ?_ | refine Ja48_ ?_ _)); refine blk_put (cs := #[.bool ((rd_T78 l1 x10_1).f0), .int .i64 ((rd_T78 l1 x10_1).f1.f0), .int .i64 ((rd_T78 l1 x10_1).f1.f1), .int .i64 0, .int .i64 0, .int .i64 0, .int .i64 0]) ?_ 3 _ rfl; (with_reducible repeat (first | refine Ja50_ ?_ _ | refine Ja49_ ?_ | refine Ja48_ ?_ _)); refine blk_put (cs := #[.bool ((rd_T78 l1 x10_1).f0), .int .i64 ((rd_T78 l1 x10_1).f1.f0), .int .i64 0, .int .i64 0, .int .i64 0, .int .i64 0, .int .i64 0]) ?_ 2 _ rfl; (with_reducible repeat (first | refine Ja50_ ?_ _ | refine Ja49_ ?_ | refine Ja48_ ?_ _)); refine blk_put (cs := #[.bool ((rd_T78 l1 x10_1).f0), .int .i64 0, .int .i64 0, .int .i64 0, .int .i64 0, .int .i64 0, .int .i64 0]) ?_ 1 _ rfl; (with_reducible repeat (first | refine Ja50_ ?_ _ | refine Ja49_ ?_ | refine Ja48_ ?_ _)); refine blk_put (cs := #[.bool false, .int .i64 0, .int .i64 0, .int .i64 0, .int .i64 0, .int .i64 0, .int .i64 0]) ?_ 0 _ rfl; (with_reducible repeat (first | refine Ja50_ ?_ _ | refine Ja49_ ?_ | refine Ja48_ ?_ _)); exact BK103.out) hb); have n5_ := Ja38_.mk (Ja44_ (by repeat (first | (with_reducible first | exact HB.out | apply Ja43_ | apply Ja41_ | apply Ja42_ | refine Ja46_ ?_ GE101.out | refine Ja46_ ?_ GE103.out) | exact HB.out)) hb); clear BK101; clear BK103; clear HB; have HO113 := n0_; have HO116 := n1_; have HO119 := n2_; have BK101 := n3_; have BK103 := n4_; have HB := n5_; clear n0_ n1_ n2_ n3_ n4_ n5_; (try clear hb); (try clear hb2); (try clear hk); (try clear hi); (try clear ho0); (try clear ho1); (try clear ho2)))
       go_roundg k1
       case measure => have := HK1.out; omega
       case rel => exact ⟨(wrap64 (x5_1 + 1)), (wrap64 (x10_1 + 1)), (by first | rfl | (simp; done) | (simp [*]; done)), (by first | rfl | (simp; done) | (simp [*]; done)), H', ⟨by have := HK1.out; omega⟩, ⟨by (with_reducible repeat (first | refine Ja50_ ?_ _ | refine Ja49_ ?_ | refine Ja48_ ?_ _)); exact BK101.out⟩, ⟨by repeat (first | (with_reducible first | exact HB.out | apply Ja43_ | apply Ja41_ | apply Ja42_ | refine Ja46_ ?_ GE101.out | refine Ja46_ ?_ GE103.out) | exact HB.out)⟩⟩
      ·rw [if_neg c8] at H
       have c8b0 : (t120 == 4) = false := beq_eq_false_iff_ne.mpr c8
       have c8b1 : (t120 != 4) = true := bne_iff_ne.mpr c8
       have H' := Ja38_.mk H
       clear H
       have p102 : 0 ≤ (x10_1 : Int) := of_decide_eq_true (by first | (with_reducible assumption) | assumption)
       have q102 : x10_1 < (l1.length : Int) := of_decide_eq_true (by first | (with_reducible assumption) | assumption)
       obtain ⟨ad102, e102, hx102_0, hx102_1, hx102_2, hx102_3, hx102_4, hx102_5, hx102_6⟩ := at_T78 HR1.out x10_1 p102 q102
       cases e102
       replace hx102_0 := (HB.out.cell (World.block_lt_of_cell? w _ hx102_0)).trans hx102_0
       replace hx102_1 := (HB.out.cell (World.block_lt_of_cell? w _ hx102_1)).trans hx102_1
       replace hx102_2 := (HB.out.cell (World.block_lt_of_cell? w _ hx102_2)).trans hx102_2
       replace hx102_3 := (HB.out.cell (World.block_lt_of_cell? w _ hx102_3)).trans hx102_3
       replace hx102_4 := (HB.out.cell (World.block_lt_of_cell? w _ hx102_4)).trans hx102_4
       replace hx102_5 := (HB.out.cell (World.block_lt_of_cell? w _ hx102_5)).trans hx102_5
       replace hx102_6 := (HB.out.cell (World.block_lt_of_cell? w _ hx102_6)).trans hx102_6
       replace p102 := eq_true p102
       replace q102 := eq_true q102
       go_wp2_with (first | ((with_reducible refine gate_dst (N := 7) rfl ?_); refine box_event ?hg (N := 7) ?hd (cs := #[.bool false, .int .i64 0, .int .i64 0, .int .i64 0, .int .i64 0, .int .i64 0, .int .i64 0]) (t := 78) ?hr ?_; (case hd => rfl); (case hg => rfl); (case hr => first | (go_simp; done) | (go_simp; rfl)); intro gb103 hg w14 hbox hb; have n0_ := Ja38_.mk (Ja47_ (g := gb101) (o := .cells #[.slice A0_0 l0_0.length c0_0, .slice A0_1 l0_1.length c0_1, .slice A0_2 l0_2.length c0_2] 112 (0, 0)) (by (with_reducible repeat (first | refine Ja50_ ?_ _ | refine Ja49_ ?_ | refine Ja48_ ?_ _)); exact BK101.out) hb); have n1_ := Ja38_.mk (Ja44_ (by repeat (first | (with_reducible first | exact HB.out | apply Ja43_ | apply Ja41_ | apply Ja42_ | refine Ja46_ ?_ GE101.out) | exact HB.out)) hb); have n2_ := Ja38_.mk (hbox); have n3_ := Ja38_.mk ((by rw [hg]; exact (Ja45_ (by repeat (first | (with_reducible first | exact HB.out | apply Ja43_ | apply Ja41_ | apply Ja42_ | refine Ja46_ ?_ GE101.out) | exact HB.out))) : w.heap.size ≤ gb103)); have n4_ := Ja38_.mk ((by rw [hg]; exact (Ja45_ (by repeat (first | (with_reducible first | exact HB.out | apply Ja43_ | apply Ja41_ | apply Ja42_ | refine Ja46_ ?_ GE101.out) | exact HB.out))) : w.heap.size ≤ gb103)); have n5_ := Ja38_.mk ((by rw [hg]; exact Nat.ne_of_lt (blk_lt (g := gb101) (o := .cells #[.slice A0_0 l0_0.length c0_0, .slice A0_1 l0_1.length c0_1, .slice A0_2 l0_2.length c0_2] 112 (0, 0)) (by (with_reducible repeat (first | refine Ja50_ ?_ _ | refine Ja49_ ?_ | refine Ja48_ ?_ _)); exact BK101.out)) : gb101 ≠ gb103)); have n6_ := Ja38_.mk ((by rw [hg]; exact Nat.ne_of_gt (blk_lt (g := gb101) (o := .cells #[.slice A0_0 l0_0.length c0_0, .slice A0_1 l0_1.length c0_1, .slice A0_2 l0_2.length c0_2] 112 (0, 0)) (by (with_reducible repeat (first | refine Ja50_ ?_ _ | refine Ja49_ ?_ | refine Ja48_ ?_ _)); exact BK101.out)) : gb103 ≠ gb101)); clear BK101; clear HB; have BK101 := n0_; have HB := n1_; have BK103 := n2_; have GW103 := n3_; have GE103 := n4_; have NB101_103 := n5_; have NB103_101 := n6_; clear n0_ n1_ n2_ n3_ n4_ n5_ n6_; clear hb hbox hg; have hnb15 := NB103_101.out; have hnc15 := NB101_103.out; have hcz16_0 : w14.cell? ⟨gb103, 0, none⟩ = some (.bool false) := (Ja39_ BK103.out 0).trans rfl; have hcz16_1 : w14.cell? ⟨gb103, 1, none⟩ = some (.int .i64 0) := (Ja39_ BK103.out 1).trans rfl; have hcz16_2 : w14.cell? ⟨gb103, 2, none⟩ = some (.int .i64 0) := (Ja39_ BK103.out 2).trans rfl; have hcz16_3 : w14.cell? ⟨gb103, 3, none⟩ = some (.int .i64 0) := (Ja39_ BK103.out 3).trans rfl; have hcz16_4 : w14.cell? ⟨gb103, 4, none⟩ = some (.int .i64 0) := (Ja39_ BK103.out 4).trans rfl; have hcz16_5 : w14.cell? ⟨gb103, 5, none⟩ = some (.int .i64 0) := (Ja39_ BK103.out 5).trans rfl; have hcz16_6 : w14.cell? ⟨gb103, 6, none⟩ = some (.int .i64 0) := (Ja39_ BK103.out 6).trans rfl; have hfz16_0 := Ja40_ BK103.out 0; have hfz16_1 := Ja40_ BK103.out 1; have hfz16_2 := Ja40_ BK103.out 2; have hfz16_3 := Ja40_ BK103.out 3; have hfz16_4 := Ja40_ BK103.out 4; have hfz16_5 := Ja40_ BK103.out 5; have hfz16_6 := Ja40_ BK103.out 6; have hcz17_0 : w14.cell? ⟨gb101, 0, none⟩ = some (.slice A0_0 l0_0.length c0_0) := (Ja39_ BK101.out 0).trans rfl; have hcz17_1 : w14.cell? ⟨gb101, 1, none⟩ = some (.slice A0_1 l0_1.length c0_1) := (Ja39_ BK101.out 1).trans rfl; have hcz17_2 : w14.cell? ⟨gb101, 2, none⟩ = some (.slice A0_2 l0_2.length c0_2) := (Ja39_ BK101.out 2).trans rfl; have hfz17_0 := Ja40_ BK101.out 0; have hfz17_1 := Ja40_ BK101.out 1; have hfz17_2 := Ja40_ BK101.out 2) | ((with_reducible refine gate_callee (f := 120) rfl ?_); refine goesL_ (some 16) rfl rfl Try.func120 (by kernel_rfl) rfl #[.agg #[.slice A0_0 l0_0.length c0_0, .slice A0_1 l0_1.length c0_1, .slice A0_2 l0_2.length c0_2], .agg #[.bool ((rd_T78 l1 x10_1).f0), .int .i64 ((rd_T78 l1 x10_1).f1.f0), .int .i64 ((rd_T78 l1 x10_1).f1.f1), .int .i64 ((rd_T78 l1 x10_1).f2.f0), .int .i64 ((rd_T78 l1 x10_1).f2.f1), .int .i64 ((rd_T78 l1 x10_1).f3.f0), .int .i64 ((rd_T78 l1 x10_1).f3.f1)]] rfl (by (try simp only [List.map_toArray, List.map_cons, List.map_nil]); first | done | rfl | (simp only [List.length_drop, List.length_take]; rfl)) ?_; (with_reducible refine (J2_.calls k1 _ _ l0_0 _ _ l0_1 _ _ l0_2 ((rd_T78 l1 x10_1).f0) ((rd_T78 l1 x10_1).f1.f0) ((rd_T78 l1 x10_1).f1.f1) ((rd_T78 l1 x10_1).f2.f0) ((rd_T78 l1 x10_1).f2.f1) ((rd_T78 l1 x10_1).f3.f0) ((rd_T78 l1 x10_1).f3.f1) t104 t105 t106 t107 t108 t109 t110 t111 t114 t117 t120 _ ?side1 ?side2 ?side3 ?side4 ?side5 ?side6 A7.out).mono ?_); (case side1 => exact Kd.C_below HR0_0.out (by repeat (first | (with_reducible first | exact HB.out | apply Ja43_ | apply Ja41_ | apply Ja42_ | refine Ja46_ ?_ GE101.out | refine Ja46_ ?_ GE103.out) | exact HB.out))); (case side2 => exact HC0_0.out); (case side3 => exact Kd.C_below HR0_1.out (by repeat (first | (with_reducible first | exact HB.out | apply Ja43_ | apply Ja41_ | apply Ja42_ | refine Ja46_ ?_ GE101.out | refine Ja46_ ?_ GE103.out) | exact HB.out))); (case side4 => exact HC0_1.out); (case side5 => exact Kd.C_below HR0_2.out (by repeat (first | (with_reducible first | exact HB.out | apply Ja43_ | apply Ja41_ | apply Ja42_ | refine Ja46_ ?_ GE101.out | refine Ja46_ ?_ GE103.out) | exact HB.out))); (case side6 => exact HC0_2.out); rintro e w18 ⟨v112, v115, v118, rfl, ho0, ho1, ho2, hb⟩; refine ⟨_, rfl, ?_⟩; have n0_ := Ja38_.mk (Kd.R_lower ho0 (Ja45_ (by repeat (first | (with_reducible first | exact HB.out | apply Ja43_ | apply Ja41_ | apply Ja42_ | refine Ja46_ ?_ GE101.out | refine Ja46_ ?_ GE103.out) | exact HB.out)))); have n1_ := Ja38_.mk (Kd.R_lower ho1 (Ja45_ (by repeat (first | (with_reducible first | exact HB.out | apply Ja43_ | apply Ja41_ | apply Ja42_ | refine Ja46_ ?_ GE101.out | refine Ja46_ ?_ GE103.out) | exact HB.out)))); have n2_ := Ja38_.mk (Kd.R_lower ho2 (Ja45_ (by repeat (first | (with_reducible first | exact HB.out | apply Ja43_ | apply Ja41_ | apply Ja42_ | refine Ja46_ ?_ GE101.out | refine Ja46_ ?_ GE103.out) | exact HB.out)))); have n3_ := Ja38_.mk (Ja47_ (g := gb101) (o := .cells #[.slice A0_0 l0_0.length c0_0, .slice A0_1 l0_1.length c0_1, .slice A0_2 l0_2.length c0_2] 112 (0, 0)) (by (with_reducible repeat (first | refine Ja50_ ?_ _ | refine Ja49_ ?_ | refine Ja48_ ?_ _)); refine blk_far ?_ NB101_103.out _; (with_reducible repeat (first | refine Ja50_ ?_ _ | refine Ja49_ ?_ | refine Ja48_ ?_ _)); refine blk_far ?_ NB101_103.out _; (with_reducible repeat (first | refine Ja50_ ?_ _ | refine Ja49_ ?_ | refine Ja48_ ?_ _)); refine blk_far ?_ NB101_103.out _; (with_reducible repeat (first | refine Ja50_ ?_ _ | refine Ja49_ ?_ | refine Ja48_ ?_ _)); refine blk_far ?_ NB101_103.out _; (with_reducible repeat (first | refine Ja50_ ?_ _ | refine Ja49_ ?_ | refine Ja48_ ?_ _)); refine blk_far ?_ NB101_103.out _; (with_reducible repeat (first | refine Ja50_ ?_ _ | refine Ja49_ ?_ | refine Ja48_ ?_ _)); refine blk_far ?_ NB101_103.out _; (with_reducible repeat (first | refine Ja50_ ?_ _ | refine Ja49_ ?_ | refine Ja48_ ?_ _)); refine blk_far ?_ NB101_103.out _; (with_reducible repeat (first | refine Ja50_ ?_ _ | refine Ja49_ ?_ | refine Ja48_ ?_ _)); exact BK101.out) hb); have n4_ := Ja38_.mk (Ja47_ (g := gb103) (o := .cells #[.bool ((rd_T78 l1 x10_1).f0), .int .i64 ((rd_T78 l1 x10_1).f1.f0), .int .i64 ((rd_T78 l1 x10_1).f1.f1), .int .i64 ((rd_T78 l1 x10_1).f2.f0), .int .i64 ((rd_T78 l1 x10_1).f2.f1), .int .i64 ((rd_T78 l1 x10_1).f3.f0), .int .i64 ((rd_T78 l1 x10_1).f3.f1)] 78 (0, 0)) (by (with_reducible repeat (first | refine Ja50_ ?_ _ | refine Ja49_ ?_ | refine Ja48_ ?_ _)); refine blk_put (cs := #[.bool ((rd_T78 l1 x10_1).f0), .int .i64 ((rd_T78 l1 x10_1).f1.f0), .int .i64 ((rd_T78 l1 x10_1).f1.f1), .int .i64 ((rd_T78 l1 x10_1).f2.f0), .int .i64 ((rd_T78 l1 x10_1).f2.f1), .int .i64 ((rd_T78 l1 x10_1).f3.f0), .int .i64 0]) ?_ 6 _ rfl; (with_reducible repeat (first | refine Ja50_ ?_ _ | refine Ja49_ ?_ | refine Ja48_ ?_ _)); refine blk_put (cs := #[.bool ((rd_T78 l1 x10_1).f0), .int .i64 ((rd_T78 l1 x10_1).f1.f0), .int .i64 ((rd_T78 l1 x10_1).f1.f1), .int .i64 ((rd_T78 l1 x10_1).f2.f0), .int .i64 ((rd_T78 l1 x10_1).f2.f1), .int .i64 0, .int .i64 0]) ?_ 5 _ rfl; (with_reducible repeat (first | refine Ja50_ ?_ _ | refine Ja49_ ?_ | refine Ja48_ ?_ _)); refine blk_put (cs := #[.bool ((rd_T78 l1 x10_1).f0), .int .i64 ((rd_T78 l1 x10_1).f1.f0), .int .i64 ((rd_T78 l1 x10_1).f1.f1), .int .i64 ((rd_T78 l1 x10_1).f2.f0), .int .i64 0, .int .i64 0, .int .i64 0]) ?_ 4 _ rfl; (with_reducible repeat (first | refine Ja50_ ?_ _ | refine Ja49_ ?_ | refine Ja48_ ?_ _)); refine blk_put (cs := #[.bool ((rd_T78 l1 x10_1).f0), .int .i64 ((rd_T78 l1 x10_1).f1.f0), .int .i64 ((rd_T78 l1 x10_1).f1.f1), .int .i64 0, .int .i64 0, .int .i64 0, .int .i64 0]) ?_ 3 _ rfl; (with_reducible repeat (first | refine Ja50_ ?_ _ | refine Ja49_ ?_ | refine Ja48_ ?_ _)); refine blk_put (cs := #[.bool ((rd_T78 l1 x10_1).f0), .int .i64 ((rd_T78 l1 x10_1).f1.f0), .int .i64 0, .int .i64 0, .int .i64 0, .int .i64 0, .int .i64 0]) ?_ 2 _ rfl; (with_reducible repeat (first | refine Ja50_ ?_ _ | refine Ja49_ ?_ | refine Ja48_ ?_ _)); refine blk_put (cs := #[.bool ((rd_T78 l1 x10_1).f0), .int .i64 0, .int .i64 0, .int .i64 0, .int .i64 0, .int .i64 0, .int .i64 0]) ?_ 1 _ rfl; (with_reducible repeat (first | refine Ja50_ ?_ _ | refine Ja49_ ?_ | refine Ja48_ ?_ _)); refine blk_put (cs := #[.bool false, .int .i64 0, .int .i64 0, .int .i64 0, .int .i64 0, .int .i64 0, .int .i64 0]) ?_ 0 _ rfl; (with_reducible repeat (first | refine Ja50_ ?_ _ | refine Ja49_ ?_ | refine Ja48_ ?_ _)); exact BK103.out) hb); have n5_ := Ja38_.mk (Ja44_ (by repeat (first | (with_reducible first | exact HB.out | apply Ja43_ | apply Ja41_ | apply Ja42_ | refine Ja46_ ?_ GE101.out | refine Ja46_ ?_ GE103.out) | exact HB.out)) hb); clear BK101; clear BK103; clear HB; have HO113 := n0_; have HO116 := n1_; have HO119 := n2_; have BK101 := n3_; have BK103 := n4_; have HB := n5_; clear n0_ n1_ n2_ n3_ n4_ n5_; (try clear hb); (try clear hb2); (try clear hk); (try clear hi); (try clear ho0); (try clear ho1); (try clear ho2)))
       go_roundg k1
       case measure => have := HK1.out; omega
       case rel => exact ⟨(x5_1), (wrap64 (x10_1 + 1)), (by first | rfl | (simp; done) | (simp [*]; done)), (by first | rfl | (simp; done) | (simp [*]; done)), H', ⟨by have := HK1.out; omega⟩, ⟨by (with_reducible repeat (first | refine Ja50_ ?_ _ | refine Ja49_ ?_ | refine Ja48_ ?_ _)); exact BK101.out⟩, ⟨by repeat (first | (with_reducible first | exact HB.out | apply Ja43_ | apply Ja41_ | apply Ja42_ | refine Ja46_ ?_ GE101.out | refine Ja46_ ?_ GE103.out) | exact HB.out)⟩⟩
     ·rw [if_neg c6] at H
      exact absurd H (by simp)
    ·rw [if_neg c5] at H
     exact absurd H (by simp)
   ·rw [if_neg c4] at H
    have c4b0 : decide (x10_1 < (l1.length : Int)) = false := decide_eq_false c4
    clear c4
    obtain rfl := Option.some.inj H
    go_wp2
    go_ret
    exact ⟨by first | rfl | (simp [errW_none, errW_some] <;> rfl) | (simp [*, errW_none, errW_some] <;> rfl), by repeat (first | (with_reducible first | exact HB.out | apply Ja43_ | apply Ja41_ | apply Ja42_ | refine Ja46_ ?_ GE101.out) | exact HB.out)⟩
end Go.Proofs.Ytadafplbgophfaa.PA
end
section
namespace Go.Proofs.Ytadafplbgophfaa.PA
open Go Go.RowKit Go.ChangeShapes Go.WideShapes
set_option linter.unusedVariables false
variable {H : Type} {enc : TypeId × Value → H} {P : Program} {w : World} {base : Nat} {spare : Nat → Bool} {held : Bool}
theorem row_arr3s {r : Reach} {b0 : Nat} {t e : TypeId} {v : Value} {d : DataW H} {ps : List MemPlace} (ht : P.underlying t = some (.array 3 e)) (he : P.underlying e = some .string) (hce : P.cellsOf e = 1) (hct : P.cellsOf t = 3)
    (hval : Value.okWide P w r b0 t v) (h : DataW.Trod enc P w base spare held t v d ps) : ∃ a b c : ByteArray, v = .agg #[.string a, .string b, .string c] := by
  simp only [Value.okWide, ht] at hval
  obtain ⟨cs, rfl, h2, _⟩ := hval
  rw [hct] at h2
  obtain ⟨l⟩ := cs
  match l, h2 with
  | [c0, c1, c2], _ =>
    obtain ⟨fuel, hf⟩ := h
    obtain ⟨y0, y1, y2, n, _, g0, g1, g2⟩ := trod_array3 ht hce (show DataW.trod enc P w base spare held fuel t [c0, c1, c2] = some _ from hf)
    obtain ⟨a, e0, _, _⟩ := DataW.trod_string he g0
    obtain ⟨b, e1, _, _⟩ := DataW.trod_string he g1
    obtain ⟨c, e2, _, _⟩ := DataW.trod_string he g2
    simp only [List.cons.injEq, and_true] at e0 e1 e2
    subst e0 e1 e2
    exact ⟨a, b, c, rfl⟩
end Go.Proofs.Ytadafplbgophfaa.PA
end
