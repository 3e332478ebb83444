/- Part 5 of what the row of the law ResolveOnes rests on: walks of functions, and plain lemmas (in part printed by the kit's print, what is not reached left out). -/
import Derived.Test.YtadafplbgophfaaresolveOnes4
section
namespace Go.Proofs.Ytadafplbgophfaa.PA
open Go.RowKit Go.Proofs.YtadafplbgophfaaW.PrintWords Go.Proofs.YtadafplbgophfaaW.PrintLast Go.Proofs.YtadafplbgophfaaW.PrintMore
attribute [local go_sem] max2_int min2_int max_two min_two max_three min_three max_four min_four   -- for this text's walks alone
set_option linter.unusedVariables false
set_option linter.unusedSimpArgs false
def tripartitelaw11_told.f (k : Nat)  : Option (Bool) := (some (([(⟨(⟨(⟨#[]⟩ : ByteArray), (⟨#[]⟩ : ByteArray), (⟨#[]⟩ : ByteArray)⟩ : S116), false, (⟨#[120, 10]⟩ : ByteArray), (⟨#[]⟩ : ByteArray), (⟨#[]⟩ : ByteArray), (⟨#[]⟩ : ByteArray), false⟩ : S120), (⟨(⟨(⟨#[]⟩ : ByteArray), (⟨#[]⟩ : ByteArray), (⟨#[]⟩ : ByteArray)⟩ : S116), true, (⟨#[]⟩ : ByteArray), (⟨#[97, 10]⟩ : ByteArray), (⟨#[]⟩ : ByteArray), (⟨#[98, 10]⟩ : ByteArray), false⟩ : S120)] : List (S120)) : List (S120))).bind fun y101 => ((resolve_All.f k y101 3).bind fun bt104 => ((resolve_All.f k y101 2).bind fun bt106 => ((resolve_Each.f k y101 (([1] : List Int))).bind fun bt111 => ((resolve_One.f k y101 0 1).bind fun bt113 => (if bt104.2 = 0 then (if bt104.1.toList = ([120, 10, 98, 10] : List UInt8) then (if bt106.2 = 1 then (if bt111.2 = 0 then (if bt111.1.toList = ([120, 10, 97, 10] : List UInt8) then (if bt113.2 = 0 then (if (bt113.1.length : Int) = 1 then (if 0 < (bt113.1.length : Int) then (some (((rd_T120 bt113.1 0).f2).toList == ([120, 10, 97, 10] : List UInt8))) else (none)) else (some false)) else (some false)) else (some false)) else (some false)) else (some false)) else (some false)) else (some false))))))
theorem tripartitelaw11_told.mono : ∀ k, LeO (tripartitelaw11_told.f k ) (tripartitelaw11_told.f (k + 1) ) := by
 intro  k
 unfold tripartitelaw11_told.f
 repeat' first
   | (with_reducible exact resolve_All.mono _ _ _)
   | (with_reducible exact resolve_Each.mono _ _ _)
   | (with_reducible exact resolve_One.mono _ _ _ _)
   | (with_reducible exact LeO.refl _)
   | (with_reducible exact LeO.none _)
   | (with_reducible refine LeO.ite ?_ ?_)
   | (with_reducible refine LeO.bind ?_ (fun _ => ?_))
   | exact resolve_All.mono _ _ _
   | exact resolve_Each.mono _ _ _
   | exact resolve_One.mono _ _ _ _
   | exact LeO.none _
   | refine LeO.ite ?_ ?_
   | refine LeO.bind ?_ (fun _ => ?_)
set_option maxHeartbeats 8000000 in
set_option maxRecDepth 100000 in
theorem tripartitelaw11_told.calls (k : Nat)  (r : Bool) (w : World) (h : tripartitelaw11_told.f k  = some r) :
  Calls Try.prog 60 #[] w fun e w' => e = .returned (.bool r) ∧ Below w.heap.size w w' := by
 have hu120 := Try.underlying120
 have HB := Aside0.mk (Below.refl w.heap.size w)
 have H : ((some (([(⟨(⟨(⟨#[]⟩ : ByteArray), (⟨#[]⟩ : ByteArray), (⟨#[]⟩ : ByteArray)⟩ : S116), false, (⟨#[120, 10]⟩ : ByteArray), (⟨#[]⟩ : ByteArray), (⟨#[]⟩ : ByteArray), (⟨#[]⟩ : ByteArray), false⟩ : S120), (⟨(⟨(⟨#[]⟩ : ByteArray), (⟨#[]⟩ : ByteArray), (⟨#[]⟩ : ByteArray)⟩ : S116), true, (⟨#[]⟩ : ByteArray), (⟨#[97, 10]⟩ : ByteArray), (⟨#[]⟩ : ByteArray), (⟨#[98, 10]⟩ : ByteArray), false⟩ : S120)] : List (S120)) : List (S120))).bind fun y101 => ((resolve_All.f k y101 3).bind fun bt104 => ((resolve_All.f k y101 2).bind fun bt106 => ((resolve_Each.f k y101 (([1] : List Int))).bind fun bt111 => ((resolve_One.f k y101 0 1).bind fun bt113 => (if bt104.2 = 0 then (if bt104.1.toList = ([120, 10, 98, 10] : List UInt8) then (if bt106.2 = 1 then (if bt111.2 = 0 then (if bt111.1.toList = ([120, 10, 97, 10] : List UInt8) then (if bt113.2 = 0 then (if (bt113.1.length : Int) = 1 then (if 0 < (bt113.1.length : Int) then (some (((rd_T120 bt113.1 0).f2).toList == ([120, 10, 97, 10] : List UInt8))) else (none)) else (some false)) else (some false)) else (some false)) else (some false)) else (some false)) else (some false)) else (some false))))))) = some r := h
 clear h
 obtain ⟨y101, hy101⟩ : ∃ y_ : List (S120), y_ = (([(⟨(⟨(⟨#[]⟩ : ByteArray), (⟨#[]⟩ : ByteArray), (⟨#[]⟩ : ByteArray)⟩ : S116), false, (⟨#[120, 10]⟩ : ByteArray), (⟨#[]⟩ : ByteArray), (⟨#[]⟩ : ByteArray), (⟨#[]⟩ : ByteArray), false⟩ : S120), (⟨(⟨(⟨#[]⟩ : ByteArray), (⟨#[]⟩ : ByteArray), (⟨#[]⟩ : ByteArray)⟩ : S116), true, (⟨#[]⟩ : ByteArray), (⟨#[97, 10]⟩ : ByteArray), (⟨#[]⟩ : ByteArray), (⟨#[98, 10]⟩ : ByteArray), false⟩ : S120)] : List (S120))) := ⟨_, rfl⟩
 replace H : ((resolve_All.f k y101 3).bind fun bt104 => ((resolve_All.f k y101 2).bind fun bt106 => ((resolve_Each.f k y101 (([1] : List Int))).bind fun bt111 => ((resolve_One.f k y101 0 1).bind fun bt113 => (if bt104.2 = 0 then (if bt104.1.toList = ([120, 10, 98, 10] : List UInt8) then (if bt106.2 = 1 then (if bt111.2 = 0 then (if bt111.1.toList = ([120, 10, 97, 10] : List UInt8) then (if bt113.2 = 0 then (if (bt113.1.length : Int) = 1 then (if 0 < (bt113.1.length : Int) then (some (((rd_T120 bt113.1 0).f2).toList == ([120, 10, 97, 10] : List UInt8))) else (none)) else (some false)) else (some false)) else (some false)) else (some false)) else (some false)) else (some false)) else (some false)))))) = some r := by first | (rw [hy101]; with_reducible exact H) | (have H2_ := (Option.bind_some _ _).symm.trans H; rw [hy101]; with_reducible exact H2_) | (have H2_ := (Option.bind_some _ _).symm.trans H; with_reducible exact H2_) | with_reducible exact H | (rw [hy101]; exact H) | exact H
 have Ny101 := Aside0.mk hy101
 clear hy101
 replace H := Option.bind_eq_some_iff.mp H
 obtain ⟨⟨t104, t105⟩, A10, H⟩ := H
 replace H : ((resolve_All.f k y101 2).bind fun bt106 => ((resolve_Each.f k y101 (([1] : List Int))).bind fun bt111 => ((resolve_One.f k y101 0 1).bind fun bt113 => (if t105 = 0 then (if t104.toList = ([120, 10, 98, 10] : List UInt8) then (if bt106.2 = 1 then (if bt111.2 = 0 then (if bt111.1.toList = ([120, 10, 97, 10] : List UInt8) then (if bt113.2 = 0 then (if (bt113.1.length : Int) = 1 then (if 0 < (bt113.1.length : Int) then (some (((rd_T120 bt113.1 0).f2).toList == ([120, 10, 97, 10] : List UInt8))) else (none)) else (some false)) else (some false)) else (some false)) else (some false)) else (some false)) else (some false)) else (some false))))) = some r := H
 have A1 := Aside0.mk A10
 clear A10
 replace H := Option.bind_eq_some_iff.mp H
 obtain ⟨⟨t106, t107⟩, A20, H⟩ := H
 replace H : ((resolve_Each.f k y101 (([1] : List Int))).bind fun bt111 => ((resolve_One.f k y101 0 1).bind fun bt113 => (if t105 = 0 then (if t104.toList = ([120, 10, 98, 10] : List UInt8) then (if t107 = 1 then (if bt111.2 = 0 then (if bt111.1.toList = ([120, 10, 97, 10] : List UInt8) then (if bt113.2 = 0 then (if (bt113.1.length : Int) = 1 then (if 0 < (bt113.1.length : Int) then (some (((rd_T120 bt113.1 0).f2).toList == ([120, 10, 97, 10] : List UInt8))) else (none)) else (some false)) else (some false)) else (some false)) else (some false)) else (some false)) else (some false)) else (some false)))) = some r := H
 have A2 := Aside0.mk A20
 clear A20
 obtain ⟨y108, hy108⟩ : ∃ y_ : List Int, y_ = (([1] : List Int)) := ⟨_, rfl⟩
 replace H : ((resolve_Each.f k y101 y108).bind fun bt111 => ((resolve_One.f k y101 0 1).bind fun bt113 => (if t105 = 0 then (if t104.toList = ([120, 10, 98, 10] : List UInt8) then (if t107 = 1 then (if bt111.2 = 0 then (if bt111.1.toList = ([120, 10, 97, 10] : List UInt8) then (if bt113.2 = 0 then (if (bt113.1.length : Int) = 1 then (if 0 < (bt113.1.length : Int) then (some (((rd_T120 bt113.1 0).f2).toList == ([120, 10, 97, 10] : List UInt8))) else (none)) else (some false)) else (some false)) else (some false)) else (some false)) else (some false)) else (some false)) else (some false)))) = some r := by first | (rw [hy108]; with_reducible exact H) | (have H2_ := (Option.bind_some _ _).symm.trans H; rw [hy108]; with_reducible exact H2_) | (have H2_ := (Option.bind_some _ _).symm.trans H; with_reducible exact H2_) | with_reducible exact H | (rw [hy108]; exact H) | exact H
 have Ny108 := Aside0.mk hy108
 clear hy108
 replace H := Option.bind_eq_some_iff.mp H
 obtain ⟨⟨t111, t112⟩, A30, H⟩ := H
 replace H : ((resolve_One.f k y101 0 1).bind fun bt113 => (if t105 = 0 then (if t104.toList = ([120, 10, 98, 10] : List UInt8) then (if t107 = 1 then (if t112 = 0 then (if t111.toList = ([120, 10, 97, 10] : List UInt8) then (if bt113.2 = 0 then (if (bt113.1.length : Int) = 1 then (if 0 < (bt113.1.length : Int) then (some (((rd_T120 bt113.1 0).f2).toList == ([120, 10, 97, 10] : List UInt8))) else (none)) else (some false)) else (some false)) else (some false)) else (some false)) else (some false)) else (some false)) else (some false))) = some r := H
 have A3 := Aside0.mk A30
 clear A30
 replace H := Option.bind_eq_some_iff.mp H
 obtain ⟨⟨t113, t114⟩, A40, H⟩ := H
 replace H : (if t105 = 0 then (if t104.toList = ([120, 10, 98, 10] : List UInt8) then (if t107 = 1 then (if t112 = 0 then (if t111.toList = ([120, 10, 97, 10] : List UInt8) then (if t114 = 0 then (if (t113.length : Int) = 1 then (if 0 < (t113.length : Int) then (some (((rd_T120 t113 0).f2).toList == ([120, 10, 97, 10] : List UInt8))) else (none)) else (some false)) else (some false)) else (some false)) else (some false)) else (some false)) else (some false)) else (some false)) = some r := H
 have A4 := Aside0.mk A40
 clear A40
 by_cases c5 : t105 = 0
 ·rw [if_pos c5] at H
  have c5b0 : (t105 == 0) = true := beq_iff_eq.mpr c5
  have c5b1 : (t105 != 0) = false := bne_eq_false_iff_eq.mpr c5
  clear c5
  by_cases c6 : t104.toList = ([120, 10, 98, 10] : List UInt8)
  ·rw [if_pos c6] at H
   have c6b0 : (t104.toList == ([120, 10, 98, 10] : List UInt8)) = true := beq_iff_eq.mpr c6
   have c6b1 : (t104.toList != ([120, 10, 98, 10] : List UInt8)) = false := bne_eq_false_iff_eq.mpr c6
   clear c6
   by_cases c7 : t107 = 1
   ·rw [if_pos c7] at H
    have c7b0 : (t107 == 1) = true := beq_iff_eq.mpr c7
    have c7b1 : (t107 != 1) = false := bne_eq_false_iff_eq.mpr c7
    clear c7
    by_cases c8 : t112 = 0
    ·rw [if_pos c8] at H
     have c8b0 : (t112 == 0) = true := beq_iff_eq.mpr c8
     have c8b1 : (t112 != 0) = false := bne_eq_false_iff_eq.mpr c8
     clear c8
     by_cases c9 : t111.toList = ([120, 10, 97, 10] : List UInt8)
     ·rw [if_pos c9] at H
      have c9b0 : (t111.toList == ([120, 10, 97, 10] : List UInt8)) = true := beq_iff_eq.mpr c9
      have c9b1 : (t111.toList != ([120, 10, 97, 10] : List UInt8)) = false := bne_eq_false_iff_eq.mpr c9
      clear c9
      by_cases c10 : t114 = 0
      ·rw [if_pos c10] at H
       have c10b0 : (t114 == 0) = true := beq_iff_eq.mpr c10
       have c10b1 : (t114 != 0) = false := bne_eq_false_iff_eq.mpr c10
       clear c10
       by_cases c11 : (t113.length : Int) = 1
       ·rw [if_pos c11] at H
        have c11b0 : ((t113.length : Int) == 1) = true := beq_iff_eq.mpr c11
        have c11b1 : ((t113.length : Int) != 1) = false := bne_eq_false_iff_eq.mpr c11
        clear c11
        by_cases c12 : 0 < (t113.length : Int)
        ·rw [if_pos c12] at H
         have c12b0 : decide (0 < (t113.length : Int)) = true := decide_eq_true c12
         have c12b1 : decide (0 < t113.length) = true := decide_eq_true (by omega)
         clear c12
         obtain rfl := Option.some.inj H
         go_enter Try.func60, Try.ntmps60
         go_wp2_with (first | ((with_reducible refine gate_dst (N := 12) rfl ?_); (try (refine gate_guard (by rfl) ?_; dsimp only)); refine Kd.R_lit k120 _ 120 ?hg (N := 12) ?hd (xs := ([(⟨(⟨(⟨#[]⟩ : ByteArray), (⟨#[]⟩ : ByteArray), (⟨#[]⟩ : ByteArray)⟩ : S116), false, (⟨#[120, 10]⟩ : ByteArray), (⟨#[]⟩ : ByteArray), (⟨#[]⟩ : ByteArray), (⟨#[]⟩ : ByteArray), false⟩ : S120), (⟨(⟨(⟨#[]⟩ : ByteArray), (⟨#[]⟩ : ByteArray), (⟨#[]⟩ : ByteArray)⟩ : S116), true, (⟨#[]⟩ : ByteArray), (⟨#[97, 10]⟩ : ByteArray), (⟨#[]⟩ : ByteArray), (⟨#[98, 10]⟩ : ByteArray), false⟩ : S120)] : List (S120))) (inner := [.string (⟨#[]⟩ : ByteArray), .string (⟨#[]⟩ : ByteArray), .string (⟨#[]⟩ : ByteArray), .bool false, .string (⟨#[120, 10]⟩ : ByteArray), .string (⟨#[]⟩ : ByteArray), .string (⟨#[]⟩ : ByteArray), .string (⟨#[]⟩ : ByteArray), .bool false, .string (⟨#[]⟩ : ByteArray), .string (⟨#[]⟩ : ByteArray), .string (⟨#[]⟩ : ByteArray), .bool true, .string (⟨#[]⟩ : ByteArray), .string (⟨#[97, 10]⟩ : ByteArray), .string (⟨#[]⟩ : ByteArray), .string (⟨#[98, 10]⟩ : ByteArray), .bool false]) (ok := fun _ => True) (okp := fun _ => True) ?hr ?hp (fun _ hk => hk) trivial (Below.refl _ _) (Nat.le_refl _) (by simp) ?_; (case hd => rfl); (case hg => rfl); (case hr => first | (go_simp; done) | (go_simp; rfl)); (case hp => exact (Reps.c9 (show Kd.M k120 _ _ _ (⟨(⟨(⟨#[]⟩ : ByteArray), (⟨#[]⟩ : ByteArray), (⟨#[]⟩ : ByteArray)⟩ : S116), false, (⟨#[120, 10]⟩ : ByteArray), (⟨#[]⟩ : ByteArray), (⟨#[]⟩ : ByteArray), (⟨#[]⟩ : ByteArray), false⟩ : S120) [.string (⟨#[]⟩ : ByteArray), .string (⟨#[]⟩ : ByteArray), .string (⟨#[]⟩ : ByteArray), .bool false, .string (⟨#[120, 10]⟩ : ByteArray), .string (⟨#[]⟩ : ByteArray), .string (⟨#[]⟩ : ByteArray), .string (⟨#[]⟩ : ByteArray), .bool false] from (k120_mkM _ _ _ (⟨(⟨(⟨#[]⟩ : ByteArray), (⟨#[]⟩ : ByteArray), (⟨#[]⟩ : ByteArray)⟩ : S116), false, (⟨#[120, 10]⟩ : ByteArray), (⟨#[]⟩ : ByteArray), (⟨#[]⟩ : ByteArray), (⟨#[]⟩ : ByteArray), false⟩ : S120) )) (Reps.c9 (show Kd.M k120 _ _ _ (⟨(⟨(⟨#[]⟩ : ByteArray), (⟨#[]⟩ : ByteArray), (⟨#[]⟩ : ByteArray)⟩ : S116), true, (⟨#[]⟩ : ByteArray), (⟨#[97, 10]⟩ : ByteArray), (⟨#[]⟩ : ByteArray), (⟨#[98, 10]⟩ : ByteArray), false⟩ : S120) [.string (⟨#[]⟩ : ByteArray), .string (⟨#[]⟩ : ByteArray), .string (⟨#[]⟩ : ByteArray), .bool true, .string (⟨#[]⟩ : ByteArray), .string (⟨#[97, 10]⟩ : ByteArray), .string (⟨#[]⟩ : ByteArray), .string (⟨#[98, 10]⟩ : ByteArray), .bool false] from (k120_mkM _ _ _ (⟨(⟨(⟨#[]⟩ : ByteArray), (⟨#[]⟩ : ByteArray), (⟨#[]⟩ : ByteArray)⟩ : S116), true, (⟨#[]⟩ : ByteArray), (⟨#[97, 10]⟩ : ByteArray), (⟨#[]⟩ : ByteArray), (⟨#[98, 10]⟩ : ByteArray), false⟩ : S120) )) (Reps.none _ _)))); intro v102 w13 ho14 hb hg_ hnew_; clear hg_ hnew_; (first | rw [← Ny101.out] at ho14 | (simp only [Int.reduceToNat] at ho14; rw [← Ny101.out] at ho14)); have n0_ := Aside0.mk (Kd.R_lower ho14 (below_size (by repeat (first | (with_reducible first | exact HB.out | apply below_alloc | apply pw_below_drewN | apply below_drew1) | exact HB.out)))); have n1_ := Aside0.mk (below_step (by repeat (first | (with_reducible first | exact HB.out | apply below_alloc | apply pw_below_drewN | apply below_drew1) | exact HB.out)) hb); clear HB; have HO103 := n0_; have HB := n1_; clear n0_ n1_; clear hb ho14; obtain ⟨Ao15, co15, eo15⟩ := Kd.R_slice HO103.out; subst eo15) | ((with_reducible refine gate_callee (f := 62) rfl ?_); refine goesL_ (some 15) rfl rfl Try.func62 (by kernel_rfl) rfl #[.slice Ao15 y101.length co15, .int .i64 3] rfl (by (try simp only [List.map_toArray, List.map_cons, List.map_nil]); first | done | rfl | (simp only [List.length_drop, List.length_take]; rfl)) ?_; (with_reducible refine (resolve_All.calls k _ _ y101 3 t104 t105 _ ?side1 ?side2 A1.out).mono ?_); (case side1 => repeat (first | exact (Kd.R_reads' HO103.out).2.2 | (with_reducible refine Kd.C_alloc ?_ _) | (with_reducible refine Kd.C_drewN ?_ _) | (with_reducible refine Kd.C_drew ?_))); (case side2 => exact (Kd.R_reads' HO103.out).2.1); rintro e w16 ⟨rfl, hb⟩; refine ⟨_, rfl, ?_⟩; have n0_ := Aside0.mk (Kd.R_below (by (with_reducible repeat (first | apply Kd.R_alloc | apply Kd.R_drewN | apply Kd.R_drew)); exact HO103.out) hb); have n1_ := Aside0.mk (below_step (by repeat (first | (with_reducible first | exact HB.out | apply below_alloc | apply pw_below_drewN | apply below_drew1) | exact HB.out)) hb); clear HO103; clear HB; have HO103 := n0_; have HB := n1_; clear n0_ n1_; (try clear hb); (try clear hb2); (try clear hk); (try clear hi)) | ((with_reducible refine gate_callee (f := 62) rfl ?_); refine goesL_ (some 20) rfl rfl Try.func62 (by kernel_rfl) rfl #[.slice Ao15 y101.length co15, .int .i64 2] rfl (by (try simp only [List.map_toArray, List.map_cons, List.map_nil]); first | done | rfl | (simp only [List.length_drop, List.length_take]; rfl)) ?_; (with_reducible refine (resolve_All.calls k _ _ y101 2 t106 t107 _ ?side1 ?side2 A2.out).mono ?_); (case side1 => repeat (first | exact (Kd.R_reads' HO103.out).2.2 | (with_reducible refine Kd.C_alloc ?_ _) | (with_reducible refine Kd.C_drewN ?_ _) | (with_reducible refine Kd.C_drew ?_))); (case side2 => exact (Kd.R_reads' HO103.out).2.1); rintro e w17 ⟨rfl, hb⟩; refine ⟨_, rfl, ?_⟩; have n0_ := Aside0.mk (Kd.R_below (by (with_reducible repeat (first | apply Kd.R_alloc | apply Kd.R_drewN | apply Kd.R_drew)); exact HO103.out) hb); have n1_ := Aside0.mk (below_step (by repeat (first | (with_reducible first | exact HB.out | apply below_alloc | apply pw_below_drewN | apply below_drew1) | exact HB.out)) hb); clear HO103; clear HB; have HO103 := n0_; have HB := n1_; clear n0_ n1_; (try clear hb); (try clear hb2); (try clear hk); (try clear hi)) | ((with_reducible refine gate_dst (N := 25) rfl ?_); (try (refine gate_guard (by rfl) ?_; dsimp only)); refine Kd.R_lit (Kd.int .i64) _ 3 ?hg (N := 25) ?hd (xs := ([1] : List Int)) (inner := [.int .i64 1]) (ok := fun _ => True) (okp := fun _ => True) ?hr ?hp (fun _ hk => hk) trivial (Below.refl _ _) (Nat.le_refl _) (by simp) ?_; (case hd => rfl); (case hg => rfl); (case hr => first | (go_simp; done) | (go_simp; rfl)); (case hp => exact (Reps.one (show Kd.M (Kd.int .i64) _ _ _ 1 [.int .i64 1] from rfl) (Reps.none _ _))); intro v109 w18 ho19 hb hg_ hnew_; clear hg_ hnew_; (first | rw [← Ny108.out] at ho19 | (simp only [Int.reduceToNat] at ho19; rw [← Ny108.out] at ho19)); have n0_ := Aside0.mk (Kd.R_below (by (with_reducible repeat (first | apply Kd.R_alloc | apply Kd.R_drewN | apply Kd.R_drew)); exact HO103.out) hb); have n1_ := Aside0.mk (Kd.R_lower ho19 (below_size (by repeat (first | (with_reducible first | exact HB.out | apply below_alloc | apply pw_below_drewN | apply below_drew1) | exact HB.out)))); have n2_ := Aside0.mk (below_step (by repeat (first | (with_reducible first | exact HB.out | apply below_alloc | apply pw_below_drewN | apply below_drew1) | exact HB.out)) hb); clear HO103; clear HB; have HO103 := n0_; have HO110 := n1_; have HB := n2_; clear n0_ n1_ n2_; clear hb ho19; obtain ⟨Ao20, co20, eo20⟩ := Kd.R_slice HO110.out; subst eo20) | ((with_reducible refine gate_callee (f := 64) rfl ?_); refine goesL_ (some 26) rfl rfl Try.func64 (by kernel_rfl) rfl #[.slice Ao15 y101.length co15, .slice Ao20 y108.length co20] rfl (by (try simp only [List.map_toArray, List.map_cons, List.map_nil]); first | done | rfl | (simp only [List.length_drop, List.length_take]; rfl)) ?_; (with_reducible refine (resolve_Each.calls k _ _ y101 _ _ y108 t111 t112 _ ?side1 ?side2 ?side3 ?side4 A3.out).mono ?_); (case side1 => repeat (first | exact (Kd.R_reads' HO103.out).2.2 | (with_reducible refine Kd.C_alloc ?_ _) | (with_reducible refine Kd.C_drewN ?_ _) | (with_reducible refine Kd.C_drew ?_))); (case side2 => exact (Kd.R_reads' HO103.out).2.1); (case side3 => repeat (first | exact (Kd.R_reads' HO110.out).2.2 | (with_reducible refine Kd.C_alloc ?_ _) | (with_reducible refine Kd.C_drewN ?_ _) | (with_reducible refine Kd.C_drew ?_))); (case side4 => exact (Kd.R_reads' HO110.out).2.1); rintro e w21 ⟨rfl, hb⟩; refine ⟨_, rfl, ?_⟩; have n0_ := Aside0.mk (Kd.R_below (by (with_reducible repeat (first | apply Kd.R_alloc | apply Kd.R_drewN | apply Kd.R_drew)); exact HO103.out) hb); have n1_ := Aside0.mk (Kd.R_below (by (with_reducible repeat (first | apply Kd.R_alloc | apply Kd.R_drewN | apply Kd.R_drew)); exact HO110.out) hb); have n2_ := Aside0.mk (below_step (by repeat (first | (with_reducible first | exact HB.out | apply below_alloc | apply pw_below_drewN | apply below_drew1) | exact HB.out)) hb); clear HO103; clear HO110; clear HB; have HO103 := n0_; have HO110 := n1_; have HB := n2_; clear n0_ n1_ n2_; (try clear hb); (try clear hb2); (try clear hk); (try clear hi)) | ((with_reducible refine gate_callee (f := 68) rfl ?_); refine goesL_ (some 31) rfl rfl Try.func68 (by kernel_rfl) rfl #[.slice Ao15 y101.length co15, .int .i64 0, .int .i64 1] rfl (by (try simp only [List.map_toArray, List.map_cons, List.map_nil]); first | done | rfl | (simp only [List.length_drop, List.length_take]; rfl)) ?_; (with_reducible refine (resolve_One.calls k _ _ y101 0 1 t113 t114 _ ?side1 ?side2 A4.out).mono ?_); (case side1 => repeat (first | exact (Kd.R_reads' HO103.out).2.2 | (with_reducible refine Kd.C_alloc ?_ _) | (with_reducible refine Kd.C_drewN ?_ _) | (with_reducible refine Kd.C_drew ?_))); (case side2 => exact (Kd.R_reads' HO103.out).2.1); rintro e w22 ⟨v115, rfl, ho0, hb⟩; refine ⟨_, rfl, ?_⟩; have n0_ := Aside0.mk (Kd.R_elder' (by (with_reducible repeat (first | apply Kd.R_alloc | apply Kd.R_drewN | apply Kd.R_drew)); exact HO103.out) (Kd.R_base ho0) hb); have n1_ := Aside0.mk (Kd.R_below (by (with_reducible repeat (first | apply Kd.R_alloc | apply Kd.R_drewN | apply Kd.R_drew)); exact HO110.out) hb); have n2_ := Aside0.mk (Kd.R_lower (Kd.R_new' ho0 (Kd.R_lt (by (with_reducible repeat (first | apply Kd.R_alloc | apply Kd.R_drewN | apply Kd.R_drew)); exact HO103.out))) (below_size (by repeat (first | (with_reducible first | exact HB.out | apply below_alloc | apply pw_below_drewN | apply below_drew1) | exact HB.out)))); have n3_ := Aside0.mk (below_step (by repeat (first | (with_reducible first | exact HB.out | apply below_alloc | apply pw_below_drewN | apply below_drew1) | exact HB.out)) hb); clear HO103; clear HO110; clear HB; have HO103 := n0_; have HO110 := n1_; have HO116 := n2_; have HB := n3_; clear n0_ n1_ n2_ n3_; (try clear hb); (try clear hb2); (try clear hk); (try clear hi); (try clear ho0); obtain ⟨Ao23, co23, eo23⟩ := Kd.R_slice HO116.out; subst eo23; have p117 : 0 ≤ (0 : Int) := (by omega); have q117 : 0 < (t113.length : Int) := of_decide_eq_true (by first | (with_reducible assumption) | assumption); obtain ⟨ad117, e117, hx117_0, hx117_1, hx117_2, hx117_3, hx117_4, hx117_5, hx117_6, hx117_7, hx117_8⟩ := at_T120 (Kd.R_reads' HO116.out).2.2 0 p117 q117; cases e117; have qi117 : (0 < t113.length) = True := eq_true (by omega); (try rw [show ((0 : Int)).toNat = 0 from rfl] at hx117_0); (try rw [show 0 * 9 = 0 from rfl] at hx117_0); (try rw [Addr.add_zero'] at hx117_0); (try rw [show ((0 : Int)).toNat = 0 from rfl] at hx117_1); (try rw [show 0 * 9 = 0 from rfl] at hx117_1); (try rw [Addr.add_zero'] at hx117_1); (try rw [show ((0 : Int)).toNat = 0 from rfl] at hx117_2); (try rw [show 0 * 9 = 0 from rfl] at hx117_2); (try rw [Addr.add_zero'] at hx117_2); (try rw [show ((0 : Int)).toNat = 0 from rfl] at hx117_3); (try rw [show 0 * 9 = 0 from rfl] at hx117_3); (try rw [Addr.add_zero'] at hx117_3); (try rw [show ((0 : Int)).toNat = 0 from rfl] at hx117_4); (try rw [show 0 * 9 = 0 from rfl] at hx117_4); (try rw [Addr.add_zero'] at hx117_4); (try rw [show ((0 : Int)).toNat = 0 from rfl] at hx117_5); (try rw [show 0 * 9 = 0 from rfl] at hx117_5); (try rw [Addr.add_zero'] at hx117_5); (try rw [show ((0 : Int)).toNat = 0 from rfl] at hx117_6); (try rw [show 0 * 9 = 0 from rfl] at hx117_6); (try rw [Addr.add_zero'] at hx117_6); (try rw [show ((0 : Int)).toNat = 0 from rfl] at hx117_7); (try rw [show 0 * 9 = 0 from rfl] at hx117_7); (try rw [Addr.add_zero'] at hx117_7); (try rw [show ((0 : Int)).toNat = 0 from rfl] at hx117_8); (try rw [show 0 * 9 = 0 from rfl] at hx117_8); (try rw [Addr.add_zero'] at hx117_8); replace p117 := eq_true p117; replace q117 := eq_true q117))
         go_ret
         exact ⟨by first | rfl | (simp [errW_none, errW_some] <;> rfl) | (simp [*, errW_none, errW_some] <;> rfl), by repeat (first | (with_reducible first | exact HB.out | apply below_alloc | apply pw_below_drewN | apply below_drew1) | exact HB.out)⟩
        ·rw [if_neg c12] at H
         exact absurd H (by simp)
       ·rw [if_neg c11] at H
        have c11b0 : ((t113.length : Int) == 1) = false := beq_eq_false_iff_ne.mpr c11
        have c11b1 : ((t113.length : Int) != 1) = true := bne_iff_ne.mpr c11
        obtain rfl := Option.some.inj H
        go_enter Try.func60, Try.ntmps60
        go_wp2_with (first | ((with_reducible refine gate_dst (N := 12) rfl ?_); (try (refine gate_guard (by rfl) ?_; dsimp only)); refine Kd.R_lit k120 _ 120 ?hg (N := 12) ?hd (xs := ([(⟨(⟨(⟨#[]⟩ : ByteArray), (⟨#[]⟩ : ByteArray), (⟨#[]⟩ : ByteArray)⟩ : S116), false, (⟨#[120, 10]⟩ : ByteArray), (⟨#[]⟩ : ByteArray), (⟨#[]⟩ : ByteArray), (⟨#[]⟩ : ByteArray), false⟩ : S120), (⟨(⟨(⟨#[]⟩ : ByteArray), (⟨#[]⟩ : ByteArray), (⟨#[]⟩ : ByteArray)⟩ : S116), true, (⟨#[]⟩ : ByteArray), (⟨#[97, 10]⟩ : ByteArray), (⟨#[]⟩ : ByteArray), (⟨#[98, 10]⟩ : ByteArray), false⟩ : S120)] : List (S120))) (inner := [.string (⟨#[]⟩ : ByteArray), .string (⟨#[]⟩ : ByteArray), .string (⟨#[]⟩ : ByteArray), .bool false, .string (⟨#[120, 10]⟩ : ByteArray), .string (⟨#[]⟩ : ByteArray), .string (⟨#[]⟩ : ByteArray), .string (⟨#[]⟩ : ByteArray), .bool false, .string (⟨#[]⟩ : ByteArray), .string (⟨#[]⟩ : ByteArray), .string (⟨#[]⟩ : ByteArray), .bool true, .string (⟨#[]⟩ : ByteArray), .string (⟨#[97, 10]⟩ : ByteArray), .string (⟨#[]⟩ : ByteArray), .string (⟨#[98, 10]⟩ : ByteArray), .bool false]) (ok := fun _ => True) (okp := fun _ => True) ?hr ?hp (fun _ hk => hk) trivial (Below.refl _ _) (Nat.le_refl _) (by simp) ?_; (case hd => rfl); (case hg => rfl); (case hr => first | (go_simp; done) | (go_simp; rfl)); (case hp => exact (Reps.c9 (show Kd.M k120 _ _ _ (⟨(⟨(⟨#[]⟩ : ByteArray), (⟨#[]⟩ : ByteArray), (⟨#[]⟩ : ByteArray)⟩ : S116), false, (⟨#[120, 10]⟩ : ByteArray), (⟨#[]⟩ : ByteArray), (⟨#[]⟩ : ByteArray), (⟨#[]⟩ : ByteArray), false⟩ : S120) [.string (⟨#[]⟩ : ByteArray), .string (⟨#[]⟩ : ByteArray), .string (⟨#[]⟩ : ByteArray), .bool false, .string (⟨#[120, 10]⟩ : ByteArray), .string (⟨#[]⟩ : ByteArray), .string (⟨#[]⟩ : ByteArray), .string (⟨#[]⟩ : ByteArray), .bool false] from (k120_mkM _ _ _ (⟨(⟨(⟨#[]⟩ : ByteArray), (⟨#[]⟩ : ByteArray), (⟨#[]⟩ : ByteArray)⟩ : S116), false, (⟨#[120, 10]⟩ : ByteArray), (⟨#[]⟩ : ByteArray), (⟨#[]⟩ : ByteArray), (⟨#[]⟩ : ByteArray), false⟩ : S120) )) (Reps.c9 (show Kd.M k120 _ _ _ (⟨(⟨(⟨#[]⟩ : ByteArray), (⟨#[]⟩ : ByteArray), (⟨#[]⟩ : ByteArray)⟩ : S116), true, (⟨#[]⟩ : ByteArray), (⟨#[97, 10]⟩ : ByteArray), (⟨#[]⟩ : ByteArray), (⟨#[98, 10]⟩ : ByteArray), false⟩ : S120) [.string (⟨#[]⟩ : ByteArray), .string (⟨#[]⟩ : ByteArray), .string (⟨#[]⟩ : ByteArray), .bool true, .string (⟨#[]⟩ : ByteArray), .string (⟨#[97, 10]⟩ : ByteArray), .string (⟨#[]⟩ : ByteArray), .string (⟨#[98, 10]⟩ : ByteArray), .bool false] from (k120_mkM _ _ _ (⟨(⟨(⟨#[]⟩ : ByteArray), (⟨#[]⟩ : ByteArray), (⟨#[]⟩ : ByteArray)⟩ : S116), true, (⟨#[]⟩ : ByteArray), (⟨#[97, 10]⟩ : ByteArray), (⟨#[]⟩ : ByteArray), (⟨#[98, 10]⟩ : ByteArray), false⟩ : S120) )) (Reps.none _ _)))); intro v102 w24 ho25 hb hg_ hnew_; clear hg_ hnew_; (first | rw [← Ny101.out] at ho25 | (simp only [Int.reduceToNat] at ho25; rw [← Ny101.out] at ho25)); have n0_ := Aside0.mk (Kd.R_lower ho25 (below_size (by repeat (first | (with_reducible first | exact HB.out | apply below_alloc | apply pw_below_drewN | apply below_drew1) | exact HB.out)))); have n1_ := Aside0.mk (below_step (by repeat (first | (with_reducible first | exact HB.out | apply below_alloc | apply pw_below_drewN | apply below_drew1) | exact HB.out)) hb); clear HB; have HO103 := n0_; have HB := n1_; clear n0_ n1_; clear hb ho25; obtain ⟨Ao26, co26, eo26⟩ := Kd.R_slice HO103.out; subst eo26) | ((with_reducible refine gate_callee (f := 62) rfl ?_); refine goesL_ (some 15) rfl rfl Try.func62 (by kernel_rfl) rfl #[.slice Ao26 y101.length co26, .int .i64 3] rfl (by (try simp only [List.map_toArray, List.map_cons, List.map_nil]); first | done | rfl | (simp only [List.length_drop, List.length_take]; rfl)) ?_; (with_reducible refine (resolve_All.calls k _ _ y101 3 t104 t105 _ ?side1 ?side2 A1.out).mono ?_); (case side1 => repeat (first | exact (Kd.R_reads' HO103.out).2.2 | (with_reducible refine Kd.C_alloc ?_ _) | (with_reducible refine Kd.C_drewN ?_ _) | (with_reducible refine Kd.C_drew ?_))); (case side2 => exact (Kd.R_reads' HO103.out).2.1); rintro e w27 ⟨rfl, hb⟩; refine ⟨_, rfl, ?_⟩; have n0_ := Aside0.mk (Kd.R_below (by (with_reducible repeat (first | apply Kd.R_alloc | apply Kd.R_drewN | apply Kd.R_drew)); exact HO103.out) hb); have n1_ := Aside0.mk (below_step (by repeat (first | (with_reducible first | exact HB.out | apply below_alloc | apply pw_below_drewN | apply below_drew1) | exact HB.out)) hb); clear HO103; clear HB; have HO103 := n0_; have HB := n1_; clear n0_ n1_; (try clear hb); (try clear hb2); (try clear hk); (try clear hi)) | ((with_reducible refine gate_callee (f := 62) rfl ?_); refine goesL_ (some 20) rfl rfl Try.func62 (by kernel_rfl) rfl #[.slice Ao26 y101.length co26, .int .i64 2] rfl (by (try simp only [List.map_toArray, List.map_cons, List.map_nil]); first | done | rfl | (simp only [List.length_drop, List.length_take]; rfl)) ?_; (with_reducible refine (resolve_All.calls k _ _ y101 2 t106 t107 _ ?side1 ?side2 A2.out).mono ?_); (case side1 => repeat (first | exact (Kd.R_reads' HO103.out).2.2 | (with_reducible refine Kd.C_alloc ?_ _) | (with_reducible refine Kd.C_drewN ?_ _) | (with_reducible refine Kd.C_drew ?_))); (case side2 => exact (Kd.R_reads' HO103.out).2.1); rintro e w28 ⟨rfl, hb⟩; refine ⟨_, rfl, ?_⟩; have n0_ := Aside0.mk (Kd.R_below (by (with_reducible repeat (first | apply Kd.R_alloc | apply Kd.R_drewN | apply Kd.R_drew)); exact HO103.out) hb); have n1_ := Aside0.mk (below_step (by repeat (first | (with_reducible first | exact HB.out | apply below_alloc | apply pw_below_drewN | apply below_drew1) | exact HB.out)) hb); clear HO103; clear HB; have HO103 := n0_; have HB := n1_; clear n0_ n1_; (try clear hb); (try clear hb2); (try clear hk); (try clear hi)) | ((with_reducible refine gate_dst (N := 25) rfl ?_); (try (refine gate_guard (by rfl) ?_; dsimp only)); refine Kd.R_lit (Kd.int .i64) _ 3 ?hg (N := 25) ?hd (xs := ([1] : List Int)) (inner := [.int .i64 1]) (ok := fun _ => True) (okp := fun _ => True) ?hr ?hp (fun _ hk => hk) trivial (Below.refl _ _) (Nat.le_refl _) (by simp) ?_; (case hd => rfl); (case hg => rfl); (case hr => first | (go_simp; done) | (go_simp; rfl)); (case hp => exact (Reps.one (show Kd.M (Kd.int .i64) _ _ _ 1 [.int .i64 1] from rfl) (Reps.none _ _))); intro v109 w29 ho30 hb hg_ hnew_; clear hg_ hnew_; (first | rw [← Ny108.out] at ho30 | (simp only [Int.reduceToNat] at ho30; rw [← Ny108.out] at ho30)); have n0_ := Aside0.mk (Kd.R_below (by (with_reducible repeat (first | apply Kd.R_alloc | apply Kd.R_drewN | apply Kd.R_drew)); exact HO103.out) hb); have n1_ := Aside0.mk (Kd.R_lower ho30 (below_size (by repeat (first | (with_reducible first | exact HB.out | apply below_alloc | apply pw_below_drewN | apply below_drew1) | exact HB.out)))); have n2_ := Aside0.mk (below_step (by repeat (first | (with_reducible first | exact HB.out | apply below_alloc | apply pw_below_drewN | apply below_drew1) | exact HB.out)) hb); clear HO103; clear HB; have HO103 := n0_; have HO110 := n1_; have HB := n2_; clear n0_ n1_ n2_; clear hb ho30; obtain ⟨Ao31, co31, eo31⟩ := Kd.R_slice HO110.out; subst eo31) | ((with_reducible refine gate_callee (f := 64) rfl ?_); refine goesL_ (some 26) rfl rfl Try.func64 (by kernel_rfl) rfl #[.slice Ao26 y101.length co26, .slice Ao31 y108.length co31] rfl (by (try simp only [List.map_toArray, List.map_cons, List.map_nil]); first | done | rfl | (simp only [List.length_drop, List.length_take]; rfl)) ?_; (with_reducible refine (resolve_Each.calls k _ _ y101 _ _ y108 t111 t112 _ ?side1 ?side2 ?side3 ?side4 A3.out).mono ?_); (case side1 => repeat (first | exact (Kd.R_reads' HO103.out).2.2 | (with_reducible refine Kd.C_alloc ?_ _) | (with_reducible refine Kd.C_drewN ?_ _) | (with_reducible refine Kd.C_drew ?_))); (case side2 => exact (Kd.R_reads' HO103.out).2.1); (case side3 => repeat (first | exact (Kd.R_reads' HO110.out).2.2 | (with_reducible refine Kd.C_alloc ?_ _) | (with_reducible refine Kd.C_drewN ?_ _) | (with_reducible refine Kd.C_drew ?_))); (case side4 => exact (Kd.R_reads' HO110.out).2.1); rintro e w32 ⟨rfl, hb⟩; refine ⟨_, rfl, ?_⟩; have n0_ := Aside0.mk (Kd.R_below (by (with_reducible repeat (first | apply Kd.R_alloc | apply Kd.R_drewN | apply Kd.R_drew)); exact HO103.out) hb); have n1_ := Aside0.mk (Kd.R_below (by (with_reducible repeat (first | apply Kd.R_alloc | apply Kd.R_drewN | apply Kd.R_drew)); exact HO110.out) hb); have n2_ := Aside0.mk (below_step (by repeat (first | (with_reducible first | exact HB.out | apply below_alloc | apply pw_below_drewN | apply below_drew1) | exact HB.out)) hb); clear HO103; clear HO110; clear HB; have HO103 := n0_; have HO110 := n1_; have HB := n2_; clear n0_ n1_ n2_; (try clear hb); (try clear hb2); (try clear hk); (try clear hi)) | ((with_reducible refine gate_callee (f := 68) rfl ?_); refine goesL_ (some 31) rfl rfl Try.func68 (by kernel_rfl) rfl #[.slice Ao26 y101.length co26, .int .i64 0, .int .i64 1] rfl (by (try simp only [List.map_toArray, List.map_cons, List.map_nil]); first | done | rfl | (simp only [List.length_drop, List.length_take]; rfl)) ?_; (with_reducible refine (resolve_One.calls k _ _ y101 0 1 t113 t114 _ ?side1 ?side2 A4.out).mono ?_); (case side1 => repeat (first | exact (Kd.R_reads' HO103.out).2.2 | (with_reducible refine Kd.C_alloc ?_ _) | (with_reducible refine Kd.C_drewN ?_ _) | (with_reducible refine Kd.C_drew ?_))); (case side2 => exact (Kd.R_reads' HO103.out).2.1); rintro e w33 ⟨v115, rfl, ho0, hb⟩; refine ⟨_, rfl, ?_⟩; have n0_ := Aside0.mk (Kd.R_elder' (by (with_reducible repeat (first | apply Kd.R_alloc | apply Kd.R_drewN | apply Kd.R_drew)); exact HO103.out) (Kd.R_base ho0) hb); have n1_ := Aside0.mk (Kd.R_below (by (with_reducible repeat (first | apply Kd.R_alloc | apply Kd.R_drewN | apply Kd.R_drew)); exact HO110.out) hb); have n2_ := Aside0.mk (Kd.R_lower (Kd.R_new' ho0 (Kd.R_lt (by (with_reducible repeat (first | apply Kd.R_alloc | apply Kd.R_drewN | apply Kd.R_drew)); exact HO103.out))) (below_size (by repeat (first | (with_reducible first | exact HB.out | apply below_alloc | apply pw_below_drewN | apply below_drew1) | exact HB.out)))); have n3_ := Aside0.mk (below_step (by repeat (first | (with_reducible first | exact HB.out | apply below_alloc | apply pw_below_drewN | apply below_drew1) | exact HB.out)) hb); clear HO103; clear HO110; clear HB; have HO103 := n0_; have HO110 := n1_; have HO116 := n2_; have HB := n3_; clear n0_ n1_ n2_ n3_; (try clear hb); (try clear hb2); (try clear hk); (try clear hi); (try clear ho0); obtain ⟨Ao34, co34, eo34⟩ := Kd.R_slice HO116.out; subst eo34))
        go_ret
        exact ⟨by first | rfl | (simp [errW_none, errW_some] <;> rfl) | (simp [*, errW_none, errW_some] <;> rfl), by repeat (first | (with_reducible first | exact HB.out | apply below_alloc | apply pw_below_drewN | apply below_drew1) | exact HB.out)⟩
      ·rw [if_neg c10] at H
       have c10b0 : (t114 == 0) = false := beq_eq_false_iff_ne.mpr c10
       have c10b1 : (t114 != 0) = true := bne_iff_ne.mpr c10
       obtain rfl := Option.some.inj H
       go_enter Try.func60, Try.ntmps60
       go_wp2_with (first | ((with_reducible refine gate_dst (N := 12) rfl ?_); (try (refine gate_guard (by rfl) ?_; dsimp only)); refine Kd.R_lit k120 _ 120 ?hg (N := 12) ?hd (xs := ([(⟨(⟨(⟨#[]⟩ : ByteArray), (⟨#[]⟩ : ByteArray), (⟨#[]⟩ : ByteArray)⟩ : S116), false, (⟨#[120, 10]⟩ : ByteArray), (⟨#[]⟩ : ByteArray), (⟨#[]⟩ : ByteArray), (⟨#[]⟩ : ByteArray), false⟩ : S120), (⟨(⟨(⟨#[]⟩ : ByteArray), (⟨#[]⟩ : ByteArray), (⟨#[]⟩ : ByteArray)⟩ : S116), true, (⟨#[]⟩ : ByteArray), (⟨#[97, 10]⟩ : ByteArray), (⟨#[]⟩ : ByteArray), (⟨#[98, 10]⟩ : ByteArray), false⟩ : S120)] : List (S120))) (inner := [.string (⟨#[]⟩ : ByteArray), .string (⟨#[]⟩ : ByteArray), .string (⟨#[]⟩ : ByteArray), .bool false, .string (⟨#[120, 10]⟩ : ByteArray), .string (⟨#[]⟩ : ByteArray), .string (⟨#[]⟩ : ByteArray), .string (⟨#[]⟩ : ByteArray), .bool false, .string (⟨#[]⟩ : ByteArray), .string (⟨#[]⟩ : ByteArray), .string (⟨#[]⟩ : ByteArray), .bool true, .string (⟨#[]⟩ : ByteArray), .string (⟨#[97, 10]⟩ : ByteArray), .string (⟨#[]⟩ : ByteArray), .string (⟨#[98, 10]⟩ : ByteArray), .bool false]) (ok := fun _ => True) (okp := fun _ => True) ?hr ?hp (fun _ hk => hk) trivial (Below.refl _ _) (Nat.le_refl _) (by simp) ?_; (case hd => rfl); (case hg => rfl); (case hr => first | (go_simp; done) | (go_simp; rfl)); (case hp => exact (Reps.c9 (show Kd.M k120 _ _ _ (⟨(⟨(⟨#[]⟩ : ByteArray), (⟨#[]⟩ : ByteArray), (⟨#[]⟩ : ByteArray)⟩ : S116), false, (⟨#[120, 10]⟩ : ByteArray), (⟨#[]⟩ : ByteArray), (⟨#[]⟩ : ByteArray), (⟨#[]⟩ : ByteArray), false⟩ : S120) [.string (⟨#[]⟩ : ByteArray), .string (⟨#[]⟩ : ByteArray), .string (⟨#[]⟩ : ByteArray), .bool false, .string (⟨#[120, 10]⟩ : ByteArray), .string (⟨#[]⟩ : ByteArray), .string (⟨#[]⟩ : ByteArray), .string (⟨#[]⟩ : ByteArray), .bool false] from (k120_mkM _ _ _ (⟨(⟨(⟨#[]⟩ : ByteArray), (⟨#[]⟩ : ByteArray), (⟨#[]⟩ : ByteArray)⟩ : S116), false, (⟨#[120, 10]⟩ : ByteArray), (⟨#[]⟩ : ByteArray), (⟨#[]⟩ : ByteArray), (⟨#[]⟩ : ByteArray), false⟩ : S120) )) (Reps.c9 (show Kd.M k120 _ _ _ (⟨(⟨(⟨#[]⟩ : ByteArray), (⟨#[]⟩ : ByteArray), (⟨#[]⟩ : ByteArray)⟩ : S116), true, (⟨#[]⟩ : ByteArray), (⟨#[97, 10]⟩ : ByteArray), (⟨#[]⟩ : ByteArray), (⟨#[98, 10]⟩ : ByteArray), false⟩ : S120) [.string (⟨#[]⟩ : ByteArray), .string (⟨#[]⟩ : ByteArray), .string (⟨#[]⟩ : ByteArray), .bool true, .string (⟨#[]⟩ : ByteArray), .string (⟨#[97, 10]⟩ : ByteArray), .string (⟨#[]⟩ : ByteArray), .string (⟨#[98, 10]⟩ : ByteArray), .bool false] from (k120_mkM _ _ _ (⟨(⟨(⟨#[]⟩ : ByteArray), (⟨#[]⟩ : ByteArray), (⟨#[]⟩ : ByteArray)⟩ : S116), true, (⟨#[]⟩ : ByteArray), (⟨#[97, 10]⟩ : ByteArray), (⟨#[]⟩ : ByteArray), (⟨#[98, 10]⟩ : ByteArray), false⟩ : S120) )) (Reps.none _ _)))); intro v102 w35 ho36 hb hg_ hnew_; clear hg_ hnew_; (first | rw [← Ny101.out] at ho36 | (simp only [Int.reduceToNat] at ho36; rw [← Ny101.out] at ho36)); have n0_ := Aside0.mk (Kd.R_lower ho36 (below_size (by repeat (first | (with_reducible first | exact HB.out | apply below_alloc | apply pw_below_drewN | apply below_drew1) | exact HB.out)))); have n1_ := Aside0.mk (below_step (by repeat (first | (with_reducible first | exact HB.out | apply below_alloc | apply pw_below_drewN | apply below_drew1) | exact HB.out)) hb); clear HB; have HO103 := n0_; have HB := n1_; clear n0_ n1_; clear hb ho36; obtain ⟨Ao37, co37, eo37⟩ := Kd.R_slice HO103.out; subst eo37) | ((with_reducible refine gate_callee (f := 62) rfl ?_); refine goesL_ (some 15) rfl rfl Try.func62 (by kernel_rfl) rfl #[.slice Ao37 y101.length co37, .int .i64 3] rfl (by (try simp only [List.map_toArray, List.map_cons, List.map_nil]); first | done | rfl | (simp only [List.length_drop, List.length_take]; rfl)) ?_; (with_reducible refine (resolve_All.calls k _ _ y101 3 t104 t105 _ ?side1 ?side2 A1.out).mono ?_); (case side1 => repeat (first | exact (Kd.R_reads' HO103.out).2.2 | (with_reducible refine Kd.C_alloc ?_ _) | (with_reducible refine Kd.C_drewN ?_ _) | (with_reducible refine Kd.C_drew ?_))); (case side2 => exact (Kd.R_reads' HO103.out).2.1); rintro e w38 ⟨rfl, hb⟩; refine ⟨_, rfl, ?_⟩; have n0_ := Aside0.mk (Kd.R_below (by (with_reducible repeat (first | apply Kd.R_alloc | apply Kd.R_drewN | apply Kd.R_drew)); exact HO103.out) hb); have n1_ := Aside0.mk (below_step (by repeat (first | (with_reducible first | exact HB.out | apply below_alloc | apply pw_below_drewN | apply below_drew1) | exact HB.out)) hb); clear HO103; clear HB; have HO103 := n0_; have HB := n1_; clear n0_ n1_; (try clear hb); (try clear hb2); (try clear hk); (try clear hi)) | ((with_reducible refine gate_callee (f := 62) rfl ?_); refine goesL_ (some 20) rfl rfl Try.func62 (by kernel_rfl) rfl #[.slice Ao37 y101.length co37, .int .i64 2] rfl (by (try simp only [List.map_toArray, List.map_cons, List.map_nil]); first | done | rfl | (simp only [List.length_drop, List.length_take]; rfl)) ?_; (with_reducible refine (resolve_All.calls k _ _ y101 2 t106 t107 _ ?side1 ?side2 A2.out).mono ?_); (case side1 => repeat (first | exact (Kd.R_reads' HO103.out).2.2 | (with_reducible refine Kd.C_alloc ?_ _) | (with_reducible refine Kd.C_drewN ?_ _) | (with_reducible refine Kd.C_drew ?_))); (case side2 => exact (Kd.R_reads' HO103.out).2.1); rintro e w39 ⟨rfl, hb⟩; refine ⟨_, rfl, ?_⟩; have n0_ := Aside0.mk (Kd.R_below (by (with_reducible repeat (first | apply Kd.R_alloc | apply Kd.R_drewN | apply Kd.R_drew)); exact HO103.out) hb); have n1_ := Aside0.mk (below_step (by repeat (first | (with_reducible first | exact HB.out | apply below_alloc | apply pw_below_drewN | apply below_drew1) | exact HB.out)) hb); clear HO103; clear HB; have HO103 := n0_; have HB := n1_; clear n0_ n1_; (try clear hb); (try clear hb2); (try clear hk); (try clear hi)) | ((with_reducible refine gate_dst (N := 25) rfl ?_); (try (refine gate_guard (by rfl) ?_; dsimp only)); refine Kd.R_lit (Kd.int .i64) _ 3 ?hg (N := 25) ?hd (xs := ([1] : List Int)) (inner := [.int .i64 1]) (ok := fun _ => True) (okp := fun _ => True) ?hr ?hp (fun _ hk => hk) trivial (Below.refl _ _) (Nat.le_refl _) (by simp) ?_; (case hd => rfl); (case hg => rfl); (case hr => first | (go_simp; done) | (go_simp; rfl)); (case hp => exact (Reps.one (show Kd.M (Kd.int .i64) _ _ _ 1 [.int .i64 1] from rfl) (Reps.none _ _))); intro v109 w40 ho41 hb hg_ hnew_; clear hg_ hnew_; (first | rw [← Ny108.out] at ho41 | (simp only [Int.reduceToNat] at ho41; rw [← Ny108.out] at ho41)); have n0_ := Aside0.mk (Kd.R_below (by (with_reducible repeat (first | apply Kd.R_alloc | apply Kd.R_drewN | apply Kd.R_drew)); exact HO103.out) hb); have n1_ := Aside0.mk (Kd.R_lower ho41 (below_size (by repeat (first | (with_reducible first | exact HB.out | apply below_alloc | apply pw_below_drewN | apply below_drew1) | exact HB.out)))); have n2_ := Aside0.mk (below_step (by repeat (first | (with_reducible first | exact HB.out | apply below_alloc | apply pw_below_drewN | apply below_drew1) | exact HB.out)) hb); clear HO103; clear HB; have HO103 := n0_; have HO110 := n1_; have HB := n2_; clear n0_ n1_ n2_; clear hb ho41; obtain ⟨Ao42, co42, eo42⟩ := Kd.R_slice HO110.out; subst eo42) | ((with_reducible refine gate_callee (f := 64) rfl ?_); refine goesL_ (some 26) rfl rfl Try.func64 (by kernel_rfl) rfl #[.slice Ao37 y101.length co37, .slice Ao42 y108.length co42] rfl (by (try simp only [List.map_toArray, List.map_cons, List.map_nil]); first | done | rfl | (simp only [List.length_drop, List.length_take]; rfl)) ?_; (with_reducible refine (resolve_Each.calls k _ _ y101 _ _ y108 t111 t112 _ ?side1 ?side2 ?side3 ?side4 A3.out).mono ?_); (case side1 => repeat (first | exact (Kd.R_reads' HO103.out).2.2 | (with_reducible refine Kd.C_alloc ?_ _) | (with_reducible refine Kd.C_drewN ?_ _) | (with_reducible refine Kd.C_drew ?_))); (case side2 => exact (Kd.R_reads' HO103.out).2.1); (case side3 => repeat (first | exact (Kd.R_reads' HO110.out).2.2 | (with_reducible refine Kd.C_alloc ?_ _) | (with_reducible refine Kd.C_drewN ?_ _) | (with_reducible refine Kd.C_drew ?_))); (case side4 => exact (Kd.R_reads' HO110.out).2.1); rintro e w43 ⟨rfl, hb⟩; refine ⟨_, rfl, ?_⟩; have n0_ := Aside0.mk (Kd.R_below (by (with_reducible repeat (first | apply Kd.R_alloc | apply Kd.R_drewN | apply Kd.R_drew)); exact HO103.out) hb); have n1_ := Aside0.mk (Kd.R_below (by (with_reducible repeat (first | apply Kd.R_alloc | apply Kd.R_drewN | apply Kd.R_drew)); exact HO110.out) hb); have n2_ := Aside0.mk (below_step (by repeat (first | (with_reducible first | exact HB.out | apply below_alloc | apply pw_below_drewN | apply below_drew1) | exact HB.out)) hb); clear HO103; clear HO110; clear HB; have HO103 := n0_; have HO110 := n1_; have HB := n2_; clear n0_ n1_ n2_; (try clear hb); (try clear hb2); (try clear hk); (try clear hi)) | ((with_reducible refine gate_callee (f := 68) rfl ?_); refine goesL_ (some 31) rfl rfl Try.func68 (by kernel_rfl) rfl #[.slice Ao37 y101.length co37, .int .i64 0, .int .i64 1] rfl (by (try simp only [List.map_toArray, List.map_cons, List.map_nil]); first | done | rfl | (simp only [List.length_drop, List.length_take]; rfl)) ?_; (with_reducible refine (resolve_One.calls k _ _ y101 0 1 t113 t114 _ ?side1 ?side2 A4.out).mono ?_); (case side1 => repeat (first | exact (Kd.R_reads' HO103.out).2.2 | (with_reducible refine Kd.C_alloc ?_ _) | (with_reducible refine Kd.C_drewN ?_ _) | (with_reducible refine Kd.C_drew ?_))); (case side2 => exact (Kd.R_reads' HO103.out).2.1); rintro e w44 ⟨v115, rfl, ho0, hb⟩; refine ⟨_, rfl, ?_⟩; have n0_ := Aside0.mk (Kd.R_elder' (by (with_reducible repeat (first | apply Kd.R_alloc | apply Kd.R_drewN | apply Kd.R_drew)); exact HO103.out) (Kd.R_base ho0) hb); have n1_ := Aside0.mk (Kd.R_below (by (with_reducible repeat (first | apply Kd.R_alloc | apply Kd.R_drewN | apply Kd.R_drew)); exact HO110.out) hb); have n2_ := Aside0.mk (Kd.R_lower (Kd.R_new' ho0 (Kd.R_lt (by (with_reducible repeat (first | apply Kd.R_alloc | apply Kd.R_drewN | apply Kd.R_drew)); exact HO103.out))) (below_size (by repeat (first | (with_reducible first | exact HB.out | apply below_alloc | apply pw_below_drewN | apply below_drew1) | exact HB.out)))); have n3_ := Aside0.mk (below_step (by repeat (first | (with_reducible first | exact HB.out | apply below_alloc | apply pw_below_drewN | apply below_drew1) | exact HB.out)) hb); clear HO103; clear HO110; clear HB; have HO103 := n0_; have HO110 := n1_; have HO116 := n2_; have HB := n3_; clear n0_ n1_ n2_ n3_; (try clear hb); (try clear hb2); (try clear hk); (try clear hi); (try clear ho0)))
       go_ret
       exact ⟨by first | rfl | (simp [errW_none, errW_some] <;> rfl) | (simp [*, errW_none, errW_some] <;> rfl), by repeat (first | (with_reducible first | exact HB.out | apply below_alloc | apply pw_below_drewN | apply below_drew1) | exact HB.out)⟩
     ·rw [if_neg c9] at H
      have c9b0 : (t111.toList == ([120, 10, 97, 10] : List UInt8)) = false := beq_eq_false_iff_ne.mpr c9
      have c9b1 : (t111.toList != ([120, 10, 97, 10] : List UInt8)) = true := bne_iff_ne.mpr c9
      obtain rfl := Option.some.inj H
      go_enter Try.func60, Try.ntmps60
      go_wp2_with (first | ((with_reducible refine gate_dst (N := 12) rfl ?_); (try (refine gate_guard (by rfl) ?_; dsimp only)); refine Kd.R_lit k120 _ 120 ?hg (N := 12) ?hd (xs := ([(⟨(⟨(⟨#[]⟩ : ByteArray), (⟨#[]⟩ : ByteArray), (⟨#[]⟩ : ByteArray)⟩ : S116), false, (⟨#[120, 10]⟩ : ByteArray), (⟨#[]⟩ : ByteArray), (⟨#[]⟩ : ByteArray), (⟨#[]⟩ : ByteArray), false⟩ : S120), (⟨(⟨(⟨#[]⟩ : ByteArray), (⟨#[]⟩ : ByteArray), (⟨#[]⟩ : ByteArray)⟩ : S116), true, (⟨#[]⟩ : ByteArray), (⟨#[97, 10]⟩ : ByteArray), (⟨#[]⟩ : ByteArray), (⟨#[98, 10]⟩ : ByteArray), false⟩ : S120)] : List (S120))) (inner := [.string (⟨#[]⟩ : ByteArray), .string (⟨#[]⟩ : ByteArray), .string (⟨#[]⟩ : ByteArray), .bool false, .string (⟨#[120, 10]⟩ : ByteArray), .string (⟨#[]⟩ : ByteArray), .string (⟨#[]⟩ : ByteArray), .string (⟨#[]⟩ : ByteArray), .bool false, .string (⟨#[]⟩ : ByteArray), .string (⟨#[]⟩ : ByteArray), .string (⟨#[]⟩ : ByteArray), .bool true, .string (⟨#[]⟩ : ByteArray), .string (⟨#[97, 10]⟩ : ByteArray), .string (⟨#[]⟩ : ByteArray), .string (⟨#[98, 10]⟩ : ByteArray), .bool false]) (ok := fun _ => True) (okp := fun _ => True) ?hr ?hp (fun _ hk => hk) trivial (Below.refl _ _) (Nat.le_refl _) (by simp) ?_; (case hd => rfl); (case hg => rfl); (case hr => first | (go_simp; done) | (go_simp; rfl)); (case hp => exact (Reps.c9 (show Kd.M k120 _ _ _ (⟨(⟨(⟨#[]⟩ : ByteArray), (⟨#[]⟩ : ByteArray), (⟨#[]⟩ : ByteArray)⟩ : S116), false, (⟨#[120, 10]⟩ : ByteArray), (⟨#[]⟩ : ByteArray), (⟨#[]⟩ : ByteArray), (⟨#[]⟩ : ByteArray), false⟩ : S120) [.string (⟨#[]⟩ : ByteArray), .string (⟨#[]⟩ : ByteArray), .string (⟨#[]⟩ : ByteArray), .bool false, .string (⟨#[120, 10]⟩ : ByteArray), .string (⟨#[]⟩ : ByteArray), .string (⟨#[]⟩ : ByteArray), .string (⟨#[]⟩ : ByteArray), .bool false] from (k120_mkM _ _ _ (⟨(⟨(⟨#[]⟩ : ByteArray), (⟨#[]⟩ : ByteArray), (⟨#[]⟩ : ByteArray)⟩ : S116), false, (⟨#[120, 10]⟩ : ByteArray), (⟨#[]⟩ : ByteArray), (⟨#[]⟩ : ByteArray), (⟨#[]⟩ : ByteArray), false⟩ : S120) )) (Reps.c9 (show Kd.M k120 _ _ _ (⟨(⟨(⟨#[]⟩ : ByteArray), (⟨#[]⟩ : ByteArray), (⟨#[]⟩ : ByteArray)⟩ : S116), true, (⟨#[]⟩ : ByteArray), (⟨#[97, 10]⟩ : ByteArray), (⟨#[]⟩ : ByteArray), (⟨#[98, 10]⟩ : ByteArray), false⟩ : S120) [.string (⟨#[]⟩ : ByteArray), .string (⟨#[]⟩ : ByteArray), .string (⟨#[]⟩ : ByteArray), .bool true, .string (⟨#[]⟩ : ByteArray), .string (⟨#[97, 10]⟩ : ByteArray), .string (⟨#[]⟩ : ByteArray), .string (⟨#[98, 10]⟩ : ByteArray), .bool false] from (k120_mkM _ _ _ (⟨(⟨(⟨#[]⟩ : ByteArray), (⟨#[]⟩ : ByteArray), (⟨#[]⟩ : ByteArray)⟩ : S116), true, (⟨#[]⟩ : ByteArray), (⟨#[97, 10]⟩ : ByteArray), (⟨#[]⟩ : ByteArray), (⟨#[98, 10]⟩ : ByteArray), false⟩ : S120) )) (Reps.none _ _)))); intro v102 w45 ho46 hb hg_ hnew_; clear hg_ hnew_; (first | rw [← Ny101.out] at ho46 | (simp only [Int.reduceToNat] at ho46; rw [← Ny101.out] at ho46)); have n0_ := Aside0.mk (Kd.R_lower ho46 (below_size (by repeat (first | (with_reducible first | exact HB.out | apply below_alloc | apply pw_below_drewN | apply below_drew1) | exact HB.out)))); have n1_ := Aside0.mk (below_step (by repeat (first | (with_reducible first | exact HB.out | apply below_alloc | apply pw_below_drewN | apply below_drew1) | exact HB.out)) hb); clear HB; have HO103 := n0_; have HB := n1_; clear n0_ n1_; clear hb ho46; obtain ⟨Ao47, co47, eo47⟩ := Kd.R_slice HO103.out; subst eo47) | ((with_reducible refine gate_callee (f := 62) rfl ?_); refine goesL_ (some 15) rfl rfl Try.func62 (by kernel_rfl) rfl #[.slice Ao47 y101.length co47, .int .i64 3] rfl (by (try simp only [List.map_toArray, List.map_cons, List.map_nil]); first | done | rfl | (simp only [List.length_drop, List.length_take]; rfl)) ?_; (with_reducible refine (resolve_All.calls k _ _ y101 3 t104 t105 _ ?side1 ?side2 A1.out).mono ?_); (case side1 => repeat (first | exact (Kd.R_reads' HO103.out).2.2 | (with_reducible refine Kd.C_alloc ?_ _) | (with_reducible refine Kd.C_drewN ?_ _) | (with_reducible refine Kd.C_drew ?_))); (case side2 => exact (Kd.R_reads' HO103.out).2.1); rintro e w48 ⟨rfl, hb⟩; refine ⟨_, rfl, ?_⟩; have n0_ := Aside0.mk (Kd.R_below (by (with_reducible repeat (first | apply Kd.R_alloc | apply Kd.R_drewN | apply Kd.R_drew)); exact HO103.out) hb); have n1_ := Aside0.mk (below_step (by repeat (first | (with_reducible first | exact HB.out | apply below_alloc | apply pw_below_drewN | apply below_drew1) | exact HB.out)) hb); clear HO103; clear HB; have HO103 := n0_; have HB := n1_; clear n0_ n1_; (try clear hb); (try clear hb2); (try clear hk); (try clear hi)) | ((with_reducible refine gate_callee (f := 62) rfl ?_); refine goesL_ (some 20) rfl rfl Try.func62 (by kernel_rfl) rfl #[.slice Ao47 y101.length co47, .int .i64 2] rfl (by (try simp only [List.map_toArray, List.map_cons, List.map_nil]); first | done | rfl | (simp only [List.length_drop, List.length_take]; rfl)) ?_; (with_reducible refine (resolve_All.calls k _ _ y101 2 t106 t107 _ ?side1 ?side2 A2.out).mono ?_); (case side1 => repeat (first | exact (Kd.R_reads' HO103.out).2.2 | (with_reducible refine Kd.C_alloc ?_ _) | (with_reducible refine Kd.C_drewN ?_ _) | (with_reducible refine Kd.C_drew ?_))); (case side2 => exact (Kd.R_reads' HO103.out).2.1); rintro e w49 ⟨rfl, hb⟩; refine ⟨_, rfl, ?_⟩; have n0_ := Aside0.mk (Kd.R_below (by (with_reducible repeat (first | apply Kd.R_alloc | apply Kd.R_drewN | apply Kd.R_drew)); exact HO103.out) hb); have n1_ := Aside0.mk (below_step (by repeat (first | (with_reducible first | exact HB.out | apply below_alloc | apply pw_below_drewN | apply below_drew1) | exact HB.out)) hb); clear HO103; clear HB; have HO103 := n0_; have HB := n1_; clear n0_ n1_; (try clear hb); (try clear hb2); (try clear hk); (try clear hi)) | ((with_reducible refine gate_dst (N := 25) rfl ?_); (try (refine gate_guard (by rfl) ?_; dsimp only)); refine Kd.R_lit (Kd.int .i64) _ 3 ?hg (N := 25) ?hd (xs := ([1] : List Int)) (inner := [.int .i64 1]) (ok := fun _ => True) (okp := fun _ => True) ?hr ?hp (fun _ hk => hk) trivial (Below.refl _ _) (Nat.le_refl _) (by simp) ?_; (case hd => rfl); (case hg => rfl); (case hr => first | (go_simp; done) | (go_simp; rfl)); (case hp => exact (Reps.one (show Kd.M (Kd.int .i64) _ _ _ 1 [.int .i64 1] from rfl) (Reps.none _ _))); intro v109 w50 ho51 hb hg_ hnew_; clear hg_ hnew_; (first | rw [← Ny108.out] at ho51 | (simp only [Int.reduceToNat] at ho51; rw [← Ny108.out] at ho51)); have n0_ := Aside0.mk (Kd.R_below (by (with_reducible repeat (first | apply Kd.R_alloc | apply Kd.R_drewN | apply Kd.R_drew)); exact HO103.out) hb); have n1_ := Aside0.mk (Kd.R_lower ho51 (below_size (by repeat (first | (with_reducible first | exact HB.out | apply below_alloc | apply pw_below_drewN | apply below_drew1) | exact HB.out)))); have n2_ := Aside0.mk (below_step (by repeat (first | (with_reducible first | exact HB.out | apply below_alloc | apply pw_below_drewN | apply below_drew1) | exact HB.out)) hb); clear HO103; clear HB; have HO103 := n0_; have HO110 := n1_; have HB := n2_; clear n0_ n1_ n2_; clear hb ho51; obtain ⟨Ao52, co52, eo52⟩ := Kd.R_slice HO110.out; subst eo52) | ((with_reducible refine gate_callee (f := 64) rfl ?_); refine goesL_ (some 26) rfl rfl Try.func64 (by kernel_rfl) rfl #[.slice Ao47 y101.length co47, .slice Ao52 y108.length co52] rfl (by (try simp only [List.map_toArray, List.map_cons, List.map_nil]); first | done | rfl | (simp only [List.length_drop, List.length_take]; rfl)) ?_; (with_reducible refine (resolve_Each.calls k _ _ y101 _ _ y108 t111 t112 _ ?side1 ?side2 ?side3 ?side4 A3.out).mono ?_); (case side1 => repeat (first | exact (Kd.R_reads' HO103.out).2.2 | (with_reducible refine Kd.C_alloc ?_ _) | (with_reducible refine Kd.C_drewN ?_ _) | (with_reducible refine Kd.C_drew ?_))); (case side2 => exact (Kd.R_reads' HO103.out).2.1); (case side3 => repeat (first | exact (Kd.R_reads' HO110.out).2.2 | (with_reducible refine Kd.C_alloc ?_ _) | (with_reducible refine Kd.C_drewN ?_ _) | (with_reducible refine Kd.C_drew ?_))); (case side4 => exact (Kd.R_reads' HO110.out).2.1); rintro e w53 ⟨rfl, hb⟩; refine ⟨_, rfl, ?_⟩; have n0_ := Aside0.mk (Kd.R_below (by (with_reducible repeat (first | apply Kd.R_alloc | apply Kd.R_drewN | apply Kd.R_drew)); exact HO103.out) hb); have n1_ := Aside0.mk (Kd.R_below (by (with_reducible repeat (first | apply Kd.R_alloc | apply Kd.R_drewN | apply Kd.R_drew)); exact HO110.out) hb); have n2_ := Aside0.mk (below_step (by repeat (first | (with_reducible first | exact HB.out | apply below_alloc | apply pw_below_drewN | apply below_drew1) | exact HB.out)) hb); clear HO103; clear HO110; clear HB; have HO103 := n0_; have HO110 := n1_; have HB := n2_; clear n0_ n1_ n2_; (try clear hb); (try clear hb2); (try clear hk); (try clear hi)) | ((with_reducible refine gate_callee (f := 68) rfl ?_); refine goesL_ (some 31) rfl rfl Try.func68 (by kernel_rfl) rfl #[.slice Ao47 y101.length co47, .int .i64 0, .int .i64 1] rfl (by (try simp only [List.map_toArray, List.map_cons, List.map_nil]); first | done | rfl | (simp only [List.length_drop, List.length_take]; rfl)) ?_; (with_reducible refine (resolve_One.calls k _ _ y101 0 1 t113 t114 _ ?side1 ?side2 A4.out).mono ?_); (case side1 => repeat (first | exact (Kd.R_reads' HO103.out).2.2 | (with_reducible refine Kd.C_alloc ?_ _) | (with_reducible refine Kd.C_drewN ?_ _) | (with_reducible refine Kd.C_drew ?_))); (case side2 => exact (Kd.R_reads' HO103.out).2.1); rintro e w54 ⟨v115, rfl, ho0, hb⟩; refine ⟨_, rfl, ?_⟩; have n0_ := Aside0.mk (Kd.R_elder' (by (with_reducible repeat (first | apply Kd.R_alloc | apply Kd.R_drewN | apply Kd.R_drew)); exact HO103.out) (Kd.R_base ho0) hb); have n1_ := Aside0.mk (Kd.R_below (by (with_reducible repeat (first | apply Kd.R_alloc | apply Kd.R_drewN | apply Kd.R_drew)); exact HO110.out) hb); have n2_ := Aside0.mk (Kd.R_lower (Kd.R_new' ho0 (Kd.R_lt (by (with_reducible repeat (first | apply Kd.R_alloc | apply Kd.R_drewN | apply Kd.R_drew)); exact HO103.out))) (below_size (by repeat (first | (with_reducible first | exact HB.out | apply below_alloc | apply pw_below_drewN | apply below_drew1) | exact HB.out)))); have n3_ := Aside0.mk (below_step (by repeat (first | (with_reducible first | exact HB.out | apply below_alloc | apply pw_below_drewN | apply below_drew1) | exact HB.out)) hb); clear HO103; clear HO110; clear HB; have HO103 := n0_; have HO110 := n1_; have HO116 := n2_; have HB := n3_; clear n0_ n1_ n2_ n3_; (try clear hb); (try clear hb2); (try clear hk); (try clear hi); (try clear ho0)))
      go_ret
      exact ⟨by first | rfl | (simp [errW_none, errW_some] <;> rfl) | (simp [*, errW_none, errW_some] <;> rfl), by repeat (first | (with_reducible first | exact HB.out | apply below_alloc | apply pw_below_drewN | apply below_drew1) | exact HB.out)⟩
    ·rw [if_neg c8] at H
     have c8b0 : (t112 == 0) = false := beq_eq_false_iff_ne.mpr c8
     have c8b1 : (t112 != 0) = true := bne_iff_ne.mpr c8
     obtain rfl := Option.some.inj H
     go_enter Try.func60, Try.ntmps60
     go_wp2_with (first | ((with_reducible refine gate_dst (N := 12) rfl ?_); (try (refine gate_guard (by rfl) ?_; dsimp only)); refine Kd.R_lit k120 _ 120 ?hg (N := 12) ?hd (xs := ([(⟨(⟨(⟨#[]⟩ : ByteArray), (⟨#[]⟩ : ByteArray), (⟨#[]⟩ : ByteArray)⟩ : S116), false, (⟨#[120, 10]⟩ : ByteArray), (⟨#[]⟩ : ByteArray), (⟨#[]⟩ : ByteArray), (⟨#[]⟩ : ByteArray), false⟩ : S120), (⟨(⟨(⟨#[]⟩ : ByteArray), (⟨#[]⟩ : ByteArray), (⟨#[]⟩ : ByteArray)⟩ : S116), true, (⟨#[]⟩ : ByteArray), (⟨#[97, 10]⟩ : ByteArray), (⟨#[]⟩ : ByteArray), (⟨#[98, 10]⟩ : ByteArray), false⟩ : S120)] : List (S120))) (inner := [.string (⟨#[]⟩ : ByteArray), .string (⟨#[]⟩ : ByteArray), .string (⟨#[]⟩ : ByteArray), .bool false, .string (⟨#[120, 10]⟩ : ByteArray), .string (⟨#[]⟩ : ByteArray), .string (⟨#[]⟩ : ByteArray), .string (⟨#[]⟩ : ByteArray), .bool false, .string (⟨#[]⟩ : ByteArray), .string (⟨#[]⟩ : ByteArray), .string (⟨#[]⟩ : ByteArray), .bool true, .string (⟨#[]⟩ : ByteArray), .string (⟨#[97, 10]⟩ : ByteArray), .string (⟨#[]⟩ : ByteArray), .string (⟨#[98, 10]⟩ : ByteArray), .bool false]) (ok := fun _ => True) (okp := fun _ => True) ?hr ?hp (fun _ hk => hk) trivial (Below.refl _ _) (Nat.le_refl _) (by simp) ?_; (case hd => rfl); (case hg => rfl); (case hr => first | (go_simp; done) | (go_simp; rfl)); (case hp => exact (Reps.c9 (show Kd.M k120 _ _ _ (⟨(⟨(⟨#[]⟩ : ByteArray), (⟨#[]⟩ : ByteArray), (⟨#[]⟩ : ByteArray)⟩ : S116), false, (⟨#[120, 10]⟩ : ByteArray), (⟨#[]⟩ : ByteArray), (⟨#[]⟩ : ByteArray), (⟨#[]⟩ : ByteArray), false⟩ : S120) [.string (⟨#[]⟩ : ByteArray), .string (⟨#[]⟩ : ByteArray), .string (⟨#[]⟩ : ByteArray), .bool false, .string (⟨#[120, 10]⟩ : ByteArray), .string (⟨#[]⟩ : ByteArray), .string (⟨#[]⟩ : ByteArray), .string (⟨#[]⟩ : ByteArray), .bool false] from (k120_mkM _ _ _ (⟨(⟨(⟨#[]⟩ : ByteArray), (⟨#[]⟩ : ByteArray), (⟨#[]⟩ : ByteArray)⟩ : S116), false, (⟨#[120, 10]⟩ : ByteArray), (⟨#[]⟩ : ByteArray), (⟨#[]⟩ : ByteArray), (⟨#[]⟩ : ByteArray), false⟩ : S120) )) (Reps.c9 (show Kd.M k120 _ _ _ (⟨(⟨(⟨#[]⟩ : ByteArray), (⟨#[]⟩ : ByteArray), (⟨#[]⟩ : ByteArray)⟩ : S116), true, (⟨#[]⟩ : ByteArray), (⟨#[97, 10]⟩ : ByteArray), (⟨#[]⟩ : ByteArray), (⟨#[98, 10]⟩ : ByteArray), false⟩ : S120) [.string (⟨#[]⟩ : ByteArray), .string (⟨#[]⟩ : ByteArray), .string (⟨#[]⟩ : ByteArray), .bool true, .string (⟨#[]⟩ : ByteArray), .string (⟨#[97, 10]⟩ : ByteArray), .string (⟨#[]⟩ : ByteArray), .string (⟨#[98, 10]⟩ : ByteArray), .bool false] from (k120_mkM _ _ _ (⟨(⟨(⟨#[]⟩ : ByteArray), (⟨#[]⟩ : ByteArray), (⟨#[]⟩ : ByteArray)⟩ : S116), true, (⟨#[]⟩ : ByteArray), (⟨#[97, 10]⟩ : ByteArray), (⟨#[]⟩ : ByteArray), (⟨#[98, 10]⟩ : ByteArray), false⟩ : S120) )) (Reps.none _ _)))); intro v102 w55 ho56 hb hg_ hnew_; clear hg_ hnew_; (first | rw [← Ny101.out] at ho56 | (simp only [Int.reduceToNat] at ho56; rw [← Ny101.out] at ho56)); have n0_ := Aside0.mk (Kd.R_lower ho56 (below_size (by repeat (first | (with_reducible first | exact HB.out | apply below_alloc | apply pw_below_drewN | apply below_drew1) | exact HB.out)))); have n1_ := Aside0.mk (below_step (by repeat (first | (with_reducible first | exact HB.out | apply below_alloc | apply pw_below_drewN | apply below_drew1) | exact HB.out)) hb); clear HB; have HO103 := n0_; have HB := n1_; clear n0_ n1_; clear hb ho56; obtain ⟨Ao57, co57, eo57⟩ := Kd.R_slice HO103.out; subst eo57) | ((with_reducible refine gate_callee (f := 62) rfl ?_); refine goesL_ (some 15) rfl rfl Try.func62 (by kernel_rfl) rfl #[.slice Ao57 y101.length co57, .int .i64 3] rfl (by (try simp only [List.map_toArray, List.map_cons, List.map_nil]); first | done | rfl | (simp only [List.length_drop, List.length_take]; rfl)) ?_; (with_reducible refine (resolve_All.calls k _ _ y101 3 t104 t105 _ ?side1 ?side2 A1.out).mono ?_); (case side1 => repeat (first | exact (Kd.R_reads' HO103.out).2.2 | (with_reducible refine Kd.C_alloc ?_ _) | (with_reducible refine Kd.C_drewN ?_ _) | (with_reducible refine Kd.C_drew ?_))); (case side2 => exact (Kd.R_reads' HO103.out).2.1); rintro e w58 ⟨rfl, hb⟩; refine ⟨_, rfl, ?_⟩; have n0_ := Aside0.mk (Kd.R_below (by (with_reducible repeat (first | apply Kd.R_alloc | apply Kd.R_drewN | apply Kd.R_drew)); exact HO103.out) hb); have n1_ := Aside0.mk (below_step (by repeat (first | (with_reducible first | exact HB.out | apply below_alloc | apply pw_below_drewN | apply below_drew1) | exact HB.out)) hb); clear HO103; clear HB; have HO103 := n0_; have HB := n1_; clear n0_ n1_; (try clear hb); (try clear hb2); (try clear hk); (try clear hi)) | ((with_reducible refine gate_callee (f := 62) rfl ?_); refine goesL_ (some 20) rfl rfl Try.func62 (by kernel_rfl) rfl #[.slice Ao57 y101.length co57, .int .i64 2] rfl (by (try simp only [List.map_toArray, List.map_cons, List.map_nil]); first | done | rfl | (simp only [List.length_drop, List.length_take]; rfl)) ?_; (with_reducible refine (resolve_All.calls k _ _ y101 2 t106 t107 _ ?side1 ?side2 A2.out).mono ?_); (case side1 => repeat (first | exact (Kd.R_reads' HO103.out).2.2 | (with_reducible refine Kd.C_alloc ?_ _) | (with_reducible refine Kd.C_drewN ?_ _) | (with_reducible refine Kd.C_drew ?_))); (case side2 => exact (Kd.R_reads' HO103.out).2.1); rintro e w59 ⟨rfl, hb⟩; refine ⟨_, rfl, ?_⟩; have n0_ := Aside0.mk (Kd.R_below (by (with_reducible repeat (first | apply Kd.R_alloc | apply Kd.R_drewN | apply Kd.R_drew)); exact HO103.out) hb); have n1_ := Aside0.mk (below_step (by repeat (first | (with_reducible first | exact HB.out | apply below_alloc | apply pw_below_drewN | apply below_drew1) | exact HB.out)) hb); clear HO103; clear HB; have HO103 := n0_; have HB := n1_; clear n0_ n1_; (try clear hb); (try clear hb2); (try clear hk); (try clear hi)) | ((with_reducible refine gate_dst (N := 25) rfl ?_); (try (refine gate_guard (by rfl) ?_; dsimp only)); refine Kd.R_lit (Kd.int .i64) _ 3 ?hg (N := 25) ?hd (xs := ([1] : List Int)) (inner := [.int .i64 1]) (ok := fun _ => True) (okp := fun _ => True) ?hr ?hp (fun _ hk => hk) trivial (Below.refl _ _) (Nat.le_refl _) (by simp) ?_; (case hd => rfl); (case hg => rfl); (case hr => first | (go_simp; done) | (go_simp; rfl)); (case hp => exact (Reps.one (show Kd.M (Kd.int .i64) _ _ _ 1 [.int .i64 1] from rfl) (Reps.none _ _))); intro v109 w60 ho61 hb hg_ hnew_; clear hg_ hnew_; (first | rw [← Ny108.out] at ho61 | (simp only [Int.reduceToNat] at ho61; rw [← Ny108.out] at ho61)); have n0_ := Aside0.mk (Kd.R_below (by (with_reducible repeat (first | apply Kd.R_alloc | apply Kd.R_drewN | apply Kd.R_drew)); exact HO103.out) hb); have n1_ := Aside0.mk (Kd.R_lower ho61 (below_size (by repeat (first | (with_reducible first | exact HB.out | apply below_alloc | apply pw_below_drewN | apply below_drew1) | exact HB.out)))); have n2_ := Aside0.mk (below_step (by repeat (first | (with_reducible first | exact HB.out | apply below_alloc | apply pw_below_drewN | apply below_drew1) | exact HB.out)) hb); clear HO103; clear HB; have HO103 := n0_; have HO110 := n1_; have HB := n2_; clear n0_ n1_ n2_; clear hb ho61; obtain ⟨Ao62, co62, eo62⟩ := Kd.R_slice HO110.out; subst eo62) | ((with_reducible refine gate_callee (f := 64) rfl ?_); refine goesL_ (some 26) rfl rfl Try.func64 (by kernel_rfl) rfl #[.slice Ao57 y101.length co57, .slice Ao62 y108.length co62] rfl (by (try simp only [List.map_toArray, List.map_cons, List.map_nil]); first | done | rfl | (simp only [List.length_drop, List.length_take]; rfl)) ?_; (with_reducible refine (resolve_Each.calls k _ _ y101 _ _ y108 t111 t112 _ ?side1 ?side2 ?side3 ?side4 A3.out).mono ?_); (case side1 => repeat (first | exact (Kd.R_reads' HO103.out).2.2 | (with_reducible refine Kd.C_alloc ?_ _) | (with_reducible refine Kd.C_drewN ?_ _) | (with_reducible refine Kd.C_drew ?_))); (case side2 => exact (Kd.R_reads' HO103.out).2.1); (case side3 => repeat (first | exact (Kd.R_reads' HO110.out).2.2 | (with_reducible refine Kd.C_alloc ?_ _) | (with_reducible refine Kd.C_drewN ?_ _) | (with_reducible refine Kd.C_drew ?_))); (case side4 => exact (Kd.R_reads' HO110.out).2.1); rintro e w63 ⟨rfl, hb⟩; refine ⟨_, rfl, ?_⟩; have n0_ := Aside0.mk (Kd.R_below (by (with_reducible repeat (first | apply Kd.R_alloc | apply Kd.R_drewN | apply Kd.R_drew)); exact HO103.out) hb); have n1_ := Aside0.mk (Kd.R_below (by (with_reducible repeat (first | apply Kd.R_alloc | apply Kd.R_drewN | apply Kd.R_drew)); exact HO110.out) hb); have n2_ := Aside0.mk (below_step (by repeat (first | (with_reducible first | exact HB.out | apply below_alloc | apply pw_below_drewN | apply below_drew1) | exact HB.out)) hb); clear HO103; clear HO110; clear HB; have HO103 := n0_; have HO110 := n1_; have HB := n2_; clear n0_ n1_ n2_; (try clear hb); (try clear hb2); (try clear hk); (try clear hi)) | ((with_reducible refine gate_callee (f := 68) rfl ?_); refine goesL_ (some 31) rfl rfl Try.func68 (by kernel_rfl) rfl #[.slice Ao57 y101.length co57, .int .i64 0, .int .i64 1] rfl (by (try simp only [List.map_toArray, List.map_cons, List.map_nil]); first | done | rfl | (simp only [List.length_drop, List.length_take]; rfl)) ?_; (with_reducible refine (resolve_One.calls k _ _ y101 0 1 t113 t114 _ ?side1 ?side2 A4.out).mono ?_); (case side1 => repeat (first | exact (Kd.R_reads' HO103.out).2.2 | (with_reducible refine Kd.C_alloc ?_ _) | (with_reducible refine Kd.C_drewN ?_ _) | (with_reducible refine Kd.C_drew ?_))); (case side2 => exact (Kd.R_reads' HO103.out).2.1); rintro e w64 ⟨v115, rfl, ho0, hb⟩; refine ⟨_, rfl, ?_⟩; have n0_ := Aside0.mk (Kd.R_elder' (by (with_reducible repeat (first | apply Kd.R_alloc | apply Kd.R_drewN | apply Kd.R_drew)); exact HO103.out) (Kd.R_base ho0) hb); have n1_ := Aside0.mk (Kd.R_below (by (with_reducible repeat (first | apply Kd.R_alloc | apply Kd.R_drewN | apply Kd.R_drew)); exact HO110.out) hb); have n2_ := Aside0.mk (Kd.R_lower (Kd.R_new' ho0 (Kd.R_lt (by (with_reducible repeat (first | apply Kd.R_alloc | apply Kd.R_drewN | apply Kd.R_drew)); exact HO103.out))) (below_size (by repeat (first | (with_reducible first | exact HB.out | apply below_alloc | apply pw_below_drewN | apply below_drew1) | exact HB.out)))); have n3_ := Aside0.mk (below_step (by repeat (first | (with_reducible first | exact HB.out | apply below_alloc | apply pw_below_drewN | apply below_drew1) | exact HB.out)) hb); clear HO103; clear HO110; clear HB; have HO103 := n0_; have HO110 := n1_; have HO116 := n2_; have HB := n3_; clear n0_ n1_ n2_ n3_; (try clear hb); (try clear hb2); (try clear hk); (try clear hi); (try clear ho0)))
     go_ret
     exact ⟨by first | rfl | (simp [errW_none, errW_some] <;> rfl) | (simp [*, errW_none, errW_some] <;> rfl), by repeat (first | (with_reducible first | exact HB.out | apply below_alloc | apply pw_below_drewN | apply below_drew1) | exact HB.out)⟩
   ·rw [if_neg c7] at H
    have c7b0 : (t107 == 1) = false := beq_eq_false_iff_ne.mpr c7
    have c7b1 : (t107 != 1) = true := bne_iff_ne.mpr c7
    obtain rfl := Option.some.inj H
    go_enter Try.func60, Try.ntmps60
    go_wp2_with (first | ((with_reducible refine gate_dst (N := 12) rfl ?_); (try (refine gate_guard (by rfl) ?_; dsimp only)); refine Kd.R_lit k120 _ 120 ?hg (N := 12) ?hd (xs := ([(⟨(⟨(⟨#[]⟩ : ByteArray), (⟨#[]⟩ : ByteArray), (⟨#[]⟩ : ByteArray)⟩ : S116), false, (⟨#[120, 10]⟩ : ByteArray), (⟨#[]⟩ : ByteArray), (⟨#[]⟩ : ByteArray), (⟨#[]⟩ : ByteArray), false⟩ : S120), (⟨(⟨(⟨#[]⟩ : ByteArray), (⟨#[]⟩ : ByteArray), (⟨#[]⟩ : ByteArray)⟩ : S116), true, (⟨#[]⟩ : ByteArray), (⟨#[97, 10]⟩ : ByteArray), (⟨#[]⟩ : ByteArray), (⟨#[98, 10]⟩ : ByteArray), false⟩ : S120)] : List (S120))) (inner := [.string (⟨#[]⟩ : ByteArray), .string (⟨#[]⟩ : ByteArray), .string (⟨#[]⟩ : ByteArray), .bool false, .string (⟨#[120, 10]⟩ : ByteArray), .string (⟨#[]⟩ : ByteArray), .string (⟨#[]⟩ : ByteArray), .string (⟨#[]⟩ : ByteArray), .bool false, .string (⟨#[]⟩ : ByteArray), .string (⟨#[]⟩ : ByteArray), .string (⟨#[]⟩ : ByteArray), .bool true, .string (⟨#[]⟩ : ByteArray), .string (⟨#[97, 10]⟩ : ByteArray), .string (⟨#[]⟩ : ByteArray), .string (⟨#[98, 10]⟩ : ByteArray), .bool false]) (ok := fun _ => True) (okp := fun _ => True) ?hr ?hp (fun _ hk => hk) trivial (Below.refl _ _) (Nat.le_refl _) (by simp) ?_; (case hd => rfl); (case hg => rfl); (case hr => first | (go_simp; done) | (go_simp; rfl)); (case hp => exact (Reps.c9 (show Kd.M k120 _ _ _ (⟨(⟨(⟨#[]⟩ : ByteArray), (⟨#[]⟩ : ByteArray), (⟨#[]⟩ : ByteArray)⟩ : S116), false, (⟨#[120, 10]⟩ : ByteArray), (⟨#[]⟩ : ByteArray), (⟨#[]⟩ : ByteArray), (⟨#[]⟩ : ByteArray), false⟩ : S120) [.string (⟨#[]⟩ : ByteArray), .string (⟨#[]⟩ : ByteArray), .string (⟨#[]⟩ : ByteArray), .bool false, .string (⟨#[120, 10]⟩ : ByteArray), .string (⟨#[]⟩ : ByteArray), .string (⟨#[]⟩ : ByteArray), .string (⟨#[]⟩ : ByteArray), .bool false] from (k120_mkM _ _ _ (⟨(⟨(⟨#[]⟩ : ByteArray), (⟨#[]⟩ : ByteArray), (⟨#[]⟩ : ByteArray)⟩ : S116), false, (⟨#[120, 10]⟩ : ByteArray), (⟨#[]⟩ : ByteArray), (⟨#[]⟩ : ByteArray), (⟨#[]⟩ : ByteArray), false⟩ : S120) )) (Reps.c9 (show Kd.M k120 _ _ _ (⟨(⟨(⟨#[]⟩ : ByteArray), (⟨#[]⟩ : ByteArray), (⟨#[]⟩ : ByteArray)⟩ : S116), true, (⟨#[]⟩ : ByteArray), (⟨#[97, 10]⟩ : ByteArray), (⟨#[]⟩ : ByteArray), (⟨#[98, 10]⟩ : ByteArray), false⟩ : S120) [.string (⟨#[]⟩ : ByteArray), .string (⟨#[]⟩ : ByteArray), .string (⟨#[]⟩ : ByteArray), .bool true, .string (⟨#[]⟩ : ByteArray), .string (⟨#[97, 10]⟩ : ByteArray), .string (⟨#[]⟩ : ByteArray), .string (⟨#[98, 10]⟩ : ByteArray), .bool false] from (k120_mkM _ _ _ (⟨(⟨(⟨#[]⟩ : ByteArray), (⟨#[]⟩ : ByteArray), (⟨#[]⟩ : ByteArray)⟩ : S116), true, (⟨#[]⟩ : ByteArray), (⟨#[97, 10]⟩ : ByteArray), (⟨#[]⟩ : ByteArray), (⟨#[98, 10]⟩ : ByteArray), false⟩ : S120) )) (Reps.none _ _)))); intro v102 w65 ho66 hb hg_ hnew_; clear hg_ hnew_; (first | rw [← Ny101.out] at ho66 | (simp only [Int.reduceToNat] at ho66; rw [← Ny101.out] at ho66)); have n0_ := Aside0.mk (Kd.R_lower ho66 (below_size (by repeat (first | (with_reducible first | exact HB.out | apply below_alloc | apply pw_below_drewN | apply below_drew1) | exact HB.out)))); have n1_ := Aside0.mk (below_step (by repeat (first | (with_reducible first | exact HB.out | apply below_alloc | apply pw_below_drewN | apply below_drew1) | exact HB.out)) hb); clear HB; have HO103 := n0_; have HB := n1_; clear n0_ n1_; clear hb ho66; obtain ⟨Ao67, co67, eo67⟩ := Kd.R_slice HO103.out; subst eo67) | ((with_reducible refine gate_callee (f := 62) rfl ?_); refine goesL_ (some 15) rfl rfl Try.func62 (by kernel_rfl) rfl #[.slice Ao67 y101.length co67, .int .i64 3] rfl (by (try simp only [List.map_toArray, List.map_cons, List.map_nil]); first | done | rfl | (simp only [List.length_drop, List.length_take]; rfl)) ?_; (with_reducible refine (resolve_All.calls k _ _ y101 3 t104 t105 _ ?side1 ?side2 A1.out).mono ?_); (case side1 => repeat (first | exact (Kd.R_reads' HO103.out).2.2 | (with_reducible refine Kd.C_alloc ?_ _) | (with_reducible refine Kd.C_drewN ?_ _) | (with_reducible refine Kd.C_drew ?_))); (case side2 => exact (Kd.R_reads' HO103.out).2.1); rintro e w68 ⟨rfl, hb⟩; refine ⟨_, rfl, ?_⟩; have n0_ := Aside0.mk (Kd.R_below (by (with_reducible repeat (first | apply Kd.R_alloc | apply Kd.R_drewN | apply Kd.R_drew)); exact HO103.out) hb); have n1_ := Aside0.mk (below_step (by repeat (first | (with_reducible first | exact HB.out | apply below_alloc | apply pw_below_drewN | apply below_drew1) | exact HB.out)) hb); clear HO103; clear HB; have HO103 := n0_; have HB := n1_; clear n0_ n1_; (try clear hb); (try clear hb2); (try clear hk); (try clear hi)) | ((with_reducible refine gate_callee (f := 62) rfl ?_); refine goesL_ (some 20) rfl rfl Try.func62 (by kernel_rfl) rfl #[.slice Ao67 y101.length co67, .int .i64 2] rfl (by (try simp only [List.map_toArray, List.map_cons, List.map_nil]); first | done | rfl | (simp only [List.length_drop, List.length_take]; rfl)) ?_; (with_reducible refine (resolve_All.calls k _ _ y101 2 t106 t107 _ ?side1 ?side2 A2.out).mono ?_); (case side1 => repeat (first | exact (Kd.R_reads' HO103.out).2.2 | (with_reducible refine Kd.C_alloc ?_ _) | (with_reducible refine Kd.C_drewN ?_ _) | (with_reducible refine Kd.C_drew ?_))); (case side2 => exact (Kd.R_reads' HO103.out).2.1); rintro e w69 ⟨rfl, hb⟩; refine ⟨_, rfl, ?_⟩; have n0_ := Aside0.mk (Kd.R_below (by (with_reducible repeat (first | apply Kd.R_alloc | apply Kd.R_drewN | apply Kd.R_drew)); exact HO103.out) hb); have n1_ := Aside0.mk (below_step (by repeat (first | (with_reducible first | exact HB.out | apply below_alloc | apply pw_below_drewN | apply below_drew1) | exact HB.out)) hb); clear HO103; clear HB; have HO103 := n0_; have HB := n1_; clear n0_ n1_; (try clear hb); (try clear hb2); (try clear hk); (try clear hi)) | ((with_reducible refine gate_dst (N := 25) rfl ?_); (try (refine gate_guard (by rfl) ?_; dsimp only)); refine Kd.R_lit (Kd.int .i64) _ 3 ?hg (N := 25) ?hd (xs := ([1] : List Int)) (inner := [.int .i64 1]) (ok := fun _ => True) (okp := fun _ => True) ?hr ?hp (fun _ hk => hk) trivial (Below.refl _ _) (Nat.le_refl _) (by simp) ?_; (case hd => rfl); (case hg => rfl); (case hr => first | (go_simp; done) | (go_simp; rfl)); (case hp => exact (Reps.one (show Kd.M (Kd.int .i64) _ _ _ 1 [.int .i64 1] from rfl) (Reps.none _ _))); intro v109 w70 ho71 hb hg_ hnew_; clear hg_ hnew_; (first | rw [← Ny108.out] at ho71 | (simp only [Int.reduceToNat] at ho71; rw [← Ny108.out] at ho71)); have n0_ := Aside0.mk (Kd.R_below (by (with_reducible repeat (first | apply Kd.R_alloc | apply Kd.R_drewN | apply Kd.R_drew)); exact HO103.out) hb); have n1_ := Aside0.mk (Kd.R_lower ho71 (below_size (by repeat (first | (with_reducible first | exact HB.out | apply below_alloc | apply pw_below_drewN | apply below_drew1) | exact HB.out)))); have n2_ := Aside0.mk (below_step (by repeat (first | (with_reducible first | exact HB.out | apply below_alloc | apply pw_below_drewN | apply below_drew1) | exact HB.out)) hb); clear HO103; clear HB; have HO103 := n0_; have HO110 := n1_; have HB := n2_; clear n0_ n1_ n2_; clear hb ho71; obtain ⟨Ao72, co72, eo72⟩ := Kd.R_slice HO110.out; subst eo72) | ((with_reducible refine gate_callee (f := 64) rfl ?_); refine goesL_ (some 26) rfl rfl Try.func64 (by kernel_rfl) rfl #[.slice Ao67 y101.length co67, .slice Ao72 y108.length co72] rfl (by (try simp only [List.map_toArray, List.map_cons, List.map_nil]); first | done | rfl | (simp only [List.length_drop, List.length_take]; rfl)) ?_; (with_reducible refine (resolve_Each.calls k _ _ y101 _ _ y108 t111 t112 _ ?side1 ?side2 ?side3 ?side4 A3.out).mono ?_); (case side1 => repeat (first | exact (Kd.R_reads' HO103.out).2.2 | (with_reducible refine Kd.C_alloc ?_ _) | (with_reducible refine Kd.C_drewN ?_ _) | (with_reducible refine Kd.C_drew ?_))); (case side2 => exact (Kd.R_reads' HO103.out).2.1); (case side3 => repeat (first | exact (Kd.R_reads' HO110.out).2.2 | (with_reducible refine Kd.C_alloc ?_ _) | (with_reducible refine Kd.C_drewN ?_ _) | (with_reducible refine Kd.C_drew ?_))); (case side4 => exact (Kd.R_reads' HO110.out).2.1); rintro e w73 ⟨rfl, hb⟩; refine ⟨_, rfl, ?_⟩; have n0_ := Aside0.mk (Kd.R_below (by (with_reducible repeat (first | apply Kd.R_alloc | apply Kd.R_drewN | apply Kd.R_drew)); exact HO103.out) hb); have n1_ := Aside0.mk (Kd.R_below (by (with_reducible repeat (first | apply Kd.R_alloc | apply Kd.R_drewN | apply Kd.R_drew)); exact HO110.out) hb); have n2_ := Aside0.mk (below_step (by repeat (first | (with_reducible first | exact HB.out | apply below_alloc | apply pw_below_drewN | apply below_drew1) | exact HB.out)) hb); clear HO103; clear HO110; clear HB; have HO103 := n0_; have HO110 := n1_; have HB := n2_; clear n0_ n1_ n2_; (try clear hb); (try clear hb2); (try clear hk); (try clear hi)) | ((with_reducible refine gate_callee (f := 68) rfl ?_); refine goesL_ (some 31) rfl rfl Try.func68 (by kernel_rfl) rfl #[.slice Ao67 y101.length co67, .int .i64 0, .int .i64 1] rfl (by (try simp only [List.map_toArray, List.map_cons, List.map_nil]); first | done | rfl | (simp only [List.length_drop, List.length_take]; rfl)) ?_; (with_reducible refine (resolve_One.calls k _ _ y101 0 1 t113 t114 _ ?side1 ?side2 A4.out).mono ?_); (case side1 => repeat (first | exact (Kd.R_reads' HO103.out).2.2 | (with_reducible refine Kd.C_alloc ?_ _) | (with_reducible refine Kd.C_drewN ?_ _) | (with_reducible refine Kd.C_drew ?_))); (case side2 => exact (Kd.R_reads' HO103.out).2.1); rintro e w74 ⟨v115, rfl, ho0, hb⟩; refine ⟨_, rfl, ?_⟩; have n0_ := Aside0.mk (Kd.R_elder' (by (with_reducible repeat (first | apply Kd.R_alloc | apply Kd.R_drewN | apply Kd.R_drew)); exact HO103.out) (Kd.R_base ho0) hb); have n1_ := Aside0.mk (Kd.R_below (by (with_reducible repeat (first | apply Kd.R_alloc | apply Kd.R_drewN | apply Kd.R_drew)); exact HO110.out) hb); have n2_ := Aside0.mk (Kd.R_lower (Kd.R_new' ho0 (Kd.R_lt (by (with_reducible repeat (first | apply Kd.R_alloc | apply Kd.R_drewN | apply Kd.R_drew)); exact HO103.out))) (below_size (by repeat (first | (with_reducible first | exact HB.out | apply below_alloc | apply pw_below_drewN | apply below_drew1) | exact HB.out)))); have n3_ := Aside0.mk (below_step (by repeat (first | (with_reducible first | exact HB.out | apply below_alloc | apply pw_below_drewN | apply below_drew1) | exact HB.out)) hb); clear HO103; clear HO110; clear HB; have HO103 := n0_; have HO110 := n1_; have HO116 := n2_; have HB := n3_; clear n0_ n1_ n2_ n3_; (try clear hb); (try clear hb2); (try clear hk); (try clear hi); (try clear ho0)))
    go_ret
    exact ⟨by first | rfl | (simp [errW_none, errW_some] <;> rfl) | (simp [*, errW_none, errW_some] <;> rfl), by repeat (first | (with_reducible first | exact HB.out | apply below_alloc | apply pw_below_drewN | apply below_drew1) | exact HB.out)⟩
  ·rw [if_neg c6] at H
   have c6b0 : (t104.toList == ([120, 10, 98, 10] : List UInt8)) = false := beq_eq_false_iff_ne.mpr c6
   have c6b1 : (t104.toList != ([120, 10, 98, 10] : List UInt8)) = true := bne_iff_ne.mpr c6
   obtain rfl := Option.some.inj H
   go_enter Try.func60, Try.ntmps60
   go_wp2_with (first | ((with_reducible refine gate_dst (N := 12) rfl ?_); (try (refine gate_guard (by rfl) ?_; dsimp only)); refine Kd.R_lit k120 _ 120 ?hg (N := 12) ?hd (xs := ([(⟨(⟨(⟨#[]⟩ : ByteArray), (⟨#[]⟩ : ByteArray), (⟨#[]⟩ : ByteArray)⟩ : S116), false, (⟨#[120, 10]⟩ : ByteArray), (⟨#[]⟩ : ByteArray), (⟨#[]⟩ : ByteArray), (⟨#[]⟩ : ByteArray), false⟩ : S120), (⟨(⟨(⟨#[]⟩ : ByteArray), (⟨#[]⟩ : ByteArray), (⟨#[]⟩ : ByteArray)⟩ : S116), true, (⟨#[]⟩ : ByteArray), (⟨#[97, 10]⟩ : ByteArray), (⟨#[]⟩ : ByteArray), (⟨#[98, 10]⟩ : ByteArray), false⟩ : S120)] : List (S120))) (inner := [.string (⟨#[]⟩ : ByteArray), .string (⟨#[]⟩ : ByteArray), .string (⟨#[]⟩ : ByteArray), .bool false, .string (⟨#[120, 10]⟩ : ByteArray), .string (⟨#[]⟩ : ByteArray), .string (⟨#[]⟩ : ByteArray), .string (⟨#[]⟩ : ByteArray), .bool false, .string (⟨#[]⟩ : ByteArray), .string (⟨#[]⟩ : ByteArray), .string (⟨#[]⟩ : ByteArray), .bool true, .string (⟨#[]⟩ : ByteArray), .string (⟨#[97, 10]⟩ : ByteArray), .string (⟨#[]⟩ : ByteArray), .string (⟨#[98, 10]⟩ : ByteArray), .bool false]) (ok := fun _ => True) (okp := fun _ => True) ?hr ?hp (fun _ hk => hk) trivial (Below.refl _ _) (Nat.le_refl _) (by simp) ?_; (case hd => rfl); (case hg => rfl); (case hr => first | (go_simp; done) | (go_simp; rfl)); (case hp => exact (Reps.c9 (show Kd.M k120 _ _ _ (⟨(⟨(⟨#[]⟩ : ByteArray), (⟨#[]⟩ : ByteArray), (⟨#[]⟩ : ByteArray)⟩ : S116), false, (⟨#[120, 10]⟩ : ByteArray), (⟨#[]⟩ : ByteArray), (⟨#[]⟩ : ByteArray), (⟨#[]⟩ : ByteArray), false⟩ : S120) [.string (⟨#[]⟩ : ByteArray), .string (⟨#[]⟩ : ByteArray), .string (⟨#[]⟩ : ByteArray), .bool false, .string (⟨#[120, 10]⟩ : ByteArray), .string (⟨#[]⟩ : ByteArray), .string (⟨#[]⟩ : ByteArray), .string (⟨#[]⟩ : ByteArray), .bool false] from (k120_mkM _ _ _ (⟨(⟨(⟨#[]⟩ : ByteArray), (⟨#[]⟩ : ByteArray), (⟨#[]⟩ : ByteArray)⟩ : S116), false, (⟨#[120, 10]⟩ : ByteArray), (⟨#[]⟩ : ByteArray), (⟨#[]⟩ : ByteArray), (⟨#[]⟩ : ByteArray), false⟩ : S120) )) (Reps.c9 (show Kd.M k120 _ _ _ (⟨(⟨(⟨#[]⟩ : ByteArray), (⟨#[]⟩ : ByteArray), (⟨#[]⟩ : ByteArray)⟩ : S116), true, (⟨#[]⟩ : ByteArray), (⟨#[97, 10]⟩ : ByteArray), (⟨#[]⟩ : ByteArray), (⟨#[98, 10]⟩ : ByteArray), false⟩ : S120) [.string (⟨#[]⟩ : ByteArray), .string (⟨#[]⟩ : ByteArray), .string (⟨#[]⟩ : ByteArray), .bool true, .string (⟨#[]⟩ : ByteArray), .string (⟨#[97, 10]⟩ : ByteArray), .string (⟨#[]⟩ : ByteArray), .string (⟨#[98, 10]⟩ : ByteArray), .bool false] from (k120_mkM _ _ _ (⟨(⟨(⟨#[]⟩ : ByteArray), (⟨#[]⟩ : ByteArray), (⟨#[]⟩ : ByteArray)⟩ : S116), true, (⟨#[]⟩ : ByteArray), (⟨#[97, 10]⟩ : ByteArray), (⟨#[]⟩ : ByteArray), (⟨#[98, 10]⟩ : ByteArray), false⟩ : S120) )) (Reps.none _ _)))); intro v102 w75 ho76 hb hg_ hnew_; clear hg_ hnew_; (first | rw [← Ny101.out] at ho76 | (simp only [Int.reduceToNat] at ho76; rw [← Ny101.out] at ho76)); have n0_ := Aside0.mk (Kd.R_lower ho76 (below_size (by repeat (first | (with_reducible first | exact HB.out | apply below_alloc | apply pw_below_drewN | apply below_drew1) | exact HB.out)))); have n1_ := Aside0.mk (below_step (by repeat (first | (with_reducible first | exact HB.out | apply below_alloc | apply pw_below_drewN | apply below_drew1) | exact HB.out)) hb); clear HB; have HO103 := n0_; have HB := n1_; clear n0_ n1_; clear hb ho76; obtain ⟨Ao77, co77, eo77⟩ := Kd.R_slice HO103.out; subst eo77) | ((with_reducible refine gate_callee (f := 62) rfl ?_); refine goesL_ (some 15) rfl rfl Try.func62 (by kernel_rfl) rfl #[.slice Ao77 y101.length co77, .int .i64 3] rfl (by (try simp only [List.map_toArray, List.map_cons, List.map_nil]); first | done | rfl | (simp only [List.length_drop, List.length_take]; rfl)) ?_; (with_reducible refine (resolve_All.calls k _ _ y101 3 t104 t105 _ ?side1 ?side2 A1.out).mono ?_); (case side1 => repeat (first | exact (Kd.R_reads' HO103.out).2.2 | (with_reducible refine Kd.C_alloc ?_ _) | (with_reducible refine Kd.C_drewN ?_ _) | (with_reducible refine Kd.C_drew ?_))); (case side2 => exact (Kd.R_reads' HO103.out).2.1); rintro e w78 ⟨rfl, hb⟩; refine ⟨_, rfl, ?_⟩; have n0_ := Aside0.mk (Kd.R_below (by (with_reducible repeat (first | apply Kd.R_alloc | apply Kd.R_drewN | apply Kd.R_drew)); exact HO103.out) hb); have n1_ := Aside0.mk (below_step (by repeat (first | (with_reducible first | exact HB.out | apply below_alloc | apply pw_below_drewN | apply below_drew1) | exact HB.out)) hb); clear HO103; clear HB; have HO103 := n0_; have HB := n1_; clear n0_ n1_; (try clear hb); (try clear hb2); (try clear hk); (try clear hi)) | ((with_reducible refine gate_callee (f := 62) rfl ?_); refine goesL_ (some 20) rfl rfl Try.func62 (by kernel_rfl) rfl #[.slice Ao77 y101.length co77, .int .i64 2] rfl (by (try simp only [List.map_toArray, List.map_cons, List.map_nil]); first | done | rfl | (simp only [List.length_drop, List.length_take]; rfl)) ?_; (with_reducible refine (resolve_All.calls k _ _ y101 2 t106 t107 _ ?side1 ?side2 A2.out).mono ?_); (case side1 => repeat (first | exact (Kd.R_reads' HO103.out).2.2 | (with_reducible refine Kd.C_alloc ?_ _) | (with_reducible refine Kd.C_drewN ?_ _) | (with_reducible refine Kd.C_drew ?_))); (case side2 => exact (Kd.R_reads' HO103.out).2.1); rintro e w79 ⟨rfl, hb⟩; refine ⟨_, rfl, ?_⟩; have n0_ := Aside0.mk (Kd.R_below (by (with_reducible repeat (first | apply Kd.R_alloc | apply Kd.R_drewN | apply Kd.R_drew)); exact HO103.out) hb); have n1_ := Aside0.mk (below_step (by repeat (first | (with_reducible first | exact HB.out | apply below_alloc | apply pw_below_drewN | apply below_drew1) | exact HB.out)) hb); clear HO103; clear HB; have HO103 := n0_; have HB := n1_; clear n0_ n1_; (try clear hb); (try clear hb2); (try clear hk); (try clear hi)) | ((with_reducible refine gate_dst (N := 25) rfl ?_); (try (refine gate_guard (by rfl) ?_; dsimp only)); refine Kd.R_lit (Kd.int .i64) _ 3 ?hg (N := 25) ?hd (xs := ([1] : List Int)) (inner := [.int .i64 1]) (ok := fun _ => True) (okp := fun _ => True) ?hr ?hp (fun _ hk => hk) trivial (Below.refl _ _) (Nat.le_refl _) (by simp) ?_; (case hd => rfl); (case hg => rfl); (case hr => first | (go_simp; done) | (go_simp; rfl)); (case hp => exact (Reps.one (show Kd.M (Kd.int .i64) _ _ _ 1 [.int .i64 1] from rfl) (Reps.none _ _))); intro v109 w80 ho81 hb hg_ hnew_; clear hg_ hnew_; (first | rw [← Ny108.out] at ho81 | (simp only [Int.reduceToNat] at ho81; rw [← Ny108.out] at ho81)); have n0_ := Aside0.mk (Kd.R_below (by (with_reducible repeat (first | apply Kd.R_alloc | apply Kd.R_drewN | apply Kd.R_drew)); exact HO103.out) hb); have n1_ := Aside0.mk (Kd.R_lower ho81 (below_size (by repeat (first | (with_reducible first | exact HB.out | apply below_alloc | apply pw_below_drewN | apply below_drew1) | exact HB.out)))); have n2_ := Aside0.mk (below_step (by repeat (first | (with_reducible first | exact HB.out | apply below_alloc | apply pw_below_drewN | apply below_drew1) | exact HB.out)) hb); clear HO103; clear HB; have HO103 := n0_; have HO110 := n1_; have HB := n2_; clear n0_ n1_ n2_; clear hb ho81; obtain ⟨Ao82, co82, eo82⟩ := Kd.R_slice HO110.out; subst eo82) | ((with_reducible refine gate_callee (f := 64) rfl ?_); refine goesL_ (some 26) rfl rfl Try.func64 (by kernel_rfl) rfl #[.slice Ao77 y101.length co77, .slice Ao82 y108.length co82] rfl (by (try simp only [List.map_toArray, List.map_cons, List.map_nil]); first | done | rfl | (simp only [List.length_drop, List.length_take]; rfl)) ?_; (with_reducible refine (resolve_Each.calls k _ _ y101 _ _ y108 t111 t112 _ ?side1 ?side2 ?side3 ?side4 A3.out).mono ?_); (case side1 => repeat (first | exact (Kd.R_reads' HO103.out).2.2 | (with_reducible refine Kd.C_alloc ?_ _) | (with_reducible refine Kd.C_drewN ?_ _) | (with_reducible refine Kd.C_drew ?_))); (case side2 => exact (Kd.R_reads' HO103.out).2.1); (case side3 => repeat (first | exact (Kd.R_reads' HO110.out).2.2 | (with_reducible refine Kd.C_alloc ?_ _) | (with_reducible refine Kd.C_drewN ?_ _) | (with_reducible refine Kd.C_drew ?_))); (case side4 => exact (Kd.R_reads' HO110.out).2.1); rintro e w83 ⟨rfl, hb⟩; refine ⟨_, rfl, ?_⟩; have n0_ := Aside0.mk (Kd.R_below (by (with_reducible repeat (first | apply Kd.R_alloc | apply Kd.R_drewN | apply Kd.R_drew)); exact HO103.out) hb); have n1_ := Aside0.mk (Kd.R_below (by (with_reducible repeat (first | apply Kd.R_alloc | apply Kd.R_drewN | apply Kd.R_drew)); exact HO110.out) hb); have n2_ := Aside0.mk (below_step (by repeat (first | (with_reducible first | exact HB.out | apply below_alloc | apply pw_below_drewN | apply below_drew1) | exact HB.out)) hb); clear HO103; clear HO110; clear HB; have HO103 := n0_; have HO110 := n1_; have HB := n2_; clear n0_ n1_ n2_; (try clear hb); (try clear hb2); (try clear hk); (try clear hi)) | ((with_reducible refine gate_callee (f := 68) rfl ?_); refine goesL_ (some 31) rfl rfl Try.func68 (by kernel_rfl) rfl #[.slice Ao77 y101.length co77, .int .i64 0, .int .i64 1] rfl (by (try simp only [List.map_toArray, List.map_cons, List.map_nil]); first | done | rfl | (simp only [List.length_drop, List.length_take]; rfl)) ?_; (with_reducible refine (resolve_One.calls k _ _ y101 0 1 t113 t114 _ ?side1 ?side2 A4.out).mono ?_); (case side1 => repeat (first | exact (Kd.R_reads' HO103.out).2.2 | (with_reducible refine Kd.C_alloc ?_ _) | (with_reducible refine Kd.C_drewN ?_ _) | (with_reducible refine Kd.C_drew ?_))); (case side2 => exact (Kd.R_reads' HO103.out).2.1); rintro e w84 ⟨v115, rfl, ho0, hb⟩; refine ⟨_, rfl, ?_⟩; have n0_ := Aside0.mk (Kd.R_elder' (by (with_reducible repeat (first | apply Kd.R_alloc | apply Kd.R_drewN | apply Kd.R_drew)); exact HO103.out) (Kd.R_base ho0) hb); have n1_ := Aside0.mk (Kd.R_below (by (with_reducible repeat (first | apply Kd.R_alloc | apply Kd.R_drewN | apply Kd.R_drew)); exact HO110.out) hb); have n2_ := Aside0.mk (Kd.R_lower (Kd.R_new' ho0 (Kd.R_lt (by (with_reducible repeat (first | apply Kd.R_alloc | apply Kd.R_drewN | apply Kd.R_drew)); exact HO103.out))) (below_size (by repeat (first | (with_reducible first | exact HB.out | apply below_alloc | apply pw_below_drewN | apply below_drew1) | exact HB.out)))); have n3_ := Aside0.mk (below_step (by repeat (first | (with_reducible first | exact HB.out | apply below_alloc | apply pw_below_drewN | apply below_drew1) | exact HB.out)) hb); clear HO103; clear HO110; clear HB; have HO103 := n0_; have HO110 := n1_; have HO116 := n2_; have HB := n3_; clear n0_ n1_ n2_ n3_; (try clear hb); (try clear hb2); (try clear hk); (try clear hi); (try clear ho0)))
   go_ret
   exact ⟨by first | rfl | (simp [errW_none, errW_some] <;> rfl) | (simp [*, errW_none, errW_some] <;> rfl), by repeat (first | (with_reducible first | exact HB.out | apply below_alloc | apply pw_below_drewN | apply below_drew1) | exact HB.out)⟩
 ·rw [if_neg c5] at H
  have c5b0 : (t105 == 0) = false := beq_eq_false_iff_ne.mpr c5
  have c5b1 : (t105 != 0) = true := bne_iff_ne.mpr c5
  obtain rfl := Option.some.inj H
  go_enter Try.func60, Try.ntmps60
  go_wp2_with (first | ((with_reducible refine gate_dst (N := 12) rfl ?_); (try (refine gate_guard (by rfl) ?_; dsimp only)); refine Kd.R_lit k120 _ 120 ?hg (N := 12) ?hd (xs := ([(⟨(⟨(⟨#[]⟩ : ByteArray), (⟨#[]⟩ : ByteArray), (⟨#[]⟩ : ByteArray)⟩ : S116), false, (⟨#[120, 10]⟩ : ByteArray), (⟨#[]⟩ : ByteArray), (⟨#[]⟩ : ByteArray), (⟨#[]⟩ : ByteArray), false⟩ : S120), (⟨(⟨(⟨#[]⟩ : ByteArray), (⟨#[]⟩ : ByteArray), (⟨#[]⟩ : ByteArray)⟩ : S116), true, (⟨#[]⟩ : ByteArray), (⟨#[97, 10]⟩ : ByteArray), (⟨#[]⟩ : ByteArray), (⟨#[98, 10]⟩ : ByteArray), false⟩ : S120)] : List (S120))) (inner := [.string (⟨#[]⟩ : ByteArray), .string (⟨#[]⟩ : ByteArray), .string (⟨#[]⟩ : ByteArray), .bool false, .string (⟨#[120, 10]⟩ : ByteArray), .string (⟨#[]⟩ : ByteArray), .string (⟨#[]⟩ : ByteArray), .string (⟨#[]⟩ : ByteArray), .bool false, .string (⟨#[]⟩ : ByteArray), .string (⟨#[]⟩ : ByteArray), .string (⟨#[]⟩ : ByteArray), .bool true, .string (⟨#[]⟩ : ByteArray), .string (⟨#[97, 10]⟩ : ByteArray), .string (⟨#[]⟩ : ByteArray), .string (⟨#[98, 10]⟩ : ByteArray), .bool false]) (ok := fun _ => True) (okp := fun _ => True) ?hr ?hp (fun _ hk => hk) trivial (Below.refl _ _) (Nat.le_refl _) (by simp) ?_; (case hd => rfl); (case hg => rfl); (case hr => first | (go_simp; done) | (go_simp; rfl)); (case hp => exact (Reps.c9 (show Kd.M k120 _ _ _ (⟨(⟨(⟨#[]⟩ : ByteArray), (⟨#[]⟩ : ByteArray), (⟨#[]⟩ : ByteArray)⟩ : S116), false, (⟨#[120, 10]⟩ : ByteArray), (⟨#[]⟩ : ByteArray), (⟨#[]⟩ : ByteArray), (⟨#[]⟩ : ByteArray), false⟩ : S120) [.string (⟨#[]⟩ : ByteArray), .string (⟨#[]⟩ : ByteArray), .string (⟨#[]⟩ : ByteArray), .bool false, .string (⟨#[120, 10]⟩ : ByteArray), .string (⟨#[]⟩ : ByteArray), .string (⟨#[]⟩ : ByteArray), .string (⟨#[]⟩ : ByteArray), .bool false] from (k120_mkM _ _ _ (⟨(⟨(⟨#[]⟩ : ByteArray), (⟨#[]⟩ : ByteArray), (⟨#[]⟩ : ByteArray)⟩ : S116), false, (⟨#[120, 10]⟩ : ByteArray), (⟨#[]⟩ : ByteArray), (⟨#[]⟩ : ByteArray), (⟨#[]⟩ : ByteArray), false⟩ : S120) )) (Reps.c9 (show Kd.M k120 _ _ _ (⟨(⟨(⟨#[]⟩ : ByteArray), (⟨#[]⟩ : ByteArray), (⟨#[]⟩ : ByteArray)⟩ : S116), true, (⟨#[]⟩ : ByteArray), (⟨#[97, 10]⟩ : ByteArray), (⟨#[]⟩ : ByteArray), (⟨#[98, 10]⟩ : ByteArray), false⟩ : S120) [.string (⟨#[]⟩ : ByteArray), .string (⟨#[]⟩ : ByteArray), .string (⟨#[]⟩ : ByteArray), .bool true, .string (⟨#[]⟩ : ByteArray), .string (⟨#[97, 10]⟩ : ByteArray), .string (⟨#[]⟩ : ByteArray), .string (⟨#[98, 10]⟩ : ByteArray), .bool false] from (k120_mkM _ _ _ (⟨(⟨(⟨#[]⟩ : ByteArray), (⟨#[]⟩ : ByteArray), (⟨#[]⟩ : ByteArray)⟩ : S116), true, (⟨#[]⟩ : ByteArray), (⟨#[97, 10]⟩ : ByteArray), (⟨#[]⟩ : ByteArray), (⟨#[98, 10]⟩ : ByteArray), false⟩ : S120) )) (Reps.none _ _)))); intro v102 w85 ho86 hb hg_ hnew_; clear hg_ hnew_; (first | rw [← Ny101.out] at ho86 | (simp only [Int.reduceToNat] at ho86; rw [← Ny101.out] at ho86)); have n0_ := Aside0.mk (Kd.R_lower ho86 (below_size (by repeat (first | (with_reducible first | exact HB.out | apply below_alloc | apply pw_below_drewN | apply below_drew1) | exact HB.out)))); have n1_ := Aside0.mk (below_step (by repeat (first | (with_reducible first | exact HB.out | apply below_alloc | apply pw_below_drewN | apply below_drew1) | exact HB.out)) hb); clear HB; have HO103 := n0_; have HB := n1_; clear n0_ n1_; clear hb ho86; obtain ⟨Ao87, co87, eo87⟩ := Kd.R_slice HO103.out; subst eo87) | ((with_reducible refine gate_callee (f := 62) rfl ?_); refine goesL_ (some 15) rfl rfl Try.func62 (by kernel_rfl) rfl #[.slice Ao87 y101.length co87, .int .i64 3] rfl (by (try simp only [List.map_toArray, List.map_cons, List.map_nil]); first | done | rfl | (simp only [List.length_drop, List.length_take]; rfl)) ?_; (with_reducible refine (resolve_All.calls k _ _ y101 3 t104 t105 _ ?side1 ?side2 A1.out).mono ?_); (case side1 => repeat (first | exact (Kd.R_reads' HO103.out).2.2 | (with_reducible refine Kd.C_alloc ?_ _) | (with_reducible refine Kd.C_drewN ?_ _) | (with_reducible refine Kd.C_drew ?_))); (case side2 => exact (Kd.R_reads' HO103.out).2.1); rintro e w88 ⟨rfl, hb⟩; refine ⟨_, rfl, ?_⟩; have n0_ := Aside0.mk (Kd.R_below (by (with_reducible repeat (first | apply Kd.R_alloc | apply Kd.R_drewN | apply Kd.R_drew)); exact HO103.out) hb); have n1_ := Aside0.mk (below_step (by repeat (first | (with_reducible first | exact HB.out | apply below_alloc | apply pw_below_drewN | apply below_drew1) | exact HB.out)) hb); clear HO103; clear HB; have HO103 := n0_; have HB := n1_; clear n0_ n1_; (try clear hb); (try clear hb2); (try clear hk); (try clear hi)) | ((with_reducible refine gate_callee (f := 62) rfl ?_); refine goesL_ (some 20) rfl rfl Try.func62 (by kernel_rfl) rfl #[.slice Ao87 y101.length co87, .int .i64 2] rfl (by (try simp only [List.map_toArray, List.map_cons, List.map_nil]); first | done | rfl | (simp only [List.length_drop, List.length_take]; rfl)) ?_; (with_reducible refine (resolve_All.calls k _ _ y101 2 t106 t107 _ ?side1 ?side2 A2.out).mono ?_); (case side1 => repeat (first | exact (Kd.R_reads' HO103.out).2.2 | (with_reducible refine Kd.C_alloc ?_ _) | (with_reducible refine Kd.C_drewN ?_ _) | (with_reducible refine Kd.C_drew ?_))); (case side2 => exact (Kd.R_reads' HO103.out).2.1); rintro e w89 ⟨rfl, hb⟩; refine ⟨_, rfl, ?_⟩; have n0_ := Aside0.mk (Kd.R_below (by (with_reducible repeat (first | apply Kd.R_alloc | apply Kd.R_drewN | apply Kd.R_drew)); exact HO103.out) hb); have n1_ := Aside0.mk (below_step (by repeat (first | (with_reducible first | exact HB.out | apply below_alloc | apply pw_below_drewN | apply below_drew1) | exact HB.out)) hb); clear HO103; clear HB; have HO103 := n0_; have HB := n1_; clear n0_ n1_; (try clear hb); (try clear hb2); (try clear hk); (try clear hi)) | ((with_reducible refine gate_dst (N := 25) rfl ?_); (try (refine gate_guard (by rfl) ?_; dsimp only)); refine Kd.R_lit (Kd.int .i64) _ 3 ?hg (N := 25) ?hd (xs := ([1] : List Int)) (inner := [.int .i64 1]) (ok := fun _ => True) (okp := fun _ => True) ?hr ?hp (fun _ hk => hk) trivial (Below.refl _ _) (Nat.le_refl _) (by simp) ?_; (case hd => rfl); (case hg => rfl); (case hr => first | (go_simp; done) | (go_simp; rfl)); (case hp => exact (Reps.one (show Kd.M (Kd.int .i64) _ _ _ 1 [.int .i64 1] from rfl) (Reps.none _ _))); intro v109 w90 ho91 hb hg_ hnew_; clear hg_ hnew_; (first | rw [← Ny108.out] at ho91 | (simp only [Int.reduceToNat] at ho91; rw [← Ny108.out] at ho91)); have n0_ := Aside0.mk (Kd.R_below (by (with_reducible repeat (first | apply Kd.R_alloc | apply Kd.R_drewN | apply Kd.R_drew)); exact HO103.out) hb); have n1_ := Aside0.mk (Kd.R_lower ho91 (below_size (by repeat (first | (with_reducible first | exact HB.out | apply below_alloc | apply pw_below_drewN | apply below_drew1) | exact HB.out)))); have n2_ := Aside0.mk (below_step (by repeat (first | (with_reducible first | exact HB.out | apply below_alloc | apply pw_below_drewN | apply below_drew1) | exact HB.out)) hb); clear HO103; clear HB; have HO103 := n0_; have HO110 := n1_; have HB := n2_; clear n0_ n1_ n2_; clear hb ho91; obtain ⟨Ao92, co92, eo92⟩ := Kd.R_slice HO110.out; subst eo92) | ((with_reducible refine gate_callee (f := 64) rfl ?_); refine goesL_ (some 26) rfl rfl Try.func64 (by kernel_rfl) rfl #[.slice Ao87 y101.length co87, .slice Ao92 y108.length co92] rfl (by (try simp only [List.map_toArray, List.map_cons, List.map_nil]); first | done | rfl | (simp only [List.length_drop, List.length_take]; rfl)) ?_; (with_reducible refine (resolve_Each.calls k _ _ y101 _ _ y108 t111 t112 _ ?side1 ?side2 ?side3 ?side4 A3.out).mono ?_); (case side1 => repeat (first | exact (Kd.R_reads' HO103.out).2.2 | (with_reducible refine Kd.C_alloc ?_ _) | (with_reducible refine Kd.C_drewN ?_ _) | (with_reducible refine Kd.C_drew ?_))); (case side2 => exact (Kd.R_reads' HO103.out).2.1); (case side3 => repeat (first | exact (Kd.R_reads' HO110.out).2.2 | (with_reducible refine Kd.C_alloc ?_ _) | (with_reducible refine Kd.C_drewN ?_ _) | (with_reducible refine Kd.C_drew ?_))); (case side4 => exact (Kd.R_reads' HO110.out).2.1); rintro e w93 ⟨rfl, hb⟩; refine ⟨_, rfl, ?_⟩; have n0_ := Aside0.mk (Kd.R_below (by (with_reducible repeat (first | apply Kd.R_alloc | apply Kd.R_drewN | apply Kd.R_drew)); exact HO103.out) hb); have n1_ := Aside0.mk (Kd.R_below (by (with_reducible repeat (first | apply Kd.R_alloc | apply Kd.R_drewN | apply Kd.R_drew)); exact HO110.out) hb); have n2_ := Aside0.mk (below_step (by repeat (first | (with_reducible first | exact HB.out | apply below_alloc | apply pw_below_drewN | apply below_drew1) | exact HB.out)) hb); clear HO103; clear HO110; clear HB; have HO103 := n0_; have HO110 := n1_; have HB := n2_; clear n0_ n1_ n2_; (try clear hb); (try clear hb2); (try clear hk); (try clear hi)) | ((with_reducible refine gate_callee (f := 68) rfl ?_); refine goesL_ (some 31) rfl rfl Try.func68 (by kernel_rfl) rfl #[.slice Ao87 y101.length co87, .int .i64 0, .int .i64 1] rfl (by (try simp only [List.map_toArray, List.map_cons, List.map_nil]); first | done | rfl | (simp only [List.length_drop, List.length_take]; rfl)) ?_; (with_reducible refine (resolve_One.calls k _ _ y101 0 1 t113 t114 _ ?side1 ?side2 A4.out).mono ?_); (case side1 => repeat (first | exact (Kd.R_reads' HO103.out).2.2 | (with_reducible refine Kd.C_alloc ?_ _) | (with_reducible refine Kd.C_drewN ?_ _) | (with_reducible refine Kd.C_drew ?_))); (case side2 => exact (Kd.R_reads' HO103.out).2.1); rintro e w94 ⟨v115, rfl, ho0, hb⟩; refine ⟨_, rfl, ?_⟩; have n0_ := Aside0.mk (Kd.R_elder' (by (with_reducible repeat (first | apply Kd.R_alloc | apply Kd.R_drewN | apply Kd.R_drew)); exact HO103.out) (Kd.R_base ho0) hb); have n1_ := Aside0.mk (Kd.R_below (by (with_reducible repeat (first | apply Kd.R_alloc | apply Kd.R_drewN | apply Kd.R_drew)); exact HO110.out) hb); have n2_ := Aside0.mk (Kd.R_lower (Kd.R_new' ho0 (Kd.R_lt (by (with_reducible repeat (first | apply Kd.R_alloc | apply Kd.R_drewN | apply Kd.R_drew)); exact HO103.out))) (below_size (by repeat (first | (with_reducible first | exact HB.out | apply below_alloc | apply pw_below_drewN | apply below_drew1) | exact HB.out)))); have n3_ := Aside0.mk (below_step (by repeat (first | (with_reducible first | exact HB.out | apply below_alloc | apply pw_below_drewN | apply below_drew1) | exact HB.out)) hb); clear HO103; clear HO110; clear HB; have HO103 := n0_; have HO110 := n1_; have HO116 := n2_; have HB := n3_; clear n0_ n1_ n2_ n3_; (try clear hb); (try clear hb2); (try clear hk); (try clear hi); (try clear ho0)))
  go_ret
  exact ⟨by first | rfl | (simp [errW_none, errW_some] <;> rfl) | (simp [*, errW_none, errW_some] <;> rfl), by repeat (first | (with_reducible first | exact HB.out | apply below_alloc | apply pw_below_drewN | apply below_drew1) | exact HB.out)⟩
end Go.Proofs.Ytadafplbgophfaa.PA
end
section
namespace Go.Proofs.Ytadafplbgophfaa.PA
open Go.RowKit Go.Proofs.YtadafplbgophfaaW.PrintWords Go.Proofs.YtadafplbgophfaaW.PrintLast Go.Proofs.YtadafplbgophfaaW.PrintMore
attribute [local go_sem] max2_int min2_int max_two min_two max_three min_three max_four min_four   -- for this text's walks alone
set_option linter.unusedVariables false
set_option linter.unusedSimpArgs false
end Go.Proofs.Ytadafplbgophfaa.PA
end
section
namespace Go.Proofs.Ytadafplbgophfaa.Pure
namespace Res
open Go.RowKit Go.Proofs.Ytadafplbgophfaa.PA Go.Proofs.YtadafplbgophfaaW.PrintWords Go.Proofs.YtadafplbgophfaaW.PrintLast Go.Proofs.YtadafplbgophfaaW.PrintMore
theorem To_go (d : List S123) (hd : d.length ≤ 60) : ∀ (n i : Nat) (acc : List S120), d.length - i ≤ n → i ≤ d.length → acc.length ≤ i → Ev (fun k => tripartitelaw07_To.l0 k d acc i) (acc ++ (d.drop i).map of123) := by
  intro n
  induction n with
  | zero =>
    intro i acc h1 h2 h3
    refine Ev.step (f := fun _ => some acc) (fun k => ?_) ?_
    · simp only [tripartitelaw07_To.l0]; rw [if_neg (by omega)]
    · rw [List.drop_of_length_le (by omega), List.map_nil, List.append_nil]; exact Ev.now _
  | succ n ih =>
    intro i acc h1 h2 h3
    by_cases hi : i < d.length
    · rw [List.drop_eq_getElem_cons hi]
      have rdp := rd123 hi
      have ih1 := ih (i + 1) (acc ++ [of123 d[i]]) (by omega) (by omega) (by simp; omega)
      generalize d[i] = p at rdp ih1
      refine Ev.step (f := fun k => tripartitelaw07_To.l0 k d (acc ++ [of123 p]) ((i : Int) + 1)) (fun k => ?_) ?_
      · simp only [tripartitelaw07_To.l0]; rw [if_pos (by omega), if_pos (by omega), rdp, w64 (by omega) (by omega)]
        unfold tripartitelaw07_part.f
        rw [Option.bind_some, if_pos (by omega)]; rfl
      · rw [List.append_assoc, List.singleton_append] at ih1
        rw [List.map_cons]
        exact ih1
    · refine Ev.step (f := fun _ => some acc) (fun k => ?_) ?_
      · simp only [tripartitelaw07_To.l0]; rw [if_neg (by omega)]
      · rw [List.drop_of_length_le (by omega), List.map_nil, List.append_nil]; exact Ev.now _
theorem To_ok (d : List S123) (hd : d.length ≤ 60) : Ev (fun k => tripartitelaw07_To.f k d) (d.map of123) := by
  have := To_go d hd d.length 0 [] (by omega) (by omega) (by simp)
  rw [List.drop_zero, List.nil_append] at this
  exact this
def from120 (p : S120) : S123 := ⟨p.f0.f0, p.f0.f1, p.f0.f2, p.f1, p.f2, p.f3, p.f4, p.f5, p.f6⟩
theorem From_go (d : List S120) (hd : d.length ≤ 1000) : ∀ (n i : Nat) (acc : List S123), d.length - i ≤ n → i ≤ d.length → acc.length ≤ i → Ev (fun k => tripartitelaw07_From.l0 k d acc i) (acc ++ (d.drop i).map from120) := by
  intro n
  induction n with
  | zero =>
    intro i acc h1 h2 h3
    refine Ev.step (f := fun _ => some acc) (fun k => ?_) ?_
    · simp only [tripartitelaw07_From.l0]; rw [if_neg (by omega)]
    · rw [List.drop_of_length_le (by omega), List.map_nil, List.append_nil]; exact Ev.now _
  | succ n ih =>
    intro i acc h1 h2 h3
    by_cases hi : i < d.length
    · rw [List.drop_eq_getElem_cons hi]
      have rdp := rd120 hi
      have ih1 := ih (i + 1) (acc ++ [from120 d[i]]) (by omega) (by omega) (by simp; omega)
      generalize d[i] = p at rdp ih1
      refine Ev.step (f := fun k => tripartitelaw07_From.l0 k d (acc ++ [from120 p]) ((i : Int) + 1)) (fun k => ?_) ?_
      · simp only [tripartitelaw07_From.l0]; rw [if_pos (by omega), if_pos (by omega), rdp, w64 (by omega) (by omega)]
        unfold tripartitelaw07_one.f
        rw [Option.bind_some, if_pos (by omega)]; rfl
      · rw [List.append_assoc, List.singleton_append] at ih1
        rw [List.map_cons]
        exact ih1
    · refine Ev.step (f := fun _ => some acc) (fun k => ?_) ?_
      · simp only [tripartitelaw07_From.l0]; rw [if_neg (by omega)]
      · rw [List.drop_of_length_le (by omega), List.map_nil, List.append_nil]; exact Ev.now _
theorem From_ok (d : List S120) (hd : d.length ≤ 1000) : Ev (fun k => tripartitelaw07_From.f k d) (d.map from120) := by
  have := From_go d hd d.length 0 [] (by omega) (by omega) (by simp)
  rw [List.drop_zero, List.nil_append] at this
  exact this
theorem from_of (d : List S123) : (d.map of123).map from120 = d := by
  rw [List.map_map]
  have : from120 ∘ of123 = id := by funext p; rfl
  rw [this, List.map_id]
theorem Same_go (d : List S123) (hd : d.length ≤ 1000) : ∀ (n i : Nat), d.length - i ≤ n → i ≤ d.length → Ev (fun k => tripartiteref07_Same.l0 k d d i) true := by
  intro n
  induction n with
  | zero =>
    intro i h1 h2
    refine Ev.step (f := fun _ => some true) (fun k => ?_) (Ev.now _)
    simp only [tripartiteref07_Same.l0]; rw [if_neg (by omega)]
  | succ n ih =>
    intro i h1 h2
    by_cases hi : i < d.length
    · refine Ev.step (f := fun k => tripartiteref07_Same.l0 k d d ((i : Int) + 1)) (fun k => ?_) (ih (i + 1) (by omega) (by omega))
      simp only [tripartiteref07_Same.l0]; rw [if_pos (by omega), if_pos (by omega), if_pos (by omega), w64 (by omega) (by omega)]
      simp only [beq_self_eq_true, Bool.not_true, Bool.or_false, Bool.false_eq_true, if_false]
    · refine Ev.step (f := fun _ => some true) (fun k => ?_) (Ev.now _)
      simp only [tripartiteref07_Same.l0]; rw [if_neg (by omega)]
theorem Same_ok (d : List S123) (hd : d.length ≤ 1000) : Ev (fun k => tripartiteref07_Same.f k d d) true := by
  refine Ev.congr (f := fun k => tripartiteref07_Same.l0 k d d ((0 : Nat) : Int)) (fun k => ?_) (Same_go d hd d.length 0 (by omega) (by omega))
  unfold tripartiteref07_Same.f
  rw [if_pos rfl]; rfl
def tot : List S123 → Nat
  | [] => 0
  | p :: d => szs p + tot d
theorem tot_mem {d : List S123} : ∀ p ∈ d, szs p ≤ tot d := by
  induction d with
  | nil => intro p hp; cases hp
  | cons q d ih =>
    intro p hp
    unfold tot
    rcases List.mem_cons.1 hp with rfl | h
    · omega
    · have := ih p h; omega
def few (d : List S123) : Bool := decide (d.length ≤ 60 ∧ tot d ≤ 3000)
theorem Few_long (d : List S123) (hd : 60 < d.length) (hl : d.length ≤ 1000000000000000) : ∀ (n i : Nat) (x : Int), d.length - i ≤ n → i ≤ d.length → Ev (fun k => tripartitelaw07_Few.l0 k d x i) false := by
  intro n
  induction n with
  | zero =>
    intro i x h1 h2
    refine Ev.step (f := fun _ => some false) (fun k => ?_) (Ev.now _)
    simp only [tripartitelaw07_Few.l0]; rw [if_neg (by omega), if_neg (by omega)]
  | succ n ih =>
    intro i x h1 h2
    by_cases hi : i < d.length
    · obtain ⟨y, hy⟩ : ∃ y, ∀ k, tripartitelaw07_Few.l0 (k + 1) d x i = tripartitelaw07_Few.l0 k d y ((i + 1 : Nat) : Int) := ⟨_, fun k => by simp only [tripartitelaw07_Few.l0]; rw [if_pos (by omega), if_pos (by omega), w64 (x := (i : Int) + 1) (by omega) (by omega)]; rfl⟩
      exact Ev.step hy (ih (i + 1) y (by omega) (by omega))
    · refine Ev.step (f := fun _ => some false) (fun k => ?_) (Ev.now _)
      simp only [tripartitelaw07_Few.l0]; rw [if_neg (by omega), if_neg (by omega)]
theorem Few_go (d : List S123) (hd : d.length ≤ 60) (hs : ∀ p ∈ d, szs p ≤ 1000000000000000) : ∀ (n i : Nat) (x : Nat), d.length - i ≤ n → i ≤ d.length → x ≤ i * 1000000000000000 → Ev (fun k => tripartitelaw07_Few.l0 k d (x : Int) i) (decide (x + tot (d.drop i) ≤ 3000)) := by
  intro n
  induction n with
  | zero =>
    intro i x h1 h2 h3
    refine Ev.step (f := fun _ => some (decide ((x : Int) ≤ 3000))) (fun k => ?_) ?_
    · simp only [tripartitelaw07_Few.l0]; rw [if_neg (by omega), if_pos (by omega)]
    · rw [List.drop_of_length_le (by omega)]
      have : decide ((x : Int) ≤ 3000) = decide (x + tot [] ≤ 3000) := by simp only [tot]; exact decide_eq_decide.2 (by omega)
      rw [this]; exact Ev.now _
  | succ n ih =>
    intro i x h1 h2 h3
    by_cases hi : i < d.length
    · have hp := hs d[i] (List.getElem_mem hi)
      have rdp := rd123 hi
      rw [List.drop_eq_getElem_cons hi]
      have ih1 := ih (i + 1) (x + szs d[i]) (by omega) (by omega) (by omega)
      generalize d[i] = p at hp rdp ih1
      refine Ev.step (f := fun k => tripartitelaw07_Few.l0 k d ((x + szs p : Nat) : Int) ((i + 1 : Nat) : Int)) (fun k => ?_) ?_
      · unfold szs at hp
        simp only [tripartitelaw07_Few.l0]; rw [if_pos (by omega), if_pos (by omega), rdp, w64 (x := (i : Int) + 1) (by omega) (by omega)]
        have hx : x ≤ 60000000000000000 := by omega
        rw [w64 (x := (x : Int) + (p.f4.size : Int)) (by omega) (by omega)]
        rw [w64 (x := (x : Int) + (p.f4.size : Int) + (p.f5.size : Int)) (by omega) (by omega)]
        rw [w64 (x := (x : Int) + (p.f4.size : Int) + (p.f5.size : Int) + (p.f6.size : Int)) (by omega) (by omega)]
        rw [w64 (x := (x : Int) + (p.f4.size : Int) + (p.f5.size : Int) + (p.f6.size : Int) + (p.f7.size : Int)) (by omega) (by omega)]
        rw [w64 (x := (x : Int) + (p.f4.size : Int) + (p.f5.size : Int) + (p.f6.size : Int) + (p.f7.size : Int) + (p.f0.size : Int)) (by omega) (by omega)]
        rw [w64 (x := (x : Int) + (p.f4.size : Int) + (p.f5.size : Int) + (p.f6.size : Int) + (p.f7.size : Int) + (p.f0.size : Int) + (p.f1.size : Int)) (by omega) (by omega)]
        rw [w64 (x := (x : Int) + (p.f4.size : Int) + (p.f5.size : Int) + (p.f6.size : Int) + (p.f7.size : Int) + (p.f0.size : Int) + (p.f1.size : Int) + (p.f2.size : Int)) (by omega) (by omega)]
        congr 1
        unfold szs
        omega
      · unfold tot
        rw [← Nat.add_assoc]
        exact ih1
    · refine Ev.step (f := fun _ => some (decide ((x : Int) ≤ 3000))) (fun k => ?_) ?_
      · simp only [tripartitelaw07_Few.l0]; rw [if_neg (by omega), if_pos (by omega)]
      · rw [List.drop_of_length_le (by omega)]
        have : decide ((x : Int) ≤ 3000) = decide (x + tot [] ≤ 3000) := by simp only [tot]; exact decide_eq_decide.2 (by omega)
        rw [this]; exact Ev.now _
theorem Few_ok (d : List S123) (hl : d.length ≤ 1000000000000000) (hs : ∀ p ∈ d, szs p ≤ 1000000000000000) : Ev (fun k => tripartitelaw07_Few.f k d) (few d) := by
  unfold few
  by_cases hd : d.length ≤ 60
  · have := Few_go d hd hs d.length 0 0 (by omega) (by omega) (by omega)
    rw [List.drop_zero, Nat.zero_add] at this
    have e : decide (d.length ≤ 60 ∧ tot d ≤ 3000) = decide (tot d ≤ 3000) := by simp [hd]
    rw [e]
    exact this
  · rw [decide_eq_false (fun h => hd h.1)]
    exact Few_long d (by omega) hl d.length 0 0 (by omega) (by omega)
def conf : List S123 → Nat
  | [] => 0
  | p :: d => (if p.f3 = true then 1 else 0) + conf d
theorem conf_le (d : List S123) : conf d ≤ d.length := by
  induction d with
  | nil => exact Nat.le_refl _
  | cons p d ih => unfold conf; rw [List.length_cons]; split <;> omega
theorem rConf_go (d : List S123) (hd : d.length ≤ 60) : ∀ (n i c : Nat), d.length - i ≤ n → i ≤ d.length → c ≤ i → Ev (fun k => tripartiteref07_Conflicts.l0 k d (c : Int) i) ((c + conf (d.drop i) : Nat) : Int) := by
  intro n
  induction n with
  | zero =>
    intro i c h1 h2 h3
    refine Ev.step (f := fun _ => some (c : Int)) (fun k => ?_) ?_
    · simp only [tripartiteref07_Conflicts.l0]; rw [if_neg (by omega)]
    · rw [List.drop_of_length_le (by omega)]; exact Ev.now _
  | succ n ih =>
    intro i c h1 h2 h3
    by_cases hi : i < d.length
    · have rdp := rd123 hi
      rw [List.drop_eq_getElem_cons hi]
      have ih1 := fun c => ih (i + 1) c (by omega) (by omega)
      generalize d[i] = p at rdp
      unfold conf
      by_cases h3 : p.f3 = true
      · refine Ev.step (f := fun k => tripartiteref07_Conflicts.l0 k d ((c + 1 : Nat) : Int) ((i + 1 : Nat) : Int)) (fun k => ?_) ?_
        · simp only [tripartiteref07_Conflicts.l0]; rw [if_pos (by omega), if_pos (by omega), rdp, if_pos h3, w64 (by omega) (by omega), w64 (by omega) (by omega)]; rfl
        · rw [if_pos h3, ← Nat.add_assoc]; exact ih1 (c + 1) (by omega)
      · refine Ev.step (f := fun k => tripartiteref07_Conflicts.l0 k d (c : Int) ((i + 1 : Nat) : Int)) (fun k => ?_) ?_
        · simp only [tripartiteref07_Conflicts.l0]; rw [if_pos (by omega), if_pos (by omega), rdp, if_neg h3, w64 (by omega) (by omega)]; rfl
        · rw [if_neg h3, Nat.zero_add]; exact ih1 c (by omega)
    · refine Ev.step (f := fun _ => some (c : Int)) (fun k => ?_) ?_
      · simp only [tripartiteref07_Conflicts.l0]; rw [if_neg (by omega)]
      · rw [List.drop_of_length_le (by omega)]; exact Ev.now _
theorem rConf_ok (d : List S123) (hd : d.length ≤ 60) : Ev (fun k => tripartiteref07_Conflicts.f k d) (conf d : Int) := by
  have := rConf_go d hd d.length 0 0 (by omega) (by omega) (by omega)
  rw [List.drop_zero, Nat.zero_add] at this
  exact this
end Res
end Go.Proofs.Ytadafplbgophfaa.Pure
end
section
namespace Go.Proofs.Ytadafplbgophfaa.Pure
namespace Res
open Go.RowKit Go.Proofs.Ytadafplbgophfaa.PA Go.Proofs.YtadafplbgophfaaW.PrintWords Go.Proofs.YtadafplbgophfaaW.PrintLast Go.Proofs.YtadafplbgophfaaW.PrintMore
theorem rpick_ok (p : S123) (s : Int) : Ev (fun k => tripartiteref11_pick.f k p.f0 p.f1 p.f2 p.f3 p.f4 p.f5 p.f6 p.f7 p.f8 s) (pickF (of123 p) s) := by
  unfold pickF
  have J : ∀ b : Bool, Ev (fun k => tripartiteref11_pick.j0 k s b p.f0 p.f1 p.f2 p.f3 p.f4 p.f5 p.f6 p.f7 p.f8) (if b = true then (⟨#[]⟩, 5) else if s = 2 ∧ p.f8 = false then (⟨#[]⟩, 1) else (if s = 1 then p.f5 else if s = 2 then p.f6 else p.f7, 0)) ∨ (b = false ∧ (s < 1 ∨ 3 < s)) := by
    intro b
    cases b
    · by_cases hr : s < 1 ∨ 3 < s
      · exact Or.inr ⟨rfl, hr⟩
      · refine Or.inl ?_
        rw [if_neg (by decide)]
        by_cases h2 : s = 2
        · subst h2
          cases h8 : p.f8
          · rw [if_pos ⟨rfl, rfl⟩]
            refine Ev.step (f := fun _ => some (⟨#[]⟩, 1)) (fun k => ?_) (Ev.now _)
            simp only [tripartiteref11_pick.j0]
            rw [if_neg (by decide), if_pos trivial, if_neg (by decide)]
          · rw [if_neg (fun e => by cases e.2), if_neg (by decide), if_pos rfl]
            refine Ev.step (f := fun _ => some (p.f6, 0)) (fun k => ?_) (Ev.now _)
            simp only [tripartiteref11_pick.j0]
            rfl
        · rw [if_neg (fun e => h2 e.1)]
          by_cases h1 : s = 1
          · subst h1
            refine Ev.step (f := fun _ => some (p.f5, 0)) (fun k => ?_) (Ev.now _)
            simp only [tripartiteref11_pick.j0]
            rfl
          · obtain rfl : s = 3 := by omega
            refine Ev.step (f := fun _ => some (p.f7, 0)) (fun k => ?_) (Ev.now _)
            simp only [tripartiteref11_pick.j0]
            rfl
    · refine Or.inl ?_
      rw [if_pos rfl]
      refine Ev.step (f := fun _ => some (⟨#[]⟩, 5)) (fun k => ?_) (Ev.now _)
      simp only [tripartiteref11_pick.j0]
      rw [if_pos trivial]
  by_cases h1 : s < 1
  · rw [if_pos (Or.inl h1)]
    refine Ev.congr (f := fun k => tripartiteref11_pick.j0 k s true p.f0 p.f1 p.f2 p.f3 p.f4 p.f5 p.f6 p.f7 p.f8) (fun k => by unfold tripartiteref11_pick.f; rw [if_pos h1]) ?_
    rcases J true with h | ⟨h, _⟩
    · rw [if_pos rfl] at h; exact h
    · cases h
  · by_cases h3 : 3 < s
    · rw [if_pos (Or.inr h3)]
      refine Ev.congr (f := fun k => tripartiteref11_pick.j0 k s true p.f0 p.f1 p.f2 p.f3 p.f4 p.f5 p.f6 p.f7 p.f8) (fun k => by unfold tripartiteref11_pick.f; rw [if_neg h1, decide_eq_true h3]) ?_
      rcases J true with h | ⟨h, _⟩
      · rw [if_pos rfl] at h; exact h
      · cases h
    · rw [if_neg (by omega)]
      refine Ev.congr (f := fun k => tripartiteref11_pick.j0 k s false p.f0 p.f1 p.f2 p.f3 p.f4 p.f5 p.f6 p.f7 p.f8) (fun k => by unfold tripartiteref11_pick.f; rw [if_neg h1, decide_eq_false h3]) ?_
      rcases J false with h | ⟨_, h⟩
      · rw [if_neg (by decide)] at h; exact h
      · omega
theorem pick_size (p : S123) (s : Int) : p.f4.size + (pickF (of123 p) s).1.size ≤ szs p := by
  have h1 : (of123 p).f3 = p.f5 := rfl
  have h2 : (of123 p).f4 = p.f6 := rfl
  have h3 : (of123 p).f5 = p.f7 := rfl
  have h0 : (⟨#[]⟩ : ByteArray).size = 0 := rfl
  unfold pickF szs
  rw [h1, h2, h3]
  repeat' split
  all_goals simp only [h0]
  all_goals omega
theorem told_ok : Ev (fun k => tripartitelaw11_told.f k) true := Ev.of (tripartitelaw11_told.mono) (k := 40) (by kernel_rfl)
end Res
end Go.Proofs.Ytadafplbgophfaa.Pure
end
section
namespace Go.Proofs.Ytadafplbgophfaa.PA
open Go.RowKit Go.Proofs.YtadafplbgophfaaW.PrintWords Go.Proofs.YtadafplbgophfaaW.PrintLast Go.Proofs.YtadafplbgophfaaW.PrintMore
attribute [local go_sem] max2_int min2_int max_two min_two max_three min_three max_four min_four   -- for this text's walks alone
set_option linter.unusedVariables false
set_option linter.unusedSimpArgs false
def tripartitelaw11_ResolveOnes.f (k : Nat) (l0 : List (S123)) (a1 : Int) (a2 : Int) : Option (Bool) := (tripartitelaw07_Few.f k l0).bind fun t101 => (if t101 = true then ((tripartitelaw07_To.f k l0).bind fun t103 => ((resolve_One.f k t103 a1 a2).bind fun bt106 => ((tripartiteref11_One.f k l0 a1 a2).bind fun bt110 => ((tripartitelaw11_told.f k).bind fun t114 => (if t114 = true then (if bt106.2 = bt110.2 then ((tripartitelaw07_From.f k bt106.1).bind fun t115 => ((tripartiteref07_Same.f k t115 bt110.1).bind fun t118 => (if t118 = true then (if bt106.2 = 0 then ((doc_Doc_Right.f k bt106.1).bind fun t119 => (if t119 = true then ((tripartitelaw07_From.f k t103).bind fun t120 => ((tripartiteref07_Same.f k t120 l0).bind fun t123 => (some t123))) else (some false))) else ((tripartitelaw07_From.f k t103).bind fun t124 => ((tripartiteref07_Same.f k t124 l0).bind fun t127 => (some t127)))) else (some false)))) else (some false)) else (some false)))))) else ((tripartitelaw11_told.f k).bind fun t102 => (some t102)))
set_option maxHeartbeats 8000000 in
set_option maxRecDepth 100000 in
theorem tripartitelaw11_ResolveOnes.calls (k : Nat) (A0 : Option Addr) (c0 : Nat) (l0 : List (S123)) (a1 : Int) (a2 : Int) (r : Bool) (w : World) (hr0 : Kd.C k123 w A0 l0.length l0) (hc0 : l0.length ≤ c0) (h : tripartitelaw11_ResolveOnes.f k l0 a1 a2 = some r) :
  Calls Try.prog 14 #[.slice A0 l0.length c0, .int .i64 a1, .int .i64 a2] w fun e w' => e = .returned (.bool r) ∧ Below w.heap.size w w' := by
 have HR0 := Aside0.mk hr0
 have HC0 := Aside0.mk hc0
 clear hr0 hc0
 have HB := Aside0.mk (Below.refl w.heap.size w)
 have H : ((tripartitelaw07_Few.f k l0).bind fun t101 => (if t101 = true then ((tripartitelaw07_To.f k l0).bind fun t103 => ((resolve_One.f k t103 a1 a2).bind fun bt106 => ((tripartiteref11_One.f k l0 a1 a2).bind fun bt110 => ((tripartitelaw11_told.f k).bind fun t114 => (if t114 = true then (if bt106.2 = bt110.2 then ((tripartitelaw07_From.f k bt106.1).bind fun t115 => ((tripartiteref07_Same.f k t115 bt110.1).bind fun t118 => (if t118 = true then (if bt106.2 = 0 then ((doc_Doc_Right.f k bt106.1).bind fun t119 => (if t119 = true then ((tripartitelaw07_From.f k t103).bind fun t120 => ((tripartiteref07_Same.f k t120 l0).bind fun t123 => (some t123))) else (some false))) else ((tripartitelaw07_From.f k t103).bind fun t124 => ((tripartiteref07_Same.f k t124 l0).bind fun t127 => (some t127)))) else (some false)))) else (some false)) else (some false)))))) else ((tripartitelaw11_told.f k).bind fun t102 => (some t102)))) = some r := h
 clear h
 replace H := Option.bind_eq_some_iff.mp H
 obtain ⟨t101, A40, H⟩ := H
 replace H : (if t101 = true then ((tripartitelaw07_To.f k l0).bind fun t103 => ((resolve_One.f k t103 a1 a2).bind fun bt106 => ((tripartiteref11_One.f k l0 a1 a2).bind fun bt110 => ((tripartitelaw11_told.f k).bind fun t114 => (if t114 = true then (if bt106.2 = bt110.2 then ((tripartitelaw07_From.f k bt106.1).bind fun t115 => ((tripartiteref07_Same.f k t115 bt110.1).bind fun t118 => (if t118 = true then (if bt106.2 = 0 then ((doc_Doc_Right.f k bt106.1).bind fun t119 => (if t119 = true then ((tripartitelaw07_From.f k t103).bind fun t120 => ((tripartiteref07_Same.f k t120 l0).bind fun t123 => (some t123))) else (some false))) else ((tripartitelaw07_From.f k t103).bind fun t124 => ((tripartiteref07_Same.f k t124 l0).bind fun t127 => (some t127)))) else (some false)))) else (some false)) else (some false)))))) else ((tripartitelaw11_told.f k).bind fun t102 => (some t102))) = some r := H
 have A4 := Aside0.mk A40
 clear A40
 by_cases c5 : t101 = true
 ·subst c5
  have H1 : ((tripartitelaw07_To.f k l0).bind fun t103 => ((resolve_One.f k t103 a1 a2).bind fun bt106 => ((tripartiteref11_One.f k l0 a1 a2).bind fun bt110 => ((tripartitelaw11_told.f k).bind fun t114 => (if t114 = true then (if bt106.2 = bt110.2 then ((tripartitelaw07_From.f k bt106.1).bind fun t115 => ((tripartiteref07_Same.f k t115 bt110.1).bind fun t118 => (if t118 = true then (if bt106.2 = 0 then ((doc_Doc_Right.f k bt106.1).bind fun t119 => (if t119 = true then ((tripartitelaw07_From.f k t103).bind fun t120 => ((tripartiteref07_Same.f k t120 l0).bind fun t123 => (some t123))) else (some false))) else ((tripartitelaw07_From.f k t103).bind fun t124 => ((tripartiteref07_Same.f k t124 l0).bind fun t127 => (some t127)))) else (some false)))) else (some false)) else (some false)))))) = some r := by rw [if_pos rfl] at H; exact H
  clear H
  have H := H1
  clear H1
  replace H := Option.bind_eq_some_iff.mp H
  obtain ⟨t103, A60, H⟩ := H
  replace H : ((resolve_One.f k t103 a1 a2).bind fun bt106 => ((tripartiteref11_One.f k l0 a1 a2).bind fun bt110 => ((tripartitelaw11_told.f k).bind fun t114 => (if t114 = true then (if bt106.2 = bt110.2 then ((tripartitelaw07_From.f k bt106.1).bind fun t115 => ((tripartiteref07_Same.f k t115 bt110.1).bind fun t118 => (if t118 = true then (if bt106.2 = 0 then ((doc_Doc_Right.f k bt106.1).bind fun t119 => (if t119 = true then ((tripartitelaw07_From.f k t103).bind fun t120 => ((tripartiteref07_Same.f k t120 l0).bind fun t123 => (some t123))) else (some false))) else ((tripartitelaw07_From.f k t103).bind fun t124 => ((tripartiteref07_Same.f k t124 l0).bind fun t127 => (some t127)))) else (some false)))) else (some false)) else (some false))))) = some r := H
  have A6 := Aside0.mk A60
  clear A60
  replace H := Option.bind_eq_some_iff.mp H
  obtain ⟨⟨t106, t107⟩, A70, H⟩ := H
  replace H : ((tripartiteref11_One.f k l0 a1 a2).bind fun bt110 => ((tripartitelaw11_told.f k).bind fun t114 => (if t114 = true then (if t107 = bt110.2 then ((tripartitelaw07_From.f k t106).bind fun t115 => ((tripartiteref07_Same.f k t115 bt110.1).bind fun t118 => (if t118 = true then (if t107 = 0 then ((doc_Doc_Right.f k t106).bind fun t119 => (if t119 = true then ((tripartitelaw07_From.f k t103).bind fun t120 => ((tripartiteref07_Same.f k t120 l0).bind fun t123 => (some t123))) else (some false))) else ((tripartitelaw07_From.f k t103).bind fun t124 => ((tripartiteref07_Same.f k t124 l0).bind fun t127 => (some t127)))) else (some false)))) else (some false)) else (some false)))) = some r := H
  have A7 := Aside0.mk A70
  clear A70
  replace H := Option.bind_eq_some_iff.mp H
  obtain ⟨⟨t110, t111⟩, A80, H⟩ := H
  replace H : ((tripartitelaw11_told.f k).bind fun t114 => (if t114 = true then (if t107 = t111 then ((tripartitelaw07_From.f k t106).bind fun t115 => ((tripartiteref07_Same.f k t115 t110).bind fun t118 => (if t118 = true then (if t107 = 0 then ((doc_Doc_Right.f k t106).bind fun t119 => (if t119 = true then ((tripartitelaw07_From.f k t103).bind fun t120 => ((tripartiteref07_Same.f k t120 l0).bind fun t123 => (some t123))) else (some false))) else ((tripartitelaw07_From.f k t103).bind fun t124 => ((tripartiteref07_Same.f k t124 l0).bind fun t127 => (some t127)))) else (some false)))) else (some false)) else (some false))) = some r := H
  have A8 := Aside0.mk A80
  clear A80
  replace H := Option.bind_eq_some_iff.mp H
  obtain ⟨t114, A90, H⟩ := H
  replace H : (if t114 = true then (if t107 = t111 then ((tripartitelaw07_From.f k t106).bind fun t115 => ((tripartiteref07_Same.f k t115 t110).bind fun t118 => (if t118 = true then (if t107 = 0 then ((doc_Doc_Right.f k t106).bind fun t119 => (if t119 = true then ((tripartitelaw07_From.f k t103).bind fun t120 => ((tripartiteref07_Same.f k t120 l0).bind fun t123 => (some t123))) else (some false))) else ((tripartitelaw07_From.f k t103).bind fun t124 => ((tripartiteref07_Same.f k t124 l0).bind fun t127 => (some t127)))) else (some false)))) else (some false)) else (some false)) = some r := H
  have A9 := Aside0.mk A90
  clear A90
  by_cases c10 : t114 = true
  ·subst c10
   have H1 : (if t107 = t111 then ((tripartitelaw07_From.f k t106).bind fun t115 => ((tripartiteref07_Same.f k t115 t110).bind fun t118 => (if t118 = true then (if t107 = 0 then ((doc_Doc_Right.f k t106).bind fun t119 => (if t119 = true then ((tripartitelaw07_From.f k t103).bind fun t120 => ((tripartiteref07_Same.f k t120 l0).bind fun t123 => (some t123))) else (some false))) else ((tripartitelaw07_From.f k t103).bind fun t124 => ((tripartiteref07_Same.f k t124 l0).bind fun t127 => (some t127)))) else (some false)))) else (some false)) = some r := by rw [if_pos rfl] at H; exact H
   clear H
   have H := H1
   clear H1
   by_cases c11 : t107 = t111
   ·rw [if_pos c11] at H
    have c11b0 : (t107 == t111) = true := beq_iff_eq.mpr c11
    have c11b1 : (t107 != t111) = false := bne_eq_false_iff_eq.mpr c11
    clear c11
    replace H := Option.bind_eq_some_iff.mp H
    obtain ⟨t115, A120, H⟩ := H
    replace H : ((tripartiteref07_Same.f k t115 t110).bind fun t118 => (if t118 = true then (if t107 = 0 then ((doc_Doc_Right.f k t106).bind fun t119 => (if t119 = true then ((tripartitelaw07_From.f k t103).bind fun t120 => ((tripartiteref07_Same.f k t120 l0).bind fun t123 => (some t123))) else (some false))) else ((tripartitelaw07_From.f k t103).bind fun t124 => ((tripartiteref07_Same.f k t124 l0).bind fun t127 => (some t127)))) else (some false))) = some r := H
    have A12 := Aside0.mk A120
    clear A120
    replace H := Option.bind_eq_some_iff.mp H
    obtain ⟨t118, A130, H⟩ := H
    replace H : (if t118 = true then (if t107 = 0 then ((doc_Doc_Right.f k t106).bind fun t119 => (if t119 = true then ((tripartitelaw07_From.f k t103).bind fun t120 => ((tripartiteref07_Same.f k t120 l0).bind fun t123 => (some t123))) else (some false))) else ((tripartitelaw07_From.f k t103).bind fun t124 => ((tripartiteref07_Same.f k t124 l0).bind fun t127 => (some t127)))) else (some false)) = some r := H
    have A13 := Aside0.mk A130
    clear A130
    by_cases c14 : t118 = true
    ·subst c14
     have H1 : (if t107 = 0 then ((doc_Doc_Right.f k t106).bind fun t119 => (if t119 = true then ((tripartitelaw07_From.f k t103).bind fun t120 => ((tripartiteref07_Same.f k t120 l0).bind fun t123 => (some t123))) else (some false))) else ((tripartitelaw07_From.f k t103).bind fun t124 => ((tripartiteref07_Same.f k t124 l0).bind fun t127 => (some t127)))) = some r := by rw [if_pos rfl] at H; exact H
     clear H
     have H := H1
     clear H1
     by_cases c15 : t107 = 0
     ·rw [if_pos c15] at H
      have c15b0 : (t107 == 0) = true := beq_iff_eq.mpr c15
      have c15b1 : (t107 != 0) = false := bne_eq_false_iff_eq.mpr c15
      clear c15
      replace H := Option.bind_eq_some_iff.mp H
      obtain ⟨t119, A160, H⟩ := H
      replace H : (if t119 = true then ((tripartitelaw07_From.f k t103).bind fun t120 => ((tripartiteref07_Same.f k t120 l0).bind fun t123 => (some t123))) else (some false)) = some r := H
      have A16 := Aside0.mk A160
      clear A160
      by_cases c17 : t119 = true
      ·subst c17
       have H1 : ((tripartitelaw07_From.f k t103).bind fun t120 => ((tripartiteref07_Same.f k t120 l0).bind fun t123 => (some t123))) = some r := by rw [if_pos rfl] at H; exact H
       clear H
       have H := H1
       clear H1
       replace H := Option.bind_eq_some_iff.mp H
       obtain ⟨t120, A180, H⟩ := H
       replace H : ((tripartiteref07_Same.f k t120 l0).bind fun t123 => (some t123)) = some r := H
       have A18 := Aside0.mk A180
       clear A180
       replace H := Option.bind_eq_some_iff.mp H
       obtain ⟨t123, A190, H⟩ := H
       replace H : (some t123) = some r := H
       have A19 := Aside0.mk A190
       clear A190
       obtain rfl := Option.some.inj H
       go_enter Try.func14, Try.ntmps14
       go_wp2_with (first | ((with_reducible refine gate_callee (f := 59) rfl ?_); refine goesL_ (some 13) rfl rfl Try.func59 (by kernel_rfl) rfl #[.slice A0 l0.length c0] rfl (by (try simp only [List.map_toArray, List.map_cons, List.map_nil]); first | done | rfl | (simp only [List.length_drop, List.length_take]; rfl)) ?_; (with_reducible refine (tripartitelaw07_Few.calls k _ _ l0 true _ ?side1 ?side2 A4.out).mono ?_); (case side1 => repeat (first | exact HR0.out | (with_reducible refine Kd.C_alloc ?_ _) | (with_reducible refine Kd.C_drewN ?_ _) | (with_reducible refine Kd.C_drew ?_))); (case side2 => exact HC0.out); rintro e w20 ⟨rfl, hb⟩; refine ⟨_, rfl, ?_⟩; have n0_ := Aside0.mk (below_step (by repeat (first | (with_reducible first | exact HB.out | apply below_alloc | apply pw_below_drewN | apply below_drew1) | exact HB.out)) hb); clear HB; have HB := n0_; clear n0_; (try clear hb); (try clear hb2); (try clear hk); (try clear hi)) | ((with_reducible refine gate_callee (f := 61) rfl ?_); refine goesL_ (some 17) rfl rfl Try.func61 (by kernel_rfl) rfl #[.slice A0 l0.length c0] rfl (by (try simp only [List.map_toArray, List.map_cons, List.map_nil]); first | done | rfl | (simp only [List.length_drop, List.length_take]; rfl)) ?_; (with_reducible refine (tripartitelaw07_To.calls k _ _ l0 t103 _ ?side1 ?side2 A6.out).mono ?_); (case side1 => repeat (first | exact (Kd.C_below HR0.out HB.out) | (with_reducible refine Kd.C_alloc ?_ _) | (with_reducible refine Kd.C_drewN ?_ _) | (with_reducible refine Kd.C_drew ?_))); (case side2 => exact HC0.out); rintro e w21 ⟨v104, rfl, ho0, hb⟩; refine ⟨_, rfl, ?_⟩; have n0_ := Aside0.mk (Kd.R_lower ho0 (below_size (by repeat (first | (with_reducible first | exact HB.out | apply below_alloc | apply pw_below_drewN | apply below_drew1) | exact HB.out)))); have n1_ := Aside0.mk (below_step (by repeat (first | (with_reducible first | exact HB.out | apply below_alloc | apply pw_below_drewN | apply below_drew1) | exact HB.out)) hb); clear HB; have HO105 := n0_; have HB := n1_; clear n0_ n1_; (try clear hb); (try clear hb2); (try clear hk); (try clear hi); (try clear ho0); obtain ⟨Ao22, co22, eo22⟩ := Kd.R_slice HO105.out; subst eo22) | ((with_reducible refine gate_callee (f := 68) rfl ?_); refine goesL_ (some 22) rfl rfl Try.func68 (by kernel_rfl) rfl #[.slice Ao22 t103.length co22, .int .i64 a1, .int .i64 a2] rfl (by (try simp only [List.map_toArray, List.map_cons, List.map_nil]); first | done | rfl | (simp only [List.length_drop, List.length_take]; rfl)) ?_; (with_reducible refine (resolve_One.calls k _ _ t103 a1 a2 t106 t107 _ ?side1 ?side2 A7.out).mono ?_); (case side1 => repeat (first | exact (Kd.R_reads' HO105.out).2.2 | (with_reducible refine Kd.C_alloc ?_ _) | (with_reducible refine Kd.C_drewN ?_ _) | (with_reducible refine Kd.C_drew ?_))); (case side2 => exact (Kd.R_reads' HO105.out).2.1); rintro e w23 ⟨v108, rfl, ho0, hb⟩; refine ⟨_, rfl, ?_⟩; have n0_ := Aside0.mk (Kd.R_elder' (by (with_reducible repeat (first | apply Kd.R_alloc | apply Kd.R_drewN | apply Kd.R_drew)); exact HO105.out) (Kd.R_base ho0) hb); have n1_ := Aside0.mk (Kd.R_lower (Kd.R_new' ho0 (Kd.R_lt (by (with_reducible repeat (first | apply Kd.R_alloc | apply Kd.R_drewN | apply Kd.R_drew)); exact HO105.out))) (below_size (by repeat (first | (with_reducible first | exact HB.out | apply below_alloc | apply pw_below_drewN | apply below_drew1) | exact HB.out)))); have n2_ := Aside0.mk (below_step (by repeat (first | (with_reducible first | exact HB.out | apply below_alloc | apply pw_below_drewN | apply below_drew1) | exact HB.out)) hb); clear HO105; clear HB; have HO105 := n0_; have HO109 := n1_; have HB := n2_; clear n0_ n1_ n2_; (try clear hb); (try clear hb2); (try clear hk); (try clear hi); (try clear ho0)) | ((with_reducible refine gate_callee (f := 69) rfl ?_); refine goesL_ (some 29) rfl rfl Try.func69 (by kernel_rfl) rfl #[.slice A0 l0.length c0, .int .i64 a1, .int .i64 a2] rfl (by (try simp only [List.map_toArray, List.map_cons, List.map_nil]); first | done | rfl | (simp only [List.length_drop, List.length_take]; rfl)) ?_; (with_reducible refine (tripartiteref11_One.calls k _ _ l0 a1 a2 t110 t111 _ ?side1 ?side2 A8.out).mono ?_); (case side1 => repeat (first | exact (Kd.C_below HR0.out HB.out) | (with_reducible refine Kd.C_alloc ?_ _) | (with_reducible refine Kd.C_drewN ?_ _) | (with_reducible refine Kd.C_drew ?_))); (case side2 => exact HC0.out); rintro e w24 ⟨v112, rfl, ho0, hb⟩; refine ⟨_, rfl, ?_⟩; have n0_ := Aside0.mk (Kd.R_below (by (with_reducible repeat (first | apply Kd.R_alloc | apply Kd.R_drewN | apply Kd.R_drew)); exact HO105.out) hb); have n1_ := Aside0.mk (Kd.R_below (by (with_reducible repeat (first | apply Kd.R_alloc | apply Kd.R_drewN | apply Kd.R_drew)); exact HO109.out) hb); have n2_ := Aside0.mk (Kd.R_lower ho0 (below_size (by repeat (first | (with_reducible first | exact HB.out | apply below_alloc | apply pw_below_drewN | apply below_drew1) | exact HB.out)))); have n3_ := Aside0.mk (below_step (by repeat (first | (with_reducible first | exact HB.out | apply below_alloc | apply pw_below_drewN | apply below_drew1) | exact HB.out)) hb); clear HO105; clear HO109; clear HB; have HO105 := n0_; have HO109 := n1_; have HO113 := n2_; have HB := n3_; clear n0_ n1_ n2_ n3_; (try clear hb); (try clear hb2); (try clear hk); (try clear hi); (try clear ho0)) | ((with_reducible refine gate_callee (f := 60) rfl ?_); refine goesL_ (some 32) rfl rfl Try.func60 (by kernel_rfl) rfl #[] rfl (by (try simp only [List.map_toArray, List.map_cons, List.map_nil]); first | done | rfl | (simp only [List.length_drop, List.length_take]; rfl)) ?_; (with_reducible refine (tripartitelaw11_told.calls k  true _ A9.out).mono ?_); rintro e w25 ⟨rfl, hb⟩; refine ⟨_, rfl, ?_⟩; have n0_ := Aside0.mk (Kd.R_below (by (with_reducible repeat (first | apply Kd.R_alloc | apply Kd.R_drewN | apply Kd.R_drew)); exact HO105.out) hb); have n1_ := Aside0.mk (Kd.R_below (by (with_reducible repeat (first | apply Kd.R_alloc | apply Kd.R_drewN | apply Kd.R_drew)); exact HO109.out) hb); have n2_ := Aside0.mk (Kd.R_below (by (with_reducible repeat (first | apply Kd.R_alloc | apply Kd.R_drewN | apply Kd.R_drew)); exact HO113.out) hb); have n3_ := Aside0.mk (below_step (by repeat (first | (with_reducible first | exact HB.out | apply below_alloc | apply pw_below_drewN | apply below_drew1) | exact HB.out)) hb); clear HO105; clear HO109; clear HO113; clear HB; have HO105 := n0_; have HO109 := n1_; have HO113 := n2_; have HB := n3_; clear n0_ n1_ n2_ n3_; (try clear hb); (try clear hb2); (try clear hk); (try clear hi); obtain ⟨Ao26, co26, eo26⟩ := Kd.R_slice HO109.out; subst eo26) | (go_at_call 67; (with_reducible refine (tripartitelaw07_From.calls k _ _ t106 t115 _ ?side1 ?side2 A12.out).mono ?_); (case side1 => repeat (first | exact (Kd.R_reads' HO109.out).2.2 | (with_reducible refine Kd.C_alloc ?_ _) | (with_reducible refine Kd.C_drewN ?_ _) | (with_reducible refine Kd.C_drew ?_))); (case side2 => exact (Kd.R_reads' HO109.out).2.1); rintro e w27 ⟨v116, rfl, ho0, hb⟩; have n0_ := Aside0.mk (Kd.R_below (by (with_reducible repeat (first | apply Kd.R_alloc | apply Kd.R_drewN | apply Kd.R_drew)); exact HO105.out) hb); have n1_ := Aside0.mk (Kd.R_below (by (with_reducible repeat (first | apply Kd.R_alloc | apply Kd.R_drewN | apply Kd.R_drew)); exact HO109.out) hb); have n2_ := Aside0.mk (Kd.R_elder' (by (with_reducible repeat (first | apply Kd.R_alloc | apply Kd.R_drewN | apply Kd.R_drew)); exact HO113.out) (Kd.R_base ho0) hb); have n3_ := Aside0.mk (Kd.R_lower (Kd.R_new' ho0 (Kd.R_lt (by (with_reducible repeat (first | apply Kd.R_alloc | apply Kd.R_drewN | apply Kd.R_drew)); exact HO113.out))) (below_size (by repeat (first | (with_reducible first | exact HB.out | apply below_alloc | apply pw_below_drewN | apply below_drew1) | exact HB.out)))); have n4_ := Aside0.mk (below_step (by repeat (first | (with_reducible first | exact HB.out | apply below_alloc | apply pw_below_drewN | apply below_drew1) | exact HB.out)) hb); clear HO105; clear HO109; clear HO113; clear HB; have HO105 := n0_; have HO109 := n1_; have HO113 := n2_; have HO117 := n3_; have HB := n4_; clear n0_ n1_ n2_ n3_ n4_; (try clear hb); (try clear hb2); (try clear hk); (try clear hi); (try clear ho0); obtain ⟨Ao28, co28, eo28⟩ := Kd.R_slice HO117.out; subst eo28; obtain ⟨Ao29, co29, eo29⟩ := Kd.R_slice HO113.out; subst eo29) | (go_at_call 66; (with_reducible refine (tripartiteref07_Same.calls k _ _ t115 _ _ t110 true _ ?side1 ?side2 ?side3 ?side4 A13.out).mono ?_); (case side1 => repeat (first | exact (Kd.R_reads' HO117.out).2.2 | (with_reducible refine Kd.C_alloc ?_ _) | (with_reducible refine Kd.C_drewN ?_ _) | (with_reducible refine Kd.C_drew ?_))); (case side2 => exact (Kd.R_reads' HO117.out).2.1); (case side3 => repeat (first | exact (Kd.R_reads' HO113.out).2.2 | (with_reducible refine Kd.C_alloc ?_ _) | (with_reducible refine Kd.C_drewN ?_ _) | (with_reducible refine Kd.C_drew ?_))); (case side4 => exact (Kd.R_reads' HO113.out).2.1); rintro e w' ⟨rfl, ⟨nd, rfl⟩⟩) | (go_at_call 70; (with_reducible refine (doc_Doc_Right.calls k _ _ t106 true _ ?side1 ?side2 A16.out).mono ?_); (case side1 => repeat (first | exact (Kd.R_reads' HO109.out).2.2 | (with_reducible refine Kd.C_alloc ?_ _) | (with_reducible refine Kd.C_drewN ?_ _) | (with_reducible refine Kd.C_drew ?_))); (case side2 => exact (Kd.R_reads' HO109.out).2.1); rintro e w30 ⟨rfl, hb⟩; have n0_ := Aside0.mk (Kd.R_below (by (with_reducible repeat (first | apply Kd.R_alloc | apply Kd.R_drewN | apply Kd.R_drew)); exact HO105.out) hb); have n1_ := Aside0.mk (Kd.R_below (by (with_reducible repeat (first | apply Kd.R_alloc | apply Kd.R_drewN | apply Kd.R_drew)); exact HO109.out) hb); have n2_ := Aside0.mk (Kd.R_below (by (with_reducible repeat (first | apply Kd.R_alloc | apply Kd.R_drewN | apply Kd.R_drew)); exact HO113.out) hb); have n3_ := Aside0.mk (Kd.R_below (by (with_reducible repeat (first | apply Kd.R_alloc | apply Kd.R_drewN | apply Kd.R_drew)); exact HO117.out) hb); have n4_ := Aside0.mk (below_step (by repeat (first | (with_reducible first | exact HB.out | apply below_alloc | apply pw_below_drewN | apply below_drew1) | exact HB.out)) hb); clear HO105; clear HO109; clear HO113; clear HO117; clear HB; have HO105 := n0_; have HO109 := n1_; have HO113 := n2_; have HO117 := n3_; have HB := n4_; clear n0_ n1_ n2_ n3_ n4_; (try clear hb); (try clear hb2); (try clear hk); (try clear hi)) | (go_at_call 67; (with_reducible refine (tripartitelaw07_From.calls k _ _ t103 t120 _ ?side1 ?side2 A18.out).mono ?_); (case side1 => repeat (first | exact (Kd.R_reads' HO105.out).2.2 | (with_reducible refine Kd.C_alloc ?_ _) | (with_reducible refine Kd.C_drewN ?_ _) | (with_reducible refine Kd.C_drew ?_))); (case side2 => exact (Kd.R_reads' HO105.out).2.1); rintro e w31 ⟨v121, rfl, ho0, hb⟩; have n0_ := Aside0.mk (Kd.R_below (by (with_reducible repeat (first | apply Kd.R_alloc | apply Kd.R_drewN | apply Kd.R_drew)); exact HO105.out) hb); have n1_ := Aside0.mk (Kd.R_below (by (with_reducible repeat (first | apply Kd.R_alloc | apply Kd.R_drewN | apply Kd.R_drew)); exact HO109.out) hb); have n2_ := Aside0.mk (Kd.R_elder' (by (with_reducible repeat (first | apply Kd.R_alloc | apply Kd.R_drewN | apply Kd.R_drew)); exact HO113.out) (Kd.R_base ho0) hb); have n3_ := Aside0.mk (Kd.R_elder' (by (with_reducible repeat (first | apply Kd.R_alloc | apply Kd.R_drewN | apply Kd.R_drew)); exact HO117.out) (Kd.R_base ho0) hb); have n4_ := Aside0.mk (Kd.R_lower (Kd.R_new' (Kd.R_new' ho0 (Kd.R_lt (by (with_reducible repeat (first | apply Kd.R_alloc | apply Kd.R_drewN | apply Kd.R_drew)); exact HO113.out))) (Kd.R_lt (by (with_reducible repeat (first | apply Kd.R_alloc | apply Kd.R_drewN | apply Kd.R_drew)); exact HO117.out))) (below_size (by repeat (first | (with_reducible first | exact HB.out | apply below_alloc | apply pw_below_drewN | apply below_drew1) | exact HB.out)))); have n5_ := Aside0.mk (below_step (by repeat (first | (with_reducible first | exact HB.out | apply below_alloc | apply pw_below_drewN | apply below_drew1) | exact HB.out)) hb); clear HO105; clear HO109; clear HO113; clear HO117; clear HB; have HO105 := n0_; have HO109 := n1_; have HO113 := n2_; have HO117 := n3_; have HO122 := n4_; have HB := n5_; clear n0_ n1_ n2_ n3_ n4_ n5_; (try clear hb); (try clear hb2); (try clear hk); (try clear hi); (try clear ho0); obtain ⟨Ao32, co32, eo32⟩ := Kd.R_slice HO122.out; subst eo32) | (go_at_call 66; (with_reducible refine (tripartiteref07_Same.calls k _ _ t120 _ _ l0 t123 _ ?side1 ?side2 ?side3 ?side4 A19.out).mono ?_); (case side1 => repeat (first | exact (Kd.R_reads' HO122.out).2.2 | (with_reducible refine Kd.C_alloc ?_ _) | (with_reducible refine Kd.C_drewN ?_ _) | (with_reducible refine Kd.C_drew ?_))); (case side2 => exact (Kd.R_reads' HO122.out).2.1); (case side3 => repeat (first | exact (Kd.C_below HR0.out HB.out) | (with_reducible refine Kd.C_alloc ?_ _) | (with_reducible refine Kd.C_drewN ?_ _) | (with_reducible refine Kd.C_drew ?_))); (case side4 => exact HC0.out); rintro e w' ⟨rfl, ⟨nd, rfl⟩⟩))
       go_ret
       exact ⟨by first | rfl | (simp [errW_none, errW_some] <;> rfl) | (simp [*, errW_none, errW_some] <;> rfl), by repeat (first | (with_reducible first | exact HB.out | apply below_alloc | apply pw_below_drewN | apply below_drew1) | exact HB.out)⟩
      ·replace c17 := Bool.eq_false_iff.mpr c17
       subst c17
       have H1 : (some false) = some r := by rw [if_neg (show ¬ (false = true) by decide)] at H; exact H
       clear H
       have H := H1
       clear H1
       obtain rfl := Option.some.inj H
       go_enter Try.func14, Try.ntmps14
       go_wp2_with (first | ((with_reducible refine gate_callee (f := 59) rfl ?_); refine goesL_ (some 13) rfl rfl Try.func59 (by kernel_rfl) rfl #[.slice A0 l0.length c0] rfl (by (try simp only [List.map_toArray, List.map_cons, List.map_nil]); first | done | rfl | (simp only [List.length_drop, List.length_take]; rfl)) ?_; (with_reducible refine (tripartitelaw07_Few.calls k _ _ l0 true _ ?side1 ?side2 A4.out).mono ?_); (case side1 => repeat (first | exact HR0.out | (with_reducible refine Kd.C_alloc ?_ _) | (with_reducible refine Kd.C_drewN ?_ _) | (with_reducible refine Kd.C_drew ?_))); (case side2 => exact HC0.out); rintro e w33 ⟨rfl, hb⟩; refine ⟨_, rfl, ?_⟩; have n0_ := Aside0.mk (below_step (by repeat (first | (with_reducible first | exact HB.out | apply below_alloc | apply pw_below_drewN | apply below_drew1) | exact HB.out)) hb); clear HB; have HB := n0_; clear n0_; (try clear hb); (try clear hb2); (try clear hk); (try clear hi)) | ((with_reducible refine gate_callee (f := 61) rfl ?_); refine goesL_ (some 17) rfl rfl Try.func61 (by kernel_rfl) rfl #[.slice A0 l0.length c0] rfl (by (try simp only [List.map_toArray, List.map_cons, List.map_nil]); first | done | rfl | (simp only [List.length_drop, List.length_take]; rfl)) ?_; (with_reducible refine (tripartitelaw07_To.calls k _ _ l0 t103 _ ?side1 ?side2 A6.out).mono ?_); (case side1 => repeat (first | exact (Kd.C_below HR0.out HB.out) | (with_reducible refine Kd.C_alloc ?_ _) | (with_reducible refine Kd.C_drewN ?_ _) | (with_reducible refine Kd.C_drew ?_))); (case side2 => exact HC0.out); rintro e w34 ⟨v104, rfl, ho0, hb⟩; refine ⟨_, rfl, ?_⟩; have n0_ := Aside0.mk (Kd.R_lower ho0 (below_size (by repeat (first | (with_reducible first | exact HB.out | apply below_alloc | apply pw_below_drewN | apply below_drew1) | exact HB.out)))); have n1_ := Aside0.mk (below_step (by repeat (first | (with_reducible first | exact HB.out | apply below_alloc | apply pw_below_drewN | apply below_drew1) | exact HB.out)) hb); clear HB; have HO105 := n0_; have HB := n1_; clear n0_ n1_; (try clear hb); (try clear hb2); (try clear hk); (try clear hi); (try clear ho0); obtain ⟨Ao35, co35, eo35⟩ := Kd.R_slice HO105.out; subst eo35) | ((with_reducible refine gate_callee (f := 68) rfl ?_); refine goesL_ (some 22) rfl rfl Try.func68 (by kernel_rfl) rfl #[.slice Ao35 t103.length co35, .int .i64 a1, .int .i64 a2] rfl (by (try simp only [List.map_toArray, List.map_cons, List.map_nil]); first | done | rfl | (simp only [List.length_drop, List.length_take]; rfl)) ?_; (with_reducible refine (resolve_One.calls k _ _ t103 a1 a2 t106 t107 _ ?side1 ?side2 A7.out).mono ?_); (case side1 => repeat (first | exact (Kd.R_reads' HO105.out).2.2 | (with_reducible refine Kd.C_alloc ?_ _) | (with_reducible refine Kd.C_drewN ?_ _) | (with_reducible refine Kd.C_drew ?_))); (case side2 => exact (Kd.R_reads' HO105.out).2.1); rintro e w36 ⟨v108, rfl, ho0, hb⟩; refine ⟨_, rfl, ?_⟩; have n0_ := Aside0.mk (Kd.R_elder' (by (with_reducible repeat (first | apply Kd.R_alloc | apply Kd.R_drewN | apply Kd.R_drew)); exact HO105.out) (Kd.R_base ho0) hb); have n1_ := Aside0.mk (Kd.R_lower (Kd.R_new' ho0 (Kd.R_lt (by (with_reducible repeat (first | apply Kd.R_alloc | apply Kd.R_drewN | apply Kd.R_drew)); exact HO105.out))) (below_size (by repeat (first | (with_reducible first | exact HB.out | apply below_alloc | apply pw_below_drewN | apply below_drew1) | exact HB.out)))); have n2_ := Aside0.mk (below_step (by repeat (first | (with_reducible first | exact HB.out | apply below_alloc | apply pw_below_drewN | apply below_drew1) | exact HB.out)) hb); clear HO105; clear HB; have HO105 := n0_; have HO109 := n1_; have HB := n2_; clear n0_ n1_ n2_; (try clear hb); (try clear hb2); (try clear hk); (try clear hi); (try clear ho0)) | ((with_reducible refine gate_callee (f := 69) rfl ?_); refine goesL_ (some 29) rfl rfl Try.func69 (by kernel_rfl) rfl #[.slice A0 l0.length c0, .int .i64 a1, .int .i64 a2] rfl (by (try simp only [List.map_toArray, List.map_cons, List.map_nil]); first | done | rfl | (simp only [List.length_drop, List.length_take]; rfl)) ?_; (with_reducible refine (tripartiteref11_One.calls k _ _ l0 a1 a2 t110 t111 _ ?side1 ?side2 A8.out).mono ?_); (case side1 => repeat (first | exact (Kd.C_below HR0.out HB.out) | (with_reducible refine Kd.C_alloc ?_ _) | (with_reducible refine Kd.C_drewN ?_ _) | (with_reducible refine Kd.C_drew ?_))); (case side2 => exact HC0.out); rintro e w37 ⟨v112, rfl, ho0, hb⟩; refine ⟨_, rfl, ?_⟩; have n0_ := Aside0.mk (Kd.R_below (by (with_reducible repeat (first | apply Kd.R_alloc | apply Kd.R_drewN | apply Kd.R_drew)); exact HO105.out) hb); have n1_ := Aside0.mk (Kd.R_below (by (with_reducible repeat (first | apply Kd.R_alloc | apply Kd.R_drewN | apply Kd.R_drew)); exact HO109.out) hb); have n2_ := Aside0.mk (Kd.R_lower ho0 (below_size (by repeat (first | (with_reducible first | exact HB.out | apply below_alloc | apply pw_below_drewN | apply below_drew1) | exact HB.out)))); have n3_ := Aside0.mk (below_step (by repeat (first | (with_reducible first | exact HB.out | apply below_alloc | apply pw_below_drewN | apply below_drew1) | exact HB.out)) hb); clear HO105; clear HO109; clear HB; have HO105 := n0_; have HO109 := n1_; have HO113 := n2_; have HB := n3_; clear n0_ n1_ n2_ n3_; (try clear hb); (try clear hb2); (try clear hk); (try clear hi); (try clear ho0)) | ((with_reducible refine gate_callee (f := 60) rfl ?_); refine goesL_ (some 32) rfl rfl Try.func60 (by kernel_rfl) rfl #[] rfl (by (try simp only [List.map_toArray, List.map_cons, List.map_nil]); first | done | rfl | (simp only [List.length_drop, List.length_take]; rfl)) ?_; (with_reducible refine (tripartitelaw11_told.calls k  true _ A9.out).mono ?_); rintro e w38 ⟨rfl, hb⟩; refine ⟨_, rfl, ?_⟩; have n0_ := Aside0.mk (Kd.R_below (by (with_reducible repeat (first | apply Kd.R_alloc | apply Kd.R_drewN | apply Kd.R_drew)); exact HO105.out) hb); have n1_ := Aside0.mk (Kd.R_below (by (with_reducible repeat (first | apply Kd.R_alloc | apply Kd.R_drewN | apply Kd.R_drew)); exact HO109.out) hb); have n2_ := Aside0.mk (Kd.R_below (by (with_reducible repeat (first | apply Kd.R_alloc | apply Kd.R_drewN | apply Kd.R_drew)); exact HO113.out) hb); have n3_ := Aside0.mk (below_step (by repeat (first | (with_reducible first | exact HB.out | apply below_alloc | apply pw_below_drewN | apply below_drew1) | exact HB.out)) hb); clear HO105; clear HO109; clear HO113; clear HB; have HO105 := n0_; have HO109 := n1_; have HO113 := n2_; have HB := n3_; clear n0_ n1_ n2_ n3_; (try clear hb); (try clear hb2); (try clear hk); (try clear hi); obtain ⟨Ao39, co39, eo39⟩ := Kd.R_slice HO109.out; subst eo39) | (go_at_call 67; (with_reducible refine (tripartitelaw07_From.calls k _ _ t106 t115 _ ?side1 ?side2 A12.out).mono ?_); (case side1 => repeat (first | exact (Kd.R_reads' HO109.out).2.2 | (with_reducible refine Kd.C_alloc ?_ _) | (with_reducible refine Kd.C_drewN ?_ _) | (with_reducible refine Kd.C_drew ?_))); (case side2 => exact (Kd.R_reads' HO109.out).2.1); rintro e w40 ⟨v116, rfl, ho0, hb⟩; have n0_ := Aside0.mk (Kd.R_below (by (with_reducible repeat (first | apply Kd.R_alloc | apply Kd.R_drewN | apply Kd.R_drew)); exact HO105.out) hb); have n1_ := Aside0.mk (Kd.R_below (by (with_reducible repeat (first | apply Kd.R_alloc | apply Kd.R_drewN | apply Kd.R_drew)); exact HO109.out) hb); have n2_ := Aside0.mk (Kd.R_elder' (by (with_reducible repeat (first | apply Kd.R_alloc | apply Kd.R_drewN | apply Kd.R_drew)); exact HO113.out) (Kd.R_base ho0) hb); have n3_ := Aside0.mk (Kd.R_lower (Kd.R_new' ho0 (Kd.R_lt (by (with_reducible repeat (first | apply Kd.R_alloc | apply Kd.R_drewN | apply Kd.R_drew)); exact HO113.out))) (below_size (by repeat (first | (with_reducible first | exact HB.out | apply below_alloc | apply pw_below_drewN | apply below_drew1) | exact HB.out)))); have n4_ := Aside0.mk (below_step (by repeat (first | (with_reducible first | exact HB.out | apply below_alloc | apply pw_below_drewN | apply below_drew1) | exact HB.out)) hb); clear HO105; clear HO109; clear HO113; clear HB; have HO105 := n0_; have HO109 := n1_; have HO113 := n2_; have HO117 := n3_; have HB := n4_; clear n0_ n1_ n2_ n3_ n4_; (try clear hb); (try clear hb2); (try clear hk); (try clear hi); (try clear ho0); obtain ⟨Ao41, co41, eo41⟩ := Kd.R_slice HO117.out; subst eo41; obtain ⟨Ao42, co42, eo42⟩ := Kd.R_slice HO113.out; subst eo42) | (go_at_call 66; (with_reducible refine (tripartiteref07_Same.calls k _ _ t115 _ _ t110 true _ ?side1 ?side2 ?side3 ?side4 A13.out).mono ?_); (case side1 => repeat (first | exact (Kd.R_reads' HO117.out).2.2 | (with_reducible refine Kd.C_alloc ?_ _) | (with_reducible refine Kd.C_drewN ?_ _) | (with_reducible refine Kd.C_drew ?_))); (case side2 => exact (Kd.R_reads' HO117.out).2.1); (case side3 => repeat (first | exact (Kd.R_reads' HO113.out).2.2 | (with_reducible refine Kd.C_alloc ?_ _) | (with_reducible refine Kd.C_drewN ?_ _) | (with_reducible refine Kd.C_drew ?_))); (case side4 => exact (Kd.R_reads' HO113.out).2.1); rintro e w' ⟨rfl, ⟨nd, rfl⟩⟩) | (go_at_call 70; (with_reducible refine (doc_Doc_Right.calls k _ _ t106 false _ ?side1 ?side2 A16.out).mono ?_); (case side1 => repeat (first | exact (Kd.R_reads' HO109.out).2.2 | (with_reducible refine Kd.C_alloc ?_ _) | (with_reducible refine Kd.C_drewN ?_ _) | (with_reducible refine Kd.C_drew ?_))); (case side2 => exact (Kd.R_reads' HO109.out).2.1); rintro e w43 ⟨rfl, hb⟩; have n0_ := Aside0.mk (Kd.R_below (by (with_reducible repeat (first | apply Kd.R_alloc | apply Kd.R_drewN | apply Kd.R_drew)); exact HO105.out) hb); have n1_ := Aside0.mk (Kd.R_below (by (with_reducible repeat (first | apply Kd.R_alloc | apply Kd.R_drewN | apply Kd.R_drew)); exact HO109.out) hb); have n2_ := Aside0.mk (Kd.R_below (by (with_reducible repeat (first | apply Kd.R_alloc | apply Kd.R_drewN | apply Kd.R_drew)); exact HO113.out) hb); have n3_ := Aside0.mk (Kd.R_below (by (with_reducible repeat (first | apply Kd.R_alloc | apply Kd.R_drewN | apply Kd.R_drew)); exact HO117.out) hb); have n4_ := Aside0.mk (below_step (by repeat (first | (with_reducible first | exact HB.out | apply below_alloc | apply pw_below_drewN | apply below_drew1) | exact HB.out)) hb); clear HO105; clear HO109; clear HO113; clear HO117; clear HB; have HO105 := n0_; have HO109 := n1_; have HO113 := n2_; have HO117 := n3_; have HB := n4_; clear n0_ n1_ n2_ n3_ n4_; (try clear hb); (try clear hb2); (try clear hk); (try clear hi)))
       go_ret
       exact ⟨by first | rfl | (simp [errW_none, errW_some] <;> rfl) | (simp [*, errW_none, errW_some] <;> rfl), by repeat (first | (with_reducible first | exact HB.out | apply below_alloc | apply pw_below_drewN | apply below_drew1) | exact HB.out)⟩
     ·rw [if_neg c15] at H
      have c15b0 : (t107 == 0) = false := beq_eq_false_iff_ne.mpr c15
      have c15b1 : (t107 != 0) = true := bne_iff_ne.mpr c15
      replace H := Option.bind_eq_some_iff.mp H
      obtain ⟨t124, A440, H⟩ := H
      replace H : ((tripartiteref07_Same.f k t124 l0).bind fun t127 => (some t127)) = some r := H
      have A44 := Aside0.mk A440
      clear A440
      replace H := Option.bind_eq_some_iff.mp H
      obtain ⟨t127, A450, H⟩ := H
      replace H : (some t127) = some r := H
      have A45 := Aside0.mk A450
      clear A450
      obtain rfl := Option.some.inj H
      go_enter Try.func14, Try.ntmps14
      go_wp2_with (first | ((with_reducible refine gate_callee (f := 59) rfl ?_); refine goesL_ (some 13) rfl rfl Try.func59 (by kernel_rfl) rfl #[.slice A0 l0.length c0] rfl (by (try simp only [List.map_toArray, List.map_cons, List.map_nil]); first | done | rfl | (simp only [List.length_drop, List.length_take]; rfl)) ?_; (with_reducible refine (tripartitelaw07_Few.calls k _ _ l0 true _ ?side1 ?side2 A4.out).mono ?_); (case side1 => repeat (first | exact HR0.out | (with_reducible refine Kd.C_alloc ?_ _) | (with_reducible refine Kd.C_drewN ?_ _) | (with_reducible refine Kd.C_drew ?_))); (case side2 => exact HC0.out); rintro e w46 ⟨rfl, hb⟩; refine ⟨_, rfl, ?_⟩; have n0_ := Aside0.mk (below_step (by repeat (first | (with_reducible first | exact HB.out | apply below_alloc | apply pw_below_drewN | apply below_drew1) | exact HB.out)) hb); clear HB; have HB := n0_; clear n0_; (try clear hb); (try clear hb2); (try clear hk); (try clear hi)) | ((with_reducible refine gate_callee (f := 61) rfl ?_); refine goesL_ (some 17) rfl rfl Try.func61 (by kernel_rfl) rfl #[.slice A0 l0.length c0] rfl (by (try simp only [List.map_toArray, List.map_cons, List.map_nil]); first | done | rfl | (simp only [List.length_drop, List.length_take]; rfl)) ?_; (with_reducible refine (tripartitelaw07_To.calls k _ _ l0 t103 _ ?side1 ?side2 A6.out).mono ?_); (case side1 => repeat (first | exact (Kd.C_below HR0.out HB.out) | (with_reducible refine Kd.C_alloc ?_ _) | (with_reducible refine Kd.C_drewN ?_ _) | (with_reducible refine Kd.C_drew ?_))); (case side2 => exact HC0.out); rintro e w47 ⟨v104, rfl, ho0, hb⟩; refine ⟨_, rfl, ?_⟩; have n0_ := Aside0.mk (Kd.R_lower ho0 (below_size (by repeat (first | (with_reducible first | exact HB.out | apply below_alloc | apply pw_below_drewN | apply below_drew1) | exact HB.out)))); have n1_ := Aside0.mk (below_step (by repeat (first | (with_reducible first | exact HB.out | apply below_alloc | apply pw_below_drewN | apply below_drew1) | exact HB.out)) hb); clear HB; have HO105 := n0_; have HB := n1_; clear n0_ n1_; (try clear hb); (try clear hb2); (try clear hk); (try clear hi); (try clear ho0); obtain ⟨Ao48, co48, eo48⟩ := Kd.R_slice HO105.out; subst eo48) | ((with_reducible refine gate_callee (f := 68) rfl ?_); refine goesL_ (some 22) rfl rfl Try.func68 (by kernel_rfl) rfl #[.slice Ao48 t103.length co48, .int .i64 a1, .int .i64 a2] rfl (by (try simp only [List.map_toArray, List.map_cons, List.map_nil]); first | done | rfl | (simp only [List.length_drop, List.length_take]; rfl)) ?_; (with_reducible refine (resolve_One.calls k _ _ t103 a1 a2 t106 t107 _ ?side1 ?side2 A7.out).mono ?_); (case side1 => repeat (first | exact (Kd.R_reads' HO105.out).2.2 | (with_reducible refine Kd.C_alloc ?_ _) | (with_reducible refine Kd.C_drewN ?_ _) | (with_reducible refine Kd.C_drew ?_))); (case side2 => exact (Kd.R_reads' HO105.out).2.1); rintro e w49 ⟨v108, rfl, ho0, hb⟩; refine ⟨_, rfl, ?_⟩; have n0_ := Aside0.mk (Kd.R_elder' (by (with_reducible repeat (first | apply Kd.R_alloc | apply Kd.R_drewN | apply Kd.R_drew)); exact HO105.out) (Kd.R_base ho0) hb); have n1_ := Aside0.mk (Kd.R_lower (Kd.R_new' ho0 (Kd.R_lt (by (with_reducible repeat (first | apply Kd.R_alloc | apply Kd.R_drewN | apply Kd.R_drew)); exact HO105.out))) (below_size (by repeat (first | (with_reducible first | exact HB.out | apply below_alloc | apply pw_below_drewN | apply below_drew1) | exact HB.out)))); have n2_ := Aside0.mk (below_step (by repeat (first | (with_reducible first | exact HB.out | apply below_alloc | apply pw_below_drewN | apply below_drew1) | exact HB.out)) hb); clear HO105; clear HB; have HO105 := n0_; have HO109 := n1_; have HB := n2_; clear n0_ n1_ n2_; (try clear hb); (try clear hb2); (try clear hk); (try clear hi); (try clear ho0)) | ((with_reducible refine gate_callee (f := 69) rfl ?_); refine goesL_ (some 29) rfl rfl Try.func69 (by kernel_rfl) rfl #[.slice A0 l0.length c0, .int .i64 a1, .int .i64 a2] rfl (by (try simp only [List.map_toArray, List.map_cons, List.map_nil]); first | done | rfl | (simp only [List.length_drop, List.length_take]; rfl)) ?_; (with_reducible refine (tripartiteref11_One.calls k _ _ l0 a1 a2 t110 t111 _ ?side1 ?side2 A8.out).mono ?_); (case side1 => repeat (first | exact (Kd.C_below HR0.out HB.out) | (with_reducible refine Kd.C_alloc ?_ _) | (with_reducible refine Kd.C_drewN ?_ _) | (with_reducible refine Kd.C_drew ?_))); (case side2 => exact HC0.out); rintro e w50 ⟨v112, rfl, ho0, hb⟩; refine ⟨_, rfl, ?_⟩; have n0_ := Aside0.mk (Kd.R_below (by (with_reducible repeat (first | apply Kd.R_alloc | apply Kd.R_drewN | apply Kd.R_drew)); exact HO105.out) hb); have n1_ := Aside0.mk (Kd.R_below (by (with_reducible repeat (first | apply Kd.R_alloc | apply Kd.R_drewN | apply Kd.R_drew)); exact HO109.out) hb); have n2_ := Aside0.mk (Kd.R_lower ho0 (below_size (by repeat (first | (with_reducible first | exact HB.out | apply below_alloc | apply pw_below_drewN | apply below_drew1) | exact HB.out)))); have n3_ := Aside0.mk (below_step (by repeat (first | (with_reducible first | exact HB.out | apply below_alloc | apply pw_below_drewN | apply below_drew1) | exact HB.out)) hb); clear HO105; clear HO109; clear HB; have HO105 := n0_; have HO109 := n1_; have HO113 := n2_; have HB := n3_; clear n0_ n1_ n2_ n3_; (try clear hb); (try clear hb2); (try clear hk); (try clear hi); (try clear ho0)) | ((with_reducible refine gate_callee (f := 60) rfl ?_); refine goesL_ (some 32) rfl rfl Try.func60 (by kernel_rfl) rfl #[] rfl (by (try simp only [List.map_toArray, List.map_cons, List.map_nil]); first | done | rfl | (simp only [List.length_drop, List.length_take]; rfl)) ?_; (with_reducible refine (tripartitelaw11_told.calls k  true _ A9.out).mono ?_); rintro e w51 ⟨rfl, hb⟩; refine ⟨_, rfl, ?_⟩; have n0_ := Aside0.mk (Kd.R_below (by (with_reducible repeat (first | apply Kd.R_alloc | apply Kd.R_drewN | apply Kd.R_drew)); exact HO105.out) hb); have n1_ := Aside0.mk (Kd.R_below (by (with_reducible repeat (first | apply Kd.R_alloc | apply Kd.R_drewN | apply Kd.R_drew)); exact HO109.out) hb); have n2_ := Aside0.mk (Kd.R_below (by (with_reducible repeat (first | apply Kd.R_alloc | apply Kd.R_drewN | apply Kd.R_drew)); exact HO113.out) hb); have n3_ := Aside0.mk (below_step (by repeat (first | (with_reducible first | exact HB.out | apply below_alloc | apply pw_below_drewN | apply below_drew1) | exact HB.out)) hb); clear HO105; clear HO109; clear HO113; clear HB; have HO105 := n0_; have HO109 := n1_; have HO113 := n2_; have HB := n3_; clear n0_ n1_ n2_ n3_; (try clear hb); (try clear hb2); (try clear hk); (try clear hi); obtain ⟨Ao52, co52, eo52⟩ := Kd.R_slice HO109.out; subst eo52) | (go_at_call 67; (with_reducible refine (tripartitelaw07_From.calls k _ _ t106 t115 _ ?side1 ?side2 A12.out).mono ?_); (case side1 => repeat (first | exact (Kd.R_reads' HO109.out).2.2 | (with_reducible refine Kd.C_alloc ?_ _) | (with_reducible refine Kd.C_drewN ?_ _) | (with_reducible refine Kd.C_drew ?_))); (case side2 => exact (Kd.R_reads' HO109.out).2.1); rintro e w53 ⟨v116, rfl, ho0, hb⟩; have n0_ := Aside0.mk (Kd.R_below (by (with_reducible repeat (first | apply Kd.R_alloc | apply Kd.R_drewN | apply Kd.R_drew)); exact HO105.out) hb); have n1_ := Aside0.mk (Kd.R_below (by (with_reducible repeat (first | apply Kd.R_alloc | apply Kd.R_drewN | apply Kd.R_drew)); exact HO109.out) hb); have n2_ := Aside0.mk (Kd.R_elder' (by (with_reducible repeat (first | apply Kd.R_alloc | apply Kd.R_drewN | apply Kd.R_drew)); exact HO113.out) (Kd.R_base ho0) hb); have n3_ := Aside0.mk (Kd.R_lower (Kd.R_new' ho0 (Kd.R_lt (by (with_reducible repeat (first | apply Kd.R_alloc | apply Kd.R_drewN | apply Kd.R_drew)); exact HO113.out))) (below_size (by repeat (first | (with_reducible first | exact HB.out | apply below_alloc | apply pw_below_drewN | apply below_drew1) | exact HB.out)))); have n4_ := Aside0.mk (below_step (by repeat (first | (with_reducible first | exact HB.out | apply below_alloc | apply pw_below_drewN | apply below_drew1) | exact HB.out)) hb); clear HO105; clear HO109; clear HO113; clear HB; have HO105 := n0_; have HO109 := n1_; have HO113 := n2_; have HO117 := n3_; have HB := n4_; clear n0_ n1_ n2_ n3_ n4_; (try clear hb); (try clear hb2); (try clear hk); (try clear hi); (try clear ho0); obtain ⟨Ao54, co54, eo54⟩ := Kd.R_slice HO117.out; subst eo54; obtain ⟨Ao55, co55, eo55⟩ := Kd.R_slice HO113.out; subst eo55) | (go_at_call 66; (with_reducible refine (tripartiteref07_Same.calls k _ _ t115 _ _ t110 true _ ?side1 ?side2 ?side3 ?side4 A13.out).mono ?_); (case side1 => repeat (first | exact (Kd.R_reads' HO117.out).2.2 | (with_reducible refine Kd.C_alloc ?_ _) | (with_reducible refine Kd.C_drewN ?_ _) | (with_reducible refine Kd.C_drew ?_))); (case side2 => exact (Kd.R_reads' HO117.out).2.1); (case side3 => repeat (first | exact (Kd.R_reads' HO113.out).2.2 | (with_reducible refine Kd.C_alloc ?_ _) | (with_reducible refine Kd.C_drewN ?_ _) | (with_reducible refine Kd.C_drew ?_))); (case side4 => exact (Kd.R_reads' HO113.out).2.1); rintro e w' ⟨rfl, ⟨nd, rfl⟩⟩) | (go_at_call 67; (with_reducible refine (tripartitelaw07_From.calls k _ _ t103 t124 _ ?side1 ?side2 A44.out).mono ?_); (case side1 => repeat (first | exact (Kd.R_reads' HO105.out).2.2 | (with_reducible refine Kd.C_alloc ?_ _) | (with_reducible refine Kd.C_drewN ?_ _) | (with_reducible refine Kd.C_drew ?_))); (case side2 => exact (Kd.R_reads' HO105.out).2.1); rintro e w56 ⟨v125, rfl, ho0, hb⟩; have n0_ := Aside0.mk (Kd.R_below (by (with_reducible repeat (first | apply Kd.R_alloc | apply Kd.R_drewN | apply Kd.R_drew)); exact HO105.out) hb); have n1_ := Aside0.mk (Kd.R_below (by (with_reducible repeat (first | apply Kd.R_alloc | apply Kd.R_drewN | apply Kd.R_drew)); exact HO109.out) hb); have n2_ := Aside0.mk (Kd.R_elder' (by (with_reducible repeat (first | apply Kd.R_alloc | apply Kd.R_drewN | apply Kd.R_drew)); exact HO113.out) (Kd.R_base ho0) hb); have n3_ := Aside0.mk (Kd.R_elder' (by (with_reducible repeat (first | apply Kd.R_alloc | apply Kd.R_drewN | apply Kd.R_drew)); exact HO117.out) (Kd.R_base ho0) hb); have n4_ := Aside0.mk (Kd.R_lower (Kd.R_new' (Kd.R_new' ho0 (Kd.R_lt (by (with_reducible repeat (first | apply Kd.R_alloc | apply Kd.R_drewN | apply Kd.R_drew)); exact HO113.out))) (Kd.R_lt (by (with_reducible repeat (first | apply Kd.R_alloc | apply Kd.R_drewN | apply Kd.R_drew)); exact HO117.out))) (below_size (by repeat (first | (with_reducible first | exact HB.out | apply below_alloc | apply pw_below_drewN | apply below_drew1) | exact HB.out)))); have n5_ := Aside0.mk (below_step (by repeat (first | (with_reducible first | exact HB.out | apply below_alloc | apply pw_below_drewN | apply below_drew1) | exact HB.out)) hb); clear HO105; clear HO109; clear HO113; clear HO117; clear HB; have HO105 := n0_; have HO109 := n1_; have HO113 := n2_; have HO117 := n3_; have HO126 := n4_; have HB := n5_; clear n0_ n1_ n2_ n3_ n4_ n5_; (try clear hb); (try clear hb2); (try clear hk); (try clear hi); (try clear ho0); obtain ⟨Ao57, co57, eo57⟩ := Kd.R_slice HO126.out; subst eo57) | (go_at_call 66; (with_reducible refine (tripartiteref07_Same.calls k _ _ t124 _ _ l0 t127 _ ?side1 ?side2 ?side3 ?side4 A45.out).mono ?_); (case side1 => repeat (first | exact (Kd.R_reads' HO126.out).2.2 | (with_reducible refine Kd.C_alloc ?_ _) | (with_reducible refine Kd.C_drewN ?_ _) | (with_reducible refine Kd.C_drew ?_))); (case side2 => exact (Kd.R_reads' HO126.out).2.1); (case side3 => repeat (first | exact (Kd.C_below HR0.out HB.out) | (with_reducible refine Kd.C_alloc ?_ _) | (with_reducible refine Kd.C_drewN ?_ _) | (with_reducible refine Kd.C_drew ?_))); (case side4 => exact HC0.out); rintro e w' ⟨rfl, ⟨nd, rfl⟩⟩))
      go_ret
      exact ⟨by first | rfl | (simp [errW_none, errW_some] <;> rfl) | (simp [*, errW_none, errW_some] <;> rfl), by repeat (first | (with_reducible first | exact HB.out | apply below_alloc | apply pw_below_drewN | apply below_drew1) | exact HB.out)⟩
    ·replace c14 := Bool.eq_false_iff.mpr c14
     subst c14
     have H1 : (some false) = some r := by rw [if_neg (show ¬ (false = true) by decide)] at H; exact H
     clear H
     have H := H1
     clear H1
     obtain rfl := Option.some.inj H
     go_enter Try.func14, Try.ntmps14
     go_wp2_with (first | ((with_reducible refine gate_callee (f := 59) rfl ?_); refine goesL_ (some 13) rfl rfl Try.func59 (by kernel_rfl) rfl #[.slice A0 l0.length c0] rfl (by (try simp only [List.map_toArray, List.map_cons, List.map_nil]); first | done | rfl | (simp only [List.length_drop, List.length_take]; rfl)) ?_; (with_reducible refine (tripartitelaw07_Few.calls k _ _ l0 true _ ?side1 ?side2 A4.out).mono ?_); (case side1 => repeat (first | exact HR0.out | (with_reducible refine Kd.C_alloc ?_ _) | (with_reducible refine Kd.C_drewN ?_ _) | (with_reducible refine Kd.C_drew ?_))); (case side2 => exact HC0.out); rintro e w58 ⟨rfl, hb⟩; refine ⟨_, rfl, ?_⟩; have n0_ := Aside0.mk (below_step (by repeat (first | (with_reducible first | exact HB.out | apply below_alloc | apply pw_below_drewN | apply below_drew1) | exact HB.out)) hb); clear HB; have HB := n0_; clear n0_; (try clear hb); (try clear hb2); (try clear hk); (try clear hi)) | ((with_reducible refine gate_callee (f := 61) rfl ?_); refine goesL_ (some 17) rfl rfl Try.func61 (by kernel_rfl) rfl #[.slice A0 l0.length c0] rfl (by (try simp only [List.map_toArray, List.map_cons, List.map_nil]); first | done | rfl | (simp only [List.length_drop, List.length_take]; rfl)) ?_; (with_reducible refine (tripartitelaw07_To.calls k _ _ l0 t103 _ ?side1 ?side2 A6.out).mono ?_); (case side1 => repeat (first | exact (Kd.C_below HR0.out HB.out) | (with_reducible refine Kd.C_alloc ?_ _) | (with_reducible refine Kd.C_drewN ?_ _) | (with_reducible refine Kd.C_drew ?_))); (case side2 => exact HC0.out); rintro e w59 ⟨v104, rfl, ho0, hb⟩; refine ⟨_, rfl, ?_⟩; have n0_ := Aside0.mk (Kd.R_lower ho0 (below_size (by repeat (first | (with_reducible first | exact HB.out | apply below_alloc | apply pw_below_drewN | apply below_drew1) | exact HB.out)))); have n1_ := Aside0.mk (below_step (by repeat (first | (with_reducible first | exact HB.out | apply below_alloc | apply pw_below_drewN | apply below_drew1) | exact HB.out)) hb); clear HB; have HO105 := n0_; have HB := n1_; clear n0_ n1_; (try clear hb); (try clear hb2); (try clear hk); (try clear hi); (try clear ho0); obtain ⟨Ao60, co60, eo60⟩ := Kd.R_slice HO105.out; subst eo60) | ((with_reducible refine gate_callee (f := 68) rfl ?_); refine goesL_ (some 22) rfl rfl Try.func68 (by kernel_rfl) rfl #[.slice Ao60 t103.length co60, .int .i64 a1, .int .i64 a2] rfl (by (try simp only [List.map_toArray, List.map_cons, List.map_nil]); first | done | rfl | (simp only [List.length_drop, List.length_take]; rfl)) ?_; (with_reducible refine (resolve_One.calls k _ _ t103 a1 a2 t106 t107 _ ?side1 ?side2 A7.out).mono ?_); (case side1 => repeat (first | exact (Kd.R_reads' HO105.out).2.2 | (with_reducible refine Kd.C_alloc ?_ _) | (with_reducible refine Kd.C_drewN ?_ _) | (with_reducible refine Kd.C_drew ?_))); (case side2 => exact (Kd.R_reads' HO105.out).2.1); rintro e w61 ⟨v108, rfl, ho0, hb⟩; refine ⟨_, rfl, ?_⟩; have n0_ := Aside0.mk (Kd.R_elder' (by (with_reducible repeat (first | apply Kd.R_alloc | apply Kd.R_drewN | apply Kd.R_drew)); exact HO105.out) (Kd.R_base ho0) hb); have n1_ := Aside0.mk (Kd.R_lower (Kd.R_new' ho0 (Kd.R_lt (by (with_reducible repeat (first | apply Kd.R_alloc | apply Kd.R_drewN | apply Kd.R_drew)); exact HO105.out))) (below_size (by repeat (first | (with_reducible first | exact HB.out | apply below_alloc | apply pw_below_drewN | apply below_drew1) | exact HB.out)))); have n2_ := Aside0.mk (below_step (by repeat (first | (with_reducible first | exact HB.out | apply below_alloc | apply pw_below_drewN | apply below_drew1) | exact HB.out)) hb); clear HO105; clear HB; have HO105 := n0_; have HO109 := n1_; have HB := n2_; clear n0_ n1_ n2_; (try clear hb); (try clear hb2); (try clear hk); (try clear hi); (try clear ho0)) | ((with_reducible refine gate_callee (f := 69) rfl ?_); refine goesL_ (some 29) rfl rfl Try.func69 (by kernel_rfl) rfl #[.slice A0 l0.length c0, .int .i64 a1, .int .i64 a2] rfl (by (try simp only [List.map_toArray, List.map_cons, List.map_nil]); first | done | rfl | (simp only [List.length_drop, List.length_take]; rfl)) ?_; (with_reducible refine (tripartiteref11_One.calls k _ _ l0 a1 a2 t110 t111 _ ?side1 ?side2 A8.out).mono ?_); (case side1 => repeat (first | exact (Kd.C_below HR0.out HB.out) | (with_reducible refine Kd.C_alloc ?_ _) | (with_reducible refine Kd.C_drewN ?_ _) | (with_reducible refine Kd.C_drew ?_))); (case side2 => exact HC0.out); rintro e w62 ⟨v112, rfl, ho0, hb⟩; refine ⟨_, rfl, ?_⟩; have n0_ := Aside0.mk (Kd.R_below (by (with_reducible repeat (first | apply Kd.R_alloc | apply Kd.R_drewN | apply Kd.R_drew)); exact HO105.out) hb); have n1_ := Aside0.mk (Kd.R_below (by (with_reducible repeat (first | apply Kd.R_alloc | apply Kd.R_drewN | apply Kd.R_drew)); exact HO109.out) hb); have n2_ := Aside0.mk (Kd.R_lower ho0 (below_size (by repeat (first | (with_reducible first | exact HB.out | apply below_alloc | apply pw_below_drewN | apply below_drew1) | exact HB.out)))); have n3_ := Aside0.mk (below_step (by repeat (first | (with_reducible first | exact HB.out | apply below_alloc | apply pw_below_drewN | apply below_drew1) | exact HB.out)) hb); clear HO105; clear HO109; clear HB; have HO105 := n0_; have HO109 := n1_; have HO113 := n2_; have HB := n3_; clear n0_ n1_ n2_ n3_; (try clear hb); (try clear hb2); (try clear hk); (try clear hi); (try clear ho0)) | ((with_reducible refine gate_callee (f := 60) rfl ?_); refine goesL_ (some 32) rfl rfl Try.func60 (by kernel_rfl) rfl #[] rfl (by (try simp only [List.map_toArray, List.map_cons, List.map_nil]); first | done | rfl | (simp only [List.length_drop, List.length_take]; rfl)) ?_; (with_reducible refine (tripartitelaw11_told.calls k  true _ A9.out).mono ?_); rintro e w63 ⟨rfl, hb⟩; refine ⟨_, rfl, ?_⟩; have n0_ := Aside0.mk (Kd.R_below (by (with_reducible repeat (first | apply Kd.R_alloc | apply Kd.R_drewN | apply Kd.R_drew)); exact HO105.out) hb); have n1_ := Aside0.mk (Kd.R_below (by (with_reducible repeat (first | apply Kd.R_alloc | apply Kd.R_drewN | apply Kd.R_drew)); exact HO109.out) hb); have n2_ := Aside0.mk (Kd.R_below (by (with_reducible repeat (first | apply Kd.R_alloc | apply Kd.R_drewN | apply Kd.R_drew)); exact HO113.out) hb); have n3_ := Aside0.mk (below_step (by repeat (first | (with_reducible first | exact HB.out | apply below_alloc | apply pw_below_drewN | apply below_drew1) | exact HB.out)) hb); clear HO105; clear HO109; clear HO113; clear HB; have HO105 := n0_; have HO109 := n1_; have HO113 := n2_; have HB := n3_; clear n0_ n1_ n2_ n3_; (try clear hb); (try clear hb2); (try clear hk); (try clear hi); obtain ⟨Ao64, co64, eo64⟩ := Kd.R_slice HO109.out; subst eo64) | (go_at_call 67; (with_reducible refine (tripartitelaw07_From.calls k _ _ t106 t115 _ ?side1 ?side2 A12.out).mono ?_); (case side1 => repeat (first | exact (Kd.R_reads' HO109.out).2.2 | (with_reducible refine Kd.C_alloc ?_ _) | (with_reducible refine Kd.C_drewN ?_ _) | (with_reducible refine Kd.C_drew ?_))); (case side2 => exact (Kd.R_reads' HO109.out).2.1); rintro e w65 ⟨v116, rfl, ho0, hb⟩; have n0_ := Aside0.mk (Kd.R_below (by (with_reducible repeat (first | apply Kd.R_alloc | apply Kd.R_drewN | apply Kd.R_drew)); exact HO105.out) hb); have n1_ := Aside0.mk (Kd.R_below (by (with_reducible repeat (first | apply Kd.R_alloc | apply Kd.R_drewN | apply Kd.R_drew)); exact HO109.out) hb); have n2_ := Aside0.mk (Kd.R_elder' (by (with_reducible repeat (first | apply Kd.R_alloc | apply Kd.R_drewN | apply Kd.R_drew)); exact HO113.out) (Kd.R_base ho0) hb); have n3_ := Aside0.mk (Kd.R_lower (Kd.R_new' ho0 (Kd.R_lt (by (with_reducible repeat (first | apply Kd.R_alloc | apply Kd.R_drewN | apply Kd.R_drew)); exact HO113.out))) (below_size (by repeat (first | (with_reducible first | exact HB.out | apply below_alloc | apply pw_below_drewN | apply below_drew1) | exact HB.out)))); have n4_ := Aside0.mk (below_step (by repeat (first | (with_reducible first | exact HB.out | apply below_alloc | apply pw_below_drewN | apply below_drew1) | exact HB.out)) hb); clear HO105; clear HO109; clear HO113; clear HB; have HO105 := n0_; have HO109 := n1_; have HO113 := n2_; have HO117 := n3_; have HB := n4_; clear n0_ n1_ n2_ n3_ n4_; (try clear hb); (try clear hb2); (try clear hk); (try clear hi); (try clear ho0); obtain ⟨Ao66, co66, eo66⟩ := Kd.R_slice HO117.out; subst eo66; obtain ⟨Ao67, co67, eo67⟩ := Kd.R_slice HO113.out; subst eo67) | (go_at_call 66; (with_reducible refine (tripartiteref07_Same.calls k _ _ t115 _ _ t110 false _ ?side1 ?side2 ?side3 ?side4 A13.out).mono ?_); (case side1 => repeat (first | exact (Kd.R_reads' HO117.out).2.2 | (with_reducible refine Kd.C_alloc ?_ _) | (with_reducible refine Kd.C_drewN ?_ _) | (with_reducible refine Kd.C_drew ?_))); (case side2 => exact (Kd.R_reads' HO117.out).2.1); (case side3 => repeat (first | exact (Kd.R_reads' HO113.out).2.2 | (with_reducible refine Kd.C_alloc ?_ _) | (with_reducible refine Kd.C_drewN ?_ _) | (with_reducible refine Kd.C_drew ?_))); (case side4 => exact (Kd.R_reads' HO113.out).2.1); rintro e w' ⟨rfl, ⟨nd, rfl⟩⟩))
     go_ret
     exact ⟨by first | rfl | (simp [errW_none, errW_some] <;> rfl) | (simp [*, errW_none, errW_some] <;> rfl), by repeat (first | (with_reducible first | exact HB.out | apply below_alloc | apply pw_below_drewN | apply below_drew1) | exact HB.out)⟩
   ·rw [if_neg c11] at H
    have c11b0 : (t107 == t111) = false := beq_eq_false_iff_ne.mpr c11
    have c11b1 : (t107 != t111) = true := bne_iff_ne.mpr c11
    obtain rfl := Option.some.inj H
    go_enter Try.func14, Try.ntmps14
    go_wp2_with (first | ((with_reducible refine gate_callee (f := 59) rfl ?_); refine goesL_ (some 13) rfl rfl Try.func59 (by kernel_rfl) rfl #[.slice A0 l0.length c0] rfl (by (try simp only [List.map_toArray, List.map_cons, List.map_nil]); first | done | rfl | (simp only [List.length_drop, List.length_take]; rfl)) ?_; (with_reducible refine (tripartitelaw07_Few.calls k _ _ l0 true _ ?side1 ?side2 A4.out).mono ?_); (case side1 => repeat (first | exact HR0.out | (with_reducible refine Kd.C_alloc ?_ _) | (with_reducible refine Kd.C_drewN ?_ _) | (with_reducible refine Kd.C_drew ?_))); (case side2 => exact HC0.out); rintro e w68 ⟨rfl, hb⟩; refine ⟨_, rfl, ?_⟩; have n0_ := Aside0.mk (below_step (by repeat (first | (with_reducible first | exact HB.out | apply below_alloc | apply pw_below_drewN | apply below_drew1) | exact HB.out)) hb); clear HB; have HB := n0_; clear n0_; (try clear hb); (try clear hb2); (try clear hk); (try clear hi)) | ((with_reducible refine gate_callee (f := 61) rfl ?_); refine goesL_ (some 17) rfl rfl Try.func61 (by kernel_rfl) rfl #[.slice A0 l0.length c0] rfl (by (try simp only [List.map_toArray, List.map_cons, List.map_nil]); first | done | rfl | (simp only [List.length_drop, List.length_take]; rfl)) ?_; (with_reducible refine (tripartitelaw07_To.calls k _ _ l0 t103 _ ?side1 ?side2 A6.out).mono ?_); (case side1 => repeat (first | exact (Kd.C_below HR0.out HB.out) | (with_reducible refine Kd.C_alloc ?_ _) | (with_reducible refine Kd.C_drewN ?_ _) | (with_reducible refine Kd.C_drew ?_))); (case side2 => exact HC0.out); rintro e w69 ⟨v104, rfl, ho0, hb⟩; refine ⟨_, rfl, ?_⟩; have n0_ := Aside0.mk (Kd.R_lower ho0 (below_size (by repeat (first | (with_reducible first | exact HB.out | apply below_alloc | apply pw_below_drewN | apply below_drew1) | exact HB.out)))); have n1_ := Aside0.mk (below_step (by repeat (first | (with_reducible first | exact HB.out | apply below_alloc | apply pw_below_drewN | apply below_drew1) | exact HB.out)) hb); clear HB; have HO105 := n0_; have HB := n1_; clear n0_ n1_; (try clear hb); (try clear hb2); (try clear hk); (try clear hi); (try clear ho0); obtain ⟨Ao70, co70, eo70⟩ := Kd.R_slice HO105.out; subst eo70) | ((with_reducible refine gate_callee (f := 68) rfl ?_); refine goesL_ (some 22) rfl rfl Try.func68 (by kernel_rfl) rfl #[.slice Ao70 t103.length co70, .int .i64 a1, .int .i64 a2] rfl (by (try simp only [List.map_toArray, List.map_cons, List.map_nil]); first | done | rfl | (simp only [List.length_drop, List.length_take]; rfl)) ?_; (with_reducible refine (resolve_One.calls k _ _ t103 a1 a2 t106 t107 _ ?side1 ?side2 A7.out).mono ?_); (case side1 => repeat (first | exact (Kd.R_reads' HO105.out).2.2 | (with_reducible refine Kd.C_alloc ?_ _) | (with_reducible refine Kd.C_drewN ?_ _) | (with_reducible refine Kd.C_drew ?_))); (case side2 => exact (Kd.R_reads' HO105.out).2.1); rintro e w71 ⟨v108, rfl, ho0, hb⟩; refine ⟨_, rfl, ?_⟩; have n0_ := Aside0.mk (Kd.R_elder' (by (with_reducible repeat (first | apply Kd.R_alloc | apply Kd.R_drewN | apply Kd.R_drew)); exact HO105.out) (Kd.R_base ho0) hb); have n1_ := Aside0.mk (Kd.R_lower (Kd.R_new' ho0 (Kd.R_lt (by (with_reducible repeat (first | apply Kd.R_alloc | apply Kd.R_drewN | apply Kd.R_drew)); exact HO105.out))) (below_size (by repeat (first | (with_reducible first | exact HB.out | apply below_alloc | apply pw_below_drewN | apply below_drew1) | exact HB.out)))); have n2_ := Aside0.mk (below_step (by repeat (first | (with_reducible first | exact HB.out | apply below_alloc | apply pw_below_drewN | apply below_drew1) | exact HB.out)) hb); clear HO105; clear HB; have HO105 := n0_; have HO109 := n1_; have HB := n2_; clear n0_ n1_ n2_; (try clear hb); (try clear hb2); (try clear hk); (try clear hi); (try clear ho0)) | ((with_reducible refine gate_callee (f := 69) rfl ?_); refine goesL_ (some 29) rfl rfl Try.func69 (by kernel_rfl) rfl #[.slice A0 l0.length c0, .int .i64 a1, .int .i64 a2] rfl (by (try simp only [List.map_toArray, List.map_cons, List.map_nil]); first | done | rfl | (simp only [List.length_drop, List.length_take]; rfl)) ?_; (with_reducible refine (tripartiteref11_One.calls k _ _ l0 a1 a2 t110 t111 _ ?side1 ?side2 A8.out).mono ?_); (case side1 => repeat (first | exact (Kd.C_below HR0.out HB.out) | (with_reducible refine Kd.C_alloc ?_ _) | (with_reducible refine Kd.C_drewN ?_ _) | (with_reducible refine Kd.C_drew ?_))); (case side2 => exact HC0.out); rintro e w72 ⟨v112, rfl, ho0, hb⟩; refine ⟨_, rfl, ?_⟩; have n0_ := Aside0.mk (Kd.R_below (by (with_reducible repeat (first | apply Kd.R_alloc | apply Kd.R_drewN | apply Kd.R_drew)); exact HO105.out) hb); have n1_ := Aside0.mk (Kd.R_below (by (with_reducible repeat (first | apply Kd.R_alloc | apply Kd.R_drewN | apply Kd.R_drew)); exact HO109.out) hb); have n2_ := Aside0.mk (Kd.R_lower ho0 (below_size (by repeat (first | (with_reducible first | exact HB.out | apply below_alloc | apply pw_below_drewN | apply below_drew1) | exact HB.out)))); have n3_ := Aside0.mk (below_step (by repeat (first | (with_reducible first | exact HB.out | apply below_alloc | apply pw_below_drewN | apply below_drew1) | exact HB.out)) hb); clear HO105; clear HO109; clear HB; have HO105 := n0_; have HO109 := n1_; have HO113 := n2_; have HB := n3_; clear n0_ n1_ n2_ n3_; (try clear hb); (try clear hb2); (try clear hk); (try clear hi); (try clear ho0)) | ((with_reducible refine gate_callee (f := 60) rfl ?_); refine goesL_ (some 32) rfl rfl Try.func60 (by kernel_rfl) rfl #[] rfl (by (try simp only [List.map_toArray, List.map_cons, List.map_nil]); first | done | rfl | (simp only [List.length_drop, List.length_take]; rfl)) ?_; (with_reducible refine (tripartitelaw11_told.calls k  true _ A9.out).mono ?_); rintro e w73 ⟨rfl, hb⟩; refine ⟨_, rfl, ?_⟩; have n0_ := Aside0.mk (Kd.R_below (by (with_reducible repeat (first | apply Kd.R_alloc | apply Kd.R_drewN | apply Kd.R_drew)); exact HO105.out) hb); have n1_ := Aside0.mk (Kd.R_below (by (with_reducible repeat (first | apply Kd.R_alloc | apply Kd.R_drewN | apply Kd.R_drew)); exact HO109.out) hb); have n2_ := Aside0.mk (Kd.R_below (by (with_reducible repeat (first | apply Kd.R_alloc | apply Kd.R_drewN | apply Kd.R_drew)); exact HO113.out) hb); have n3_ := Aside0.mk (below_step (by repeat (first | (with_reducible first | exact HB.out | apply below_alloc | apply pw_below_drewN | apply below_drew1) | exact HB.out)) hb); clear HO105; clear HO109; clear HO113; clear HB; have HO105 := n0_; have HO109 := n1_; have HO113 := n2_; have HB := n3_; clear n0_ n1_ n2_ n3_; (try clear hb); (try clear hb2); (try clear hk); (try clear hi)))
    go_ret
    exact ⟨by first | rfl | (simp [errW_none, errW_some] <;> rfl) | (simp [*, errW_none, errW_some] <;> rfl), by repeat (first | (with_reducible first | exact HB.out | apply below_alloc | apply pw_below_drewN | apply below_drew1) | exact HB.out)⟩
  ·replace c10 := Bool.eq_false_iff.mpr c10
   subst c10
   have H1 : (some false) = some r := by rw [if_neg (show ¬ (false = true) by decide)] at H; exact H
   clear H
   have H := H1
   clear H1
   obtain rfl := Option.some.inj H
   go_enter Try.func14, Try.ntmps14
   go_wp2_with (first | ((with_reducible refine gate_callee (f := 59) rfl ?_); refine goesL_ (some 13) rfl rfl Try.func59 (by kernel_rfl) rfl #[.slice A0 l0.length c0] rfl (by (try simp only [List.map_toArray, List.map_cons, List.map_nil]); first | done | rfl | (simp only [List.length_drop, List.length_take]; rfl)) ?_; (with_reducible refine (tripartitelaw07_Few.calls k _ _ l0 true _ ?side1 ?side2 A4.out).mono ?_); (case side1 => repeat (first | exact HR0.out | (with_reducible refine Kd.C_alloc ?_ _) | (with_reducible refine Kd.C_drewN ?_ _) | (with_reducible refine Kd.C_drew ?_))); (case side2 => exact HC0.out); rintro e w74 ⟨rfl, hb⟩; refine ⟨_, rfl, ?_⟩; have n0_ := Aside0.mk (below_step (by repeat (first | (with_reducible first | exact HB.out | apply below_alloc | apply pw_below_drewN | apply below_drew1) | exact HB.out)) hb); clear HB; have HB := n0_; clear n0_; (try clear hb); (try clear hb2); (try clear hk); (try clear hi)) | ((with_reducible refine gate_callee (f := 61) rfl ?_); refine goesL_ (some 17) rfl rfl Try.func61 (by kernel_rfl) rfl #[.slice A0 l0.length c0] rfl (by (try simp only [List.map_toArray, List.map_cons, List.map_nil]); first | done | rfl | (simp only [List.length_drop, List.length_take]; rfl)) ?_; (with_reducible refine (tripartitelaw07_To.calls k _ _ l0 t103 _ ?side1 ?side2 A6.out).mono ?_); (case side1 => repeat (first | exact (Kd.C_below HR0.out HB.out) | (with_reducible refine Kd.C_alloc ?_ _) | (with_reducible refine Kd.C_drewN ?_ _) | (with_reducible refine Kd.C_drew ?_))); (case side2 => exact HC0.out); rintro e w75 ⟨v104, rfl, ho0, hb⟩; refine ⟨_, rfl, ?_⟩; have n0_ := Aside0.mk (Kd.R_lower ho0 (below_size (by repeat (first | (with_reducible first | exact HB.out | apply below_alloc | apply pw_below_drewN | apply below_drew1) | exact HB.out)))); have n1_ := Aside0.mk (below_step (by repeat (first | (with_reducible first | exact HB.out | apply below_alloc | apply pw_below_drewN | apply below_drew1) | exact HB.out)) hb); clear HB; have HO105 := n0_; have HB := n1_; clear n0_ n1_; (try clear hb); (try clear hb2); (try clear hk); (try clear hi); (try clear ho0); obtain ⟨Ao76, co76, eo76⟩ := Kd.R_slice HO105.out; subst eo76) | ((with_reducible refine gate_callee (f := 68) rfl ?_); refine goesL_ (some 22) rfl rfl Try.func68 (by kernel_rfl) rfl #[.slice Ao76 t103.length co76, .int .i64 a1, .int .i64 a2] rfl (by (try simp only [List.map_toArray, List.map_cons, List.map_nil]); first | done | rfl | (simp only [List.length_drop, List.length_take]; rfl)) ?_; (with_reducible refine (resolve_One.calls k _ _ t103 a1 a2 t106 t107 _ ?side1 ?side2 A7.out).mono ?_); (case side1 => repeat (first | exact (Kd.R_reads' HO105.out).2.2 | (with_reducible refine Kd.C_alloc ?_ _) | (with_reducible refine Kd.C_drewN ?_ _) | (with_reducible refine Kd.C_drew ?_))); (case side2 => exact (Kd.R_reads' HO105.out).2.1); rintro e w77 ⟨v108, rfl, ho0, hb⟩; refine ⟨_, rfl, ?_⟩; have n0_ := Aside0.mk (Kd.R_elder' (by (with_reducible repeat (first | apply Kd.R_alloc | apply Kd.R_drewN | apply Kd.R_drew)); exact HO105.out) (Kd.R_base ho0) hb); have n1_ := Aside0.mk (Kd.R_lower (Kd.R_new' ho0 (Kd.R_lt (by (with_reducible repeat (first | apply Kd.R_alloc | apply Kd.R_drewN | apply Kd.R_drew)); exact HO105.out))) (below_size (by repeat (first | (with_reducible first | exact HB.out | apply below_alloc | apply pw_below_drewN | apply below_drew1) | exact HB.out)))); have n2_ := Aside0.mk (below_step (by repeat (first | (with_reducible first | exact HB.out | apply below_alloc | apply pw_below_drewN | apply below_drew1) | exact HB.out)) hb); clear HO105; clear HB; have HO105 := n0_; have HO109 := n1_; have HB := n2_; clear n0_ n1_ n2_; (try clear hb); (try clear hb2); (try clear hk); (try clear hi); (try clear ho0)) | ((with_reducible refine gate_callee (f := 69) rfl ?_); refine goesL_ (some 29) rfl rfl Try.func69 (by kernel_rfl) rfl #[.slice A0 l0.length c0, .int .i64 a1, .int .i64 a2] rfl (by (try simp only [List.map_toArray, List.map_cons, List.map_nil]); first | done | rfl | (simp only [List.length_drop, List.length_take]; rfl)) ?_; (with_reducible refine (tripartiteref11_One.calls k _ _ l0 a1 a2 t110 t111 _ ?side1 ?side2 A8.out).mono ?_); (case side1 => repeat (first | exact (Kd.C_below HR0.out HB.out) | (with_reducible refine Kd.C_alloc ?_ _) | (with_reducible refine Kd.C_drewN ?_ _) | (with_reducible refine Kd.C_drew ?_))); (case side2 => exact HC0.out); rintro e w78 ⟨v112, rfl, ho0, hb⟩; refine ⟨_, rfl, ?_⟩; have n0_ := Aside0.mk (Kd.R_below (by (with_reducible repeat (first | apply Kd.R_alloc | apply Kd.R_drewN | apply Kd.R_drew)); exact HO105.out) hb); have n1_ := Aside0.mk (Kd.R_below (by (with_reducible repeat (first | apply Kd.R_alloc | apply Kd.R_drewN | apply Kd.R_drew)); exact HO109.out) hb); have n2_ := Aside0.mk (Kd.R_lower ho0 (below_size (by repeat (first | (with_reducible first | exact HB.out | apply below_alloc | apply pw_below_drewN | apply below_drew1) | exact HB.out)))); have n3_ := Aside0.mk (below_step (by repeat (first | (with_reducible first | exact HB.out | apply below_alloc | apply pw_below_drewN | apply below_drew1) | exact HB.out)) hb); clear HO105; clear HO109; clear HB; have HO105 := n0_; have HO109 := n1_; have HO113 := n2_; have HB := n3_; clear n0_ n1_ n2_ n3_; (try clear hb); (try clear hb2); (try clear hk); (try clear hi); (try clear ho0)) | ((with_reducible refine gate_callee (f := 60) rfl ?_); refine goesL_ (some 32) rfl rfl Try.func60 (by kernel_rfl) rfl #[] rfl (by (try simp only [List.map_toArray, List.map_cons, List.map_nil]); first | done | rfl | (simp only [List.length_drop, List.length_take]; rfl)) ?_; (with_reducible refine (tripartitelaw11_told.calls k  false _ A9.out).mono ?_); rintro e w79 ⟨rfl, hb⟩; refine ⟨_, rfl, ?_⟩; have n0_ := Aside0.mk (Kd.R_below (by (with_reducible repeat (first | apply Kd.R_alloc | apply Kd.R_drewN | apply Kd.R_drew)); exact HO105.out) hb); have n1_ := Aside0.mk (Kd.R_below (by (with_reducible repeat (first | apply Kd.R_alloc | apply Kd.R_drewN | apply Kd.R_drew)); exact HO109.out) hb); have n2_ := Aside0.mk (Kd.R_below (by (with_reducible repeat (first | apply Kd.R_alloc | apply Kd.R_drewN | apply Kd.R_drew)); exact HO113.out) hb); have n3_ := Aside0.mk (below_step (by repeat (first | (with_reducible first | exact HB.out | apply below_alloc | apply pw_below_drewN | apply below_drew1) | exact HB.out)) hb); clear HO105; clear HO109; clear HO113; clear HB; have HO105 := n0_; have HO109 := n1_; have HO113 := n2_; have HB := n3_; clear n0_ n1_ n2_ n3_; (try clear hb); (try clear hb2); (try clear hk); (try clear hi)))
   go_ret
   exact ⟨by first | rfl | (simp [errW_none, errW_some] <;> rfl) | (simp [*, errW_none, errW_some] <;> rfl), by repeat (first | (with_reducible first | exact HB.out | apply below_alloc | apply pw_below_drewN | apply below_drew1) | exact HB.out)⟩
 ·replace c5 := Bool.eq_false_iff.mpr c5
  subst c5
  have H1 : ((tripartitelaw11_told.f k).bind fun t102 => (some t102)) = some r := by rw [if_neg (show ¬ (false = true) by decide)] at H; exact H
  clear H
  have H := H1
  clear H1
  replace H := Option.bind_eq_some_iff.mp H
  obtain ⟨t102, A800, H⟩ := H
  replace H : (some t102) = some r := H
  have A80 := Aside0.mk A800
  clear A800
  obtain rfl := Option.some.inj H
  go_enter Try.func14, Try.ntmps14
  go_wp2_with (first | ((with_reducible refine gate_callee (f := 59) rfl ?_); refine goesL_ (some 13) rfl rfl Try.func59 (by kernel_rfl) rfl #[.slice A0 l0.length c0] rfl (by (try simp only [List.map_toArray, List.map_cons, List.map_nil]); first | done | rfl | (simp only [List.length_drop, List.length_take]; rfl)) ?_; (with_reducible refine (tripartitelaw07_Few.calls k _ _ l0 false _ ?side1 ?side2 A4.out).mono ?_); (case side1 => repeat (first | exact HR0.out | (with_reducible refine Kd.C_alloc ?_ _) | (with_reducible refine Kd.C_drewN ?_ _) | (with_reducible refine Kd.C_drew ?_))); (case side2 => exact HC0.out); rintro e w81 ⟨rfl, hb⟩; refine ⟨_, rfl, ?_⟩; have n0_ := Aside0.mk (below_step (by repeat (first | (with_reducible first | exact HB.out | apply below_alloc | apply pw_below_drewN | apply below_drew1) | exact HB.out)) hb); clear HB; have HB := n0_; clear n0_; (try clear hb); (try clear hb2); (try clear hk); (try clear hi)) | ((with_reducible refine gate_callee (f := 60) rfl ?_); refine goesL_ (some 15) rfl rfl Try.func60 (by kernel_rfl) rfl #[] rfl (by (try simp only [List.map_toArray, List.map_cons, List.map_nil]); first | done | rfl | (simp only [List.length_drop, List.length_take]; rfl)) ?_; (with_reducible refine (tripartitelaw11_told.calls k  t102 _ A80.out).mono ?_); rintro e w82 ⟨rfl, hb⟩; refine ⟨_, rfl, ?_⟩; have n0_ := Aside0.mk (below_step (by repeat (first | (with_reducible first | exact HB.out | apply below_alloc | apply pw_below_drewN | apply below_drew1) | exact HB.out)) hb); clear HB; have HB := n0_; clear n0_; (try clear hb); (try clear hb2); (try clear hk); (try clear hi)))
  go_ret
  exact ⟨by first | rfl | (simp [errW_none, errW_some] <;> rfl) | (simp [*, errW_none, errW_some] <;> rfl), by repeat (first | (with_reducible first | exact HB.out | apply below_alloc | apply pw_below_drewN | apply below_drew1) | exact HB.out)⟩
end Go.Proofs.Ytadafplbgophfaa.PA
end
section
namespace Go.Proofs.Ytadafplbgophfaa.Pure
namespace Res
open Go.RowKit Go.Proofs.Ytadafplbgophfaa.PA Go.Proofs.YtadafplbgophfaaW.PrintWords Go.Proofs.YtadafplbgophfaaW.PrintLast Go.Proofs.YtadafplbgophfaaW.PrintMore
def more (q : S123) (s : ByteArray) : S123 := ⟨q.f0, q.f1, q.f2, q.f3, q.f4 ++ s, q.f5, q.f6, q.f7, q.f8⟩
def ofStep (acc : List S123) (p : S123) : List S123 :=
  if (txtB p && emp p.f4) = true then acc else if txtB p = true then (match acc.getLast? with
    | some q => if txtB q = true then acc.dropLast ++ [more q p.f4] else acc ++ [p]
    | none => acc ++ [p]) else acc ++ [p]
def ofS : List S123 → List S123 → List S123
  | acc, [] => acc
  | acc, p :: r => ofS (ofStep acc p) r
theorem tot_cons (p : S123) (d : List S123) : tot (p :: d) = szs p + tot d := rfl
theorem tot_nil : tot [] = 0 := rfl
theorem tot_app (a b : List S123) : tot (a ++ b) = tot a + tot b := by
  induction a with
  | nil => simp [tot]
  | cons p a ih => rw [List.cons_append, tot_cons, tot_cons, ih]; omega
theorem more_szs (q : S123) (s : ByteArray) : szs (more q s) = szs q + s.size := by
  unfold szs more
  simp only [ByteArray.size_append]
  omega
theorem last_split {acc : List S123} {q : S123} (h : acc.getLast? = some q) : acc = acc.dropLast ++ [q] := by
  obtain ⟨ys, rfl⟩ := List.getLast?_eq_some_iff.1 h
  simp
theorem f4_le (p : S123) : p.f4.size ≤ szs p := by unfold szs; omega
theorem ofStep_tot (acc : List S123) (p : S123) : tot (ofStep acc p) ≤ tot acc + szs p := by
  unfold ofStep
  split
  · omega
  · split
    · split
      · rename_i q hq
        split
        · have e := last_split hq
          have h4 := f4_le p
          have : tot acc = tot acc.dropLast + szs q := by
            conv => lhs; rw [e]
            rw [tot_app]; simp [tot]
          rw [tot_app, this]
          simp only [tot, more_szs]
          omega
        · rw [tot_app]; simp only [tot]; omega
      · rw [tot_app]; simp only [tot]; omega
    · rw [tot_app]; simp only [tot]; omega
theorem ofStep_len (acc : List S123) (p : S123) : (ofStep acc p).length ≤ acc.length + 1 := by
  unfold ofStep
  split
  · omega
  · split
    · split
      · split
        · simp
        · simp
      · simp
    · simp
theorem ofS_tot : ∀ (l acc : List S123), tot (ofS acc l) ≤ tot acc + tot l := by
  intro l
  induction l with
  | nil => intro acc; simp [ofS, tot]
  | cons p l ih =>
    intro acc
    have h1 := ih (ofStep acc p)
    have h2 := ofStep_tot acc p
    unfold ofS
    rw [tot_cons]
    omega
theorem ofS_len : ∀ (l acc : List S123), (ofS acc l).length ≤ acc.length + l.length := by
  intro l
  induction l with
  | nil => intro acc; simp [ofS]
  | cons p l ih =>
    intro acc
    have h1 := ih (ofStep acc p)
    have h2 := ofStep_len acc p
    unfold ofS
    rw [List.length_cons]
    omega
theorem last_map {acc : List S123} (h : 0 < acc.length) : ∃ q, acc.getLast? = some q ∧ rd_T123 acc ((acc.length : Int) - 1) = q ∧ rd_T120 (acc.map of123) ((acc.length : Int) - 1) = of123 q ∧ ∀ s : S123, acc.set (acc.length - 1) s = acc.dropLast ++ [s] := by
  obtain ⟨n, hn⟩ : ∃ n, acc.length = n + 1 := ⟨acc.length - 1, by omega⟩
  have hl : n < acc.length := by omega
  refine ⟨acc[n], ?_, ?_, ?_, fun s => ?_⟩
  · rw [List.getLast?_eq_getElem?, hn]; simp [hl]
  · rw [show ((acc.length : Int) - 1) = (n : Int) by omega, rd123 hl]
  · rw [show ((acc.length : Int) - 1) = (n : Int) by omega, rdmap hl]
  · have hne : acc ≠ [] := by intro e; rw [e] at hn; simp at hn
    obtain ⟨ys, q, rfl⟩ : ∃ ys q, acc = ys ++ [q] := ⟨acc.dropLast, acc.getLast hne, (List.dropLast_concat_getLast hne).symm⟩
    simp
theorem none_ok (p : S123) : ((((p.f0).toList) == ([] : List UInt8) && (((p.f1).toList) == ([] : List UInt8) && (((p.f2).toList) == ([] : List UInt8)))) && (!(p.f3) && (((p.f4).toList) == ([] : List UInt8) && (((p.f5).toList) == ([] : List UInt8) && (((p.f6).toList) == ([] : List UInt8) && (((p.f7).toList) == ([] : List UInt8) && (!(p.f8)))))))) = (txtB p && emp p.f4) := by
  unfold txtB emp
  cases (p.f0.toList == []) <;> cases (p.f1.toList == []) <;> cases (p.f2.toList == []) <;> cases p.f3 <;> cases (p.f4.toList == []) <;> cases (p.f5.toList == []) <;> cases (p.f6.toList == []) <;> cases (p.f7.toList == []) <;> cases p.f8 <;> rfl
theorem pOf_go (d : List S123) (hd : d.length ≤ 60) : ∀ (n i : Nat) (acc : List S123), d.length - i ≤ n → i ≤ d.length → acc.length ≤ i → tot acc + tot (d.drop i) ≤ 1000000 →
    Ev (fun k => doc_Of.l0 k (acc.map of123) (d.map of123) ((d.map of123).length : Int) i) ((ofS acc (d.drop i)).map of123) := by
  have hx : (d.map of123).length = d.length := List.length_map _
  intro n
  induction n with
  | zero =>
    intro i acc h1 h2 h3 h4
    refine Ev.step (f := fun _ => some (acc.map of123)) (fun k => ?_) ?_
    · simp only [doc_Of.l0]; rw [if_neg (by omega)]
    · rw [List.drop_of_length_le (by omega)]; exact Ev.now _
  | succ n ih =>
    intro i acc h1 h2 h3 h4
    by_cases hi : i < d.length
    rotate_left
    · refine Ev.step (f := fun _ => some (acc.map of123)) (fun k => ?_) ?_
      · simp only [doc_Of.l0]; rw [if_neg (by omega)]
      · rw [List.drop_of_length_le (by omega)]; exact Ev.now _
    have rdp := rdmap hi
    rw [List.drop_eq_getElem_cons hi] at h4 ⊢
    have ih1 := fun acc => ih (i + 1) acc (by omega) (by omega)
    generalize d[i] = p at rdp h4
    rw [tot_cons] at h4
    have hst := ofStep_tot acc p
    have hsl := ofStep_len acc p
    unfold ofS
    have goal := ih1 (ofStep acc p) (by omega) (by omega)
    have hal : (acc.map of123).length = acc.length := List.length_map _
    have t1 := isText_ok p
    refine Ev.step (f := fun k => doc_Of.l0 k ((ofStep acc p).map of123) (d.map of123) ((d.map of123).length : Int) ((i + 1 : Nat) : Int)) (fun k => ?_) goal
    simp only [doc_Of.l0]
    rw [if_pos (by omega), if_pos (by omega), if_pos (by omega), rdp, w64 (x := (i : Int) + 1) (by omega) (by omega)]
    have en := none_ok p
    simp only [of123, en]
    unfold ofStep
    by_cases he : (txtB p && emp p.f4) = true
    · rw [if_pos he, if_pos he]; rfl
    · rw [if_neg he, if_neg he]
      by_cases ht : txtB p = true
      · rw [if_pos ht]
        have e1 : doc_Part_isText.f p.f0 p.f1 p.f2 p.f3 p.f4 p.f5 p.f6 p.f7 p.f8 = some true := by rw [← ht]; rfl
        rw [e1, Option.bind_some, if_pos rfl, hal]
        by_cases hp : 0 < acc.length
        · obtain ⟨q, hq1, _, hq2, hq3⟩ := last_map hp
          rw [if_pos (by omega), w64 (x := (acc.length : Int) - 1) (by omega) (by omega), if_pos (by omega), if_pos (by omega), hq2, hq1]
          simp only [of123]
          rw [isText_ok q, Option.bind_some]
          by_cases hqt : txtB q = true
          · rw [if_pos hqt, if_pos hqt]
            have hqs : szs q ≤ tot acc := by
              have := last_split hq1
              have e : tot acc = tot acc.dropLast + szs q := by
                conv => lhs; rw [this]
                rw [tot_app]; simp [tot]
              omega
            have a1 := f4_le q
            have a2 := f4_le p
            refine (if_pos (show q.f4.size + p.f4.size ≤ 9223372036854775807 by omega)).trans ?_
            have e3 : (((acc.length : Int) - 1)).toNat = acc.length - 1 := by omega
            rw [e3, ← hq3 (more q p.f4), List.map_set]
            rfl
          · rw [if_neg hqt, if_neg hqt, if_pos (by omega), List.map_append]; rfl
        · have hnil : acc = [] := List.eq_nil_of_length_eq_zero (by omega)
          subst hnil
          rw [if_neg (by simp), if_pos (by simp)]
          rfl
      · rw [if_neg ht]
        have htf : txtB p = false := by simpa using ht
        have e1 : doc_Part_isText.f p.f0 p.f1 p.f2 p.f3 p.f4 p.f5 p.f6 p.f7 p.f8 = some false := by rw [← htf]; rfl
        rw [e1, Option.bind_some, if_neg (by decide), hal, if_pos (by omega), List.map_append]; rfl
theorem pOf_ok (d : List S123) (hd : d.length ≤ 60) (ht : tot d ≤ 3000) : Ev (fun k => doc_Of.f k (d.map of123)) ((ofS [] d).map of123) := by
  have := pOf_go d hd d.length 0 [] (by omega) (by omega) (by simp) (by rw [List.drop_zero]; simp [tot]; omega)
  rw [List.drop_zero] at this
  exact this
theorem text_ok (p : S123) : tripartiteref07_text.f p.f0 p.f1 p.f2 p.f3 p.f4 p.f5 p.f6 p.f7 p.f8 = some (txtB p) := by
  unfold tripartiteref07_text.f txtB emp
  cases (p.f0.toList == []) <;> cases (p.f1.toList == []) <;> rfl
theorem rOf_go (d : List S123) (hd : d.length ≤ 60) : ∀ (n i : Nat) (acc : List S123), d.length - i ≤ n → i ≤ d.length → acc.length ≤ i → tot acc + tot (d.drop i) ≤ 1000000 →
    Ev (fun k => tripartiteref07_Of.l0 k d acc i) (ofS acc (d.drop i)) := by
  intro n
  induction n with
  | zero =>
    intro i acc h1 h2 h3 h4
    refine Ev.step (f := fun _ => some acc) (fun k => ?_) ?_
    · simp only [tripartiteref07_Of.l0]; rw [if_neg (by omega)]
    · rw [List.drop_of_length_le (by omega)]; exact Ev.now _
  | succ n ih =>
    intro i acc h1 h2 h3 h4
    by_cases hi : i < d.length
    rotate_left
    · refine Ev.step (f := fun _ => some acc) (fun k => ?_) ?_
      · simp only [tripartiteref07_Of.l0]; rw [if_neg (by omega)]
      · rw [List.drop_of_length_le (by omega)]; exact Ev.now _
    have rdp := rd123 hi
    rw [List.drop_eq_getElem_cons hi] at h4 ⊢
    have ih1 := fun acc => ih (i + 1) acc (by omega) (by omega)
    generalize d[i] = p at rdp h4
    rw [tot_cons] at h4
    have hst := ofStep_tot acc p
    have hsl := ofStep_len acc p
    unfold ofS
    have goal := ih1 (ofStep acc p) (by omega) (by omega)
    have t1 := text_ok p
    have J : Ev (fun k => tripartiteref07_Of.j1 k d acc i (acc.length : Int) (txtB p && emp p.f4)) (ofS (ofStep acc p) (d.drop (i + 1))) := by
      refine Ev.step (f := fun k => tripartiteref07_Of.l0 k d (ofStep acc p) ((i + 1 : Nat) : Int)) (fun k => ?_) goal
      simp only [tripartiteref07_Of.j1]
      rw [rdp, t1, w64 (x := (i : Int) + 1) (by omega) (by omega)]
      unfold ofStep
      by_cases he : (txtB p && emp p.f4) = true
      · rw [if_pos he, if_pos he]; rfl
      · rw [if_neg he, if_neg he, if_pos (by omega), if_pos (by omega), Option.bind_some]
        by_cases ht : txtB p = true
        · rw [if_pos ht, if_pos ht]
          by_cases hp : 0 < acc.length
          · obtain ⟨q, hq1, hq2, _, hq3⟩ := last_map hp
            rw [if_pos (by omega), w64 (x := (acc.length : Int) - 1) (by omega) (by omega), if_pos (by omega), if_pos (by omega), hq2, hq1, text_ok q, Option.bind_some]
            simp only
            by_cases hqt : txtB q = true
            · rw [if_pos hqt, if_pos hqt]
              have hqs : szs q ≤ tot acc := by
                have := last_split hq1
                have e : tot acc = tot acc.dropLast + szs q := by
                  conv => lhs; rw [this]
                  rw [tot_app]; simp [tot]
                omega
              have a1 := f4_le q
              have a2 := f4_le p
              rw [if_pos (by omega)]
              have e3 : (((acc.length : Int) - 1)).toNat = acc.length - 1 := by omega
              rw [e3, ← hq3 (more q p.f4)]
              rfl
            · rw [if_neg hqt, if_neg hqt, if_pos (by omega)]; rfl
          · have hnil : acc = [] := List.eq_nil_of_length_eq_zero (by omega)
            subst hnil
            rw [if_neg (by simp), if_pos (by simp)]
            rfl
        · rw [if_neg ht, if_neg ht, if_pos (by omega)]; rfl
    refine Ev.step (f := fun k => tripartiteref07_Of.j1 k d acc i (acc.length : Int) (txtB p && emp p.f4)) (fun k => ?_) J
    simp only [tripartiteref07_Of.l0]
    rw [if_pos (by omega), if_pos (by omega), rdp, t1, Option.bind_some]
    cases ht : txtB p
    · rw [if_neg (by decide), Bool.false_and]
    · rw [if_pos rfl, Bool.true_and]; rfl
theorem rOf_ok (d : List S123) (hd : d.length ≤ 60) (ht : tot d ≤ 3000) : Ev (fun k => tripartiteref07_Of.f k d) (ofS [] d) := by
  have := rOf_go d hd d.length 0 [] (by omega) (by omega) (by simp) (by rw [List.drop_zero]; simp [tot]; omega)
  rw [List.drop_zero] at this
  exact this
end Res
end Go.Proofs.Ytadafplbgophfaa.Pure
end
section
namespace Go.Proofs.Ytadafplbgophfaa.Pure
namespace Res
open Go.RowKit Go.Proofs.Ytadafplbgophfaa.PA Go.Proofs.YtadafplbgophfaaW.PrintWords Go.Proofs.YtadafplbgophfaaW.PrintLast Go.Proofs.YtadafplbgophfaaW.PrintMore
def elem (prev : Bool) (p : S123) (fol : Bool) : Prop := plP p = true ∧ (if txtB p = true then prev = false ∧ emp p.f4 = false ∧ (fol = true → endB p.f4 = true) else conB p = true)
def rightX : Bool → List S123 → Bool → Prop
  | _, [], _ => True
  | prev, p :: r, fol => elem prev p (!r.isEmpty || fol) ∧ rightX (txtB p) r fol
theorem right_iff : ∀ (l : List S123) (prev : Bool), rightGo prev l = true ↔ rightX prev l false := by
  intro l
  induction l with
  | nil => intro prev; simp [rightGo, rightX]
  | cons p l ih =>
    intro prev
    unfold rightGo rightX elem
    rw [← ih]
    cases ht : txtB p
    · simp only [Bool.false_eq_true, if_false]
      cases conB p <;> simp
    · simp only [if_true]
      cases plP p <;> cases prev <;> cases emp p.f4 <;> cases l.isEmpty <;> simp
theorem rightX_weak : ∀ (l : List S123) (prev : Bool), rightX prev l true → rightX prev l false := by
  intro l
  induction l with
  | nil => intro _ _; trivial
  | cons p l ih =>
    intro prev h
    unfold rightX at h ⊢
    refine ⟨?_, ih _ h.2⟩
    have h1 := h.1
    unfold elem at h1 ⊢
    refine ⟨h1.1, ?_⟩
    have h2 := h1.2
    split
    · rename_i ht
      rw [if_pos ht] at h2
      exact ⟨h2.1, h2.2.1, fun _ => h2.2.2 (by simp)⟩
    · rename_i ht
      rw [if_neg ht] at h2
      exact h2
def lastT : Bool → List S123 → Bool
  | prev, [] => prev
  | _, p :: r => lastT (txtB p) r
theorem lastT_snoc (p : S123) : ∀ (l : List S123) (prev : Bool), lastT prev (l ++ [p]) = txtB p := by
  intro l
  induction l with
  | nil => intro prev; rfl
  | cons q l ih => intro prev; rw [List.cons_append]; exact ih _
theorem rightX_snoc (p : S123) (fol : Bool) : ∀ (l : List S123) (prev : Bool), rightX prev (l ++ [p]) fol ↔ rightX prev l true ∧ elem (lastT prev l) p fol := by
  intro l
  induction l with
  | nil => intro prev; simp [rightX, lastT]
  | cons q l ih =>
    intro prev
    rw [List.cons_append]
    unfold rightX lastT
    rw [ih]
    have : (!(l ++ [p]).isEmpty || fol) = (!l.isEmpty || true) := by cases l <;> simp
    rw [this]
    constructor
    · rintro ⟨a, b, c⟩; exact ⟨⟨a, b⟩, c⟩
    · rintro ⟨⟨a, b⟩, c⟩; exact ⟨a, b, c⟩
def goodL : List S123 → Prop
  | [] => True
  | p :: r => (plP p = true ∧ (txtB p = true ∨ conB p = true) ∧ (txtB p = true → emp p.f4 = false → r.isEmpty = false → endB p.f4 = true)) ∧ goodL r
theorem endB_app (a b : ByteArray) (hb : emp b = false) (ha : a.size ≤ 1000000000000) (hb2 : b.size ≤ 1000000000000) : endB (a ++ b) = endB b := by
  have hs : 0 < b.size := by
    rcases Nat.eq_zero_or_pos b.size with h | h
    · exfalso
      have : b.toList = [] := by rw [ByteArray.toList_eq]; exact List.eq_nil_of_length_eq_zero (by simpa using h)
      rw [emp_iff.1 this] at hb; cases hb
    · exact h
  have e : (a ++ b).size = a.size + b.size := ByteArray.size_append
  unfold endB
  rw [decide_eq_true hs, decide_eq_true (by omega : 0 < (a ++ b).size), Bool.true_and, Bool.true_and]
  obtain ⟨n, hn⟩ : ∃ n, b.size = n + 1 := ⟨b.size - 1, by omega⟩
  rw [show (((a ++ b).size : Int) - 1) = ((a.size + n : Nat) : Int) by omega, show ((b.size : Int) - 1) = (n : Int) by omega, bt_get _ _ (by omega), bt_get _ _ (by omega)]
  have hd : (a ++ b).data.toList = a.data.toList ++ b.data.toList := by simp [ByteArray.data_append]
  have : (a ++ b).data.toList[a.size + n]'(by simp; omega) = b.data.toList[n]'(by simp; omega) := by
    simp only [hd]
    rw [List.getElem_append_right (by simp)]
    congr 1
    simp
  rw [this]
theorem emp_more (a b : ByteArray) (h : emp b = false) : emp (a ++ b) = false := by
  have := emp_app a b
  unfold emp at this ⊢
  rw [this]
  unfold emp at h
  rw [h, Bool.and_false]
theorem ofStep_right (acc : List S123) (p : S123) (fol : Bool) (h : rightX false acc true) (hp : plP p = true) (ht : txtB p = true ∨ conB p = true) (he : txtB p = true → emp p.f4 = false → fol = true → endB p.f4 = true) (hsz : tot acc + szs p ≤ 1000000) : rightX false (ofStep acc p) fol := by
  have weak : rightX false acc fol := by
    cases fol
    · exact rightX_weak _ _ h
    · exact h
  unfold ofStep
  split
  · exact weak
  · rename_i hn
    split
    · rename_i htp
      have hne : emp p.f4 = false := by
        cases e : emp p.f4
        · rfl
        · rw [htp, e] at hn; exact absurd rfl hn
      split
      · rename_i q hq
        have hspl := last_split hq
        have hqs : szs q ≤ tot acc := by
          have e : tot acc = tot acc.dropLast + szs q := by
            conv => lhs; rw [hspl]
            rw [tot_app]; simp [tot]
          omega
        have a1 := f4_le q
        have a2 := f4_le p
        rw [hspl] at h
        obtain ⟨h1, h2⟩ := (rightX_snoc q true _ false).1 h
        split
        · rename_i hqt
          refine (rightX_snoc _ fol _ false).2 ⟨h1, ?_⟩
          unfold elem at h2 ⊢
          have em : txtB (more q p.f4) = txtB q := rfl
          have epl : plP (more q p.f4) = plP q := rfl
          rw [em, epl, if_pos hqt]
          rw [if_pos hqt] at h2
          exact ⟨h2.1, h2.2.1, emp_more _ _ hne, fun hf => (endB_app q.f4 p.f4 hne (by omega) (by omega)).trans (he htp hne hf)⟩
        · rename_i hqt
          rw [hspl]
          refine (rightX_snoc _ fol _ false).2 ⟨(rightX_snoc q true _ false).2 ⟨h1, h2⟩, ?_⟩
          rw [lastT_snoc]
          unfold elem
          rw [if_pos htp]
          exact ⟨hp, by simpa using hqt, hne, he htp hne⟩
      · rename_i hq
        have hnil : acc = [] := List.getLast?_eq_none_iff.1 hq
        subst hnil
        rw [List.nil_append]
        unfold rightX elem
        rw [if_pos htp]
        exact ⟨⟨hp, rfl, hne, fun hf => he htp hne (by simpa using hf)⟩, trivial⟩
    · rename_i htp
      refine (rightX_snoc _ fol _ false).2 ⟨h, ?_⟩
      unfold elem
      rw [if_neg htp]
      exact ⟨hp, ht.resolve_left htp⟩
theorem ofS_right : ∀ (l acc : List S123), goodL l → rightX false acc (!l.isEmpty) → tot acc + tot l ≤ 1000000 → rightX false (ofS acc l) false := by
  intro l
  induction l with
  | nil => intro acc _ h _; exact h
  | cons p l ih =>
    intro acc hg h hsz
    rw [tot_cons] at hsz
    unfold goodL at hg
    unfold ofS
    have hs := ofStep_tot acc p
    refine ih _ hg.2 (ofStep_right acc p _ h hg.1.1 hg.1.2.1 (fun a b c => hg.1.2.2 a b (by simpa using c)) (by omega)) (by omega)
theorem good_of : ∀ (l : List S123) (prev : Bool), rightX prev l false → goodL l := by
  intro l
  induction l with
  | nil => intro _ _; trivial
  | cons p l ih =>
    intro prev h
    unfold rightX at h
    have h1 := h.1
    unfold elem at h1
    unfold goodL
    refine ⟨⟨h1.1, ?_, fun ht _ hr => ?_⟩, ih _ h.2⟩
    · by_cases ht : txtB p = true
      · exact Or.inl ht
      · have h2 := h1.2; rw [if_neg ht] at h2; exact Or.inr h2
    · have h2 := h1.2
      rw [if_pos ht] at h2
      exact h2.2.2 (by rw [hr]; rfl)
def tp (s : ByteArray) : S123 := ⟨⟨#[]⟩, ⟨#[]⟩, ⟨#[]⟩, false, s, ⟨#[]⟩, ⟨#[]⟩, ⟨#[]⟩, false⟩
theorem tp_txt (s : ByteArray) : txtB (tp s) = true := by
  have : emp ⟨#[]⟩ = true := emp_iff.1 (by rw [ByteArray.toList_eq])
  unfold txtB tp
  simp only [this]
  rfl
theorem tp_pl (s : ByteArray) : plP (tp s) = true := rfl
theorem good_set (s : ByteArray) : ∀ (l : List S123) (t : Nat), goodL l → (t + 1 < l.length → emp s = false → endB s = true) → goodL (l.set t (tp s)) := by
  intro l
  induction l with
  | nil => intro t _ _; trivial
  | cons p l ih =>
    intro t hg hs
    unfold goodL at hg
    cases t with
    | zero =>
      rw [List.set_cons_zero]
      unfold goodL
      refine ⟨⟨tp_pl s, Or.inl (tp_txt s), fun _ he hr => hs ?_ he⟩, hg.2⟩
      cases l with
      | nil => simp at hr
      | cons _ _ => simp
    | succ t =>
      rw [List.set_cons_succ]
      unfold goodL
      refine ⟨⟨hg.1.1, hg.1.2.1, fun a b c => hg.1.2.2 a b ?_⟩, ih t hg.2 (fun h1 h2 => hs (by rw [List.length_cons]; omega) h2)⟩
      cases l with
      | nil => simp at c
      | cons _ _ => rfl
def nthN : List S123 → Nat → Option Nat
  | [], _ => none
  | p :: r, n => if p.f3 = true then (match n with | 0 => some 0 | m + 1 => (nthN r m).map (· + 1)) else (nthN r n).map (· + 1)
theorem nthN_some : ∀ (l : List S123) (n t : Nat), nthN l n = some t → t < l.length ∧ n < conf l := by
  intro l
  induction l with
  | nil => intro n t h; cases h
  | cons p l ih =>
    intro n t h
    unfold nthN at h
    unfold conf
    rw [List.length_cons]
    split at h
    · rename_i h3
      rw [if_pos h3]
      split at h
      · injection h with h; omega
      · obtain ⟨u, hu, rfl⟩ := Option.map_eq_some_iff.1 h
        have := ih _ _ hu
        omega
    · rename_i h3
      rw [if_neg h3]
      obtain ⟨u, hu, rfl⟩ := Option.map_eq_some_iff.1 h
      have := ih _ _ hu
      omega
theorem nthN_none : ∀ (l : List S123) (n : Nat), nthN l n = none → conf l ≤ n := by
  intro l
  induction l with
  | nil => intro n h; unfold conf; omega
  | cons p l ih =>
    intro n h
    unfold nthN at h
    unfold conf
    split at h
    · rename_i h3
      rw [if_pos h3]
      split at h
      · cases h
      · have := ih _ (Option.map_eq_none_iff.1 h); omega
    · rename_i h3
      rw [if_neg h3]
      have := ih _ (Option.map_eq_none_iff.1 h); omega
theorem nth_neg (d : List S123) (hd : d.length ≤ 60) : ∀ (m i : Nat) (n : Int), d.length - i ≤ m → i ≤ d.length → (n < 0 ∨ n > (d.length : Int) - i) → -9223372036854775808 ≤ n → n ≤ 9223372036854775807 → Ev (fun k => resolve_nth.l0 k n (d.map of123) ((d.map of123).length : Int) i) (-1) := by
  have hx : (d.map of123).length = d.length := List.length_map _
  intro m
  induction m with
  | zero =>
    intro i n h1 h2 h3 h4 h5
    refine Ev.step (f := fun _ => some (-1)) (fun k => ?_) (Ev.now _)
    simp only [resolve_nth.l0]; rw [if_neg (by omega)]
  | succ m ih =>
    intro i n h1 h2 h3 h4 h5
    by_cases hi : i < d.length
    · have rdp := rdmap hi
      generalize d[i] = p at rdp
      by_cases hf : p.f3 = true
      · refine Ev.step (f := fun k => resolve_nth.l0 k (wrap64 (n - 1)) (d.map of123) ((d.map of123).length : Int) ((i + 1 : Nat) : Int)) (fun k => ?_) (ih (i + 1) _ (by omega) (by omega) ?_ ?_ ?_)
        · simp only [resolve_nth.l0]; rw [if_pos (by omega), if_pos (by omega), if_pos (by omega), rdp, if_pos (show (of123 p).f1 = true from hf), if_neg (by omega), w64 (x := (i : Int) + 1) (by omega) (by omega)]; rfl
        · unfold wrap64; omega
        · unfold wrap64; omega
        · unfold wrap64; omega
      · refine Ev.step (f := fun k => resolve_nth.l0 k n (d.map of123) ((d.map of123).length : Int) ((i + 1 : Nat) : Int)) (fun k => ?_) (ih (i + 1) n (by omega) (by omega) (by omega) h4 h5)
        simp only [resolve_nth.l0]; rw [if_pos (by omega), if_pos (by omega), if_pos (by omega), rdp, if_neg (show ¬ (of123 p).f1 = true from hf), w64 (x := (i : Int) + 1) (by omega) (by omega)]; rfl
    · refine Ev.step (f := fun _ => some (-1)) (fun k => ?_) (Ev.now _)
      simp only [resolve_nth.l0]; rw [if_neg (by omega)]
theorem nth_go (d : List S123) (hd : d.length ≤ 60) : ∀ (m i n : Nat), d.length - i ≤ m → i ≤ d.length → n ≤ 1000000 → Ev (fun k => resolve_nth.l0 k (n : Int) (d.map of123) ((d.map of123).length : Int) i) (match nthN (d.drop i) n with | some t => ((i + t : Nat) : Int) | none => -1) := by
  have hx : (d.map of123).length = d.length := List.length_map _
  intro m
  induction m with
  | zero =>
    intro i n h1 h2 h3
    refine Ev.step (f := fun _ => some (-1)) (fun k => ?_) ?_
    · simp only [resolve_nth.l0]; rw [if_neg (by omega)]
    · rw [List.drop_of_length_le (by omega)]; exact Ev.now _
  | succ m ih =>
    intro i n h1 h2 h3
    by_cases hi : i < d.length
    · have rdp := rdmap hi
      rw [List.drop_eq_getElem_cons hi]
      have ih1 := fun n => ih (i + 1) n (by omega) (by omega)
      generalize d[i] = p at rdp
      unfold nthN
      have shift : ∀ o : Option Nat, (match o.map (· + 1) with | some t => ((i + t : Nat) : Int) | none => -1) = (match o with | some t => ((i + 1 + t : Nat) : Int) | none => -1) := by
        intro o
        cases o with
        | none => rfl
        | some t => show ((i + (t + 1) : Nat) : Int) = ((i + 1 + t : Nat) : Int); omega
      by_cases hf : p.f3 = true
      · rw [if_pos hf]
        cases n with
        | zero =>
          refine Ev.step (f := fun _ => some (i : Int)) (fun k => ?_) (Ev.now _)
          simp only [resolve_nth.l0]; rw [if_pos (by omega), if_pos (by omega), if_pos (by omega), rdp, if_pos (show (of123 p).f1 = true from hf), if_pos (by simp)]
        | succ n =>
          simp only
          rw [shift]
          refine Ev.step (f := fun k => resolve_nth.l0 k (n : Int) (d.map of123) ((d.map of123).length : Int) ((i + 1 : Nat) : Int)) (fun k => ?_) (ih1 n (by omega))
          simp only [resolve_nth.l0]; rw [if_pos (by omega), if_pos (by omega), if_pos (by omega), rdp, if_pos (show (of123 p).f1 = true from hf), if_neg (by omega), w64 (x := (i : Int) + 1) (by omega) (by omega), w64 (by omega) (by omega), show ((n + 1 : Nat) : Int) - 1 = (n : Int) by omega]; rfl
      · rw [if_neg hf, shift]
        refine Ev.step (f := fun k => resolve_nth.l0 k (n : Int) (d.map of123) ((d.map of123).length : Int) ((i + 1 : Nat) : Int)) (fun k => ?_) (ih1 n h3)
        simp only [resolve_nth.l0]; rw [if_pos (by omega), if_pos (by omega), if_pos (by omega), rdp, if_neg (show ¬ (of123 p).f1 = true from hf), w64 (x := (i : Int) + 1) (by omega) (by omega)]; rfl
    · refine Ev.step (f := fun _ => some (-1)) (fun k => ?_) ?_
      · simp only [resolve_nth.l0]; rw [if_neg (by omega)]
      · rw [List.drop_of_length_le (by omega)]; exact Ev.now _
def nthZ (d : List S123) (n : Int) : Option Nat := if n < 0 then none else nthN d n.toNat
theorem nth_ok (d : List S123) (hd : d.length ≤ 60) (n : Int) (h0 : -9223372036854775808 ≤ n) (h1 : n ≤ 9223372036854775807) : Ev (fun k => resolve_nth.f k (d.map of123) n) (match nthZ d n with | some t => (t : Int) | none => -1) := by
  unfold resolve_nth.f nthZ
  by_cases hn : n < 0
  · rw [if_pos hn]
    exact nth_neg d hd d.length 0 n (by omega) (by omega) (Or.inl hn) h0 h1
  · rw [if_neg hn]
    by_cases hb : n > (d.length : Int)
    · have hnone : nthN d n.toNat = none := by
        cases e : nthN d n.toNat with
        | none => rfl
        | some t =>
          have := nthN_some d _ _ e
          have := conf_le d
          omega
      rw [hnone]
      exact nth_neg d hd d.length 0 n (by omega) (by omega) (Or.inr (by omega)) h0 h1
    · have := nth_go d hd d.length 0 n.toNat (by omega) (by omega) (by omega)
      rw [List.drop_zero, show ((n.toNat : Nat) : Int) = n by omega] at this
      have e : (match nthN d n.toNat with | some t => ((0 + t : Nat) : Int) | none => -1) = (match nthN d n.toNat with | some t => (t : Int) | none => -1) := by
        cases nthN d n.toNat with
        | none => rfl
        | some t => simp
      rw [e] at this
      exact this
end Res
end Go.Proofs.Ytadafplbgophfaa.Pure
end
section
namespace Go.Proofs.Ytadafplbgophfaa.Pure
namespace Res
open Go.RowKit Go.Proofs.Ytadafplbgophfaa.PA Go.Proofs.YtadafplbgophfaaW.PrintWords Go.Proofs.YtadafplbgophfaaW.PrintLast Go.Proofs.YtadafplbgophfaaW.PrintMore
def atV (len : Nat) (out : List S123) (p : S123) (side : Int) (t : Nat) : List S123 × Int :=
  if (pickF (of123 p) side).2 = 0 then (if emp (pickF (of123 p) side).1 = false ∧ endB (pickF (of123 p) side).1 = false ∧ t + 1 < len then ([], 11) else (ofS [] (out.set t (tp (pickF (of123 p) side).1)), 0)) else ([], (pickF (of123 p) side).2)
theorem atV_cases (len : Nat) (out : List S123) (p : S123) (side : Int) (t : Nat) : (atV len out p side t).2 ≠ 0 ∧ (atV len out p side t).1 = [] ∨ (atV len out p side t) = (ofS [] (out.set t (tp (pickF (of123 p) side).1)), 0) ∧ (t + 1 < len → emp (pickF (of123 p) side).1 = false → endB (pickF (of123 p) side).1 = true) := by
  unfold atV
  by_cases h1 : (pickF (of123 p) side).2 = 0
  · rw [if_pos h1]
    by_cases h2 : emp (pickF (of123 p) side).1 = false ∧ endB (pickF (of123 p) side).1 = false ∧ t + 1 < len
    · rw [if_pos h2]; exact Or.inl ⟨by decide, rfl⟩
    · rw [if_neg h2]
      refine Or.inr ⟨rfl, fun a b => ?_⟩
      cases e : endB (pickF (of123 p) side).1
      · exact absurd ⟨b, e, a⟩ h2
      · rfl
  · rw [if_neg h1]; exact Or.inl ⟨h1, rfl⟩
theorem tot_set (s : ByteArray) : ∀ (l : List S123) (t : Nat) (h : t < l.length), s.size ≤ szs l[t] → tot (l.set t (tp s)) ≤ tot l := by
  intro l
  induction l with
  | nil => intro t h; simp at h
  | cons p l ih =>
    intro t h hs
    cases t with
    | zero =>
      rw [List.set_cons_zero, tot_cons, tot_cons]
      have : szs (tp s) = s.size := by
        have h0 : (⟨#[]⟩ : ByteArray).size = 0 := rfl
        unfold szs tp; simp only [h0]; omega
      simp only [List.getElem_cons_zero] at hs
      omega
    | succ t =>
      rw [List.set_cons_succ, tot_cons, tot_cons]
      simp only [List.getElem_cons_succ] at hs
      have := ih t (by rw [List.length_cons] at h; omega) hs
      omega
theorem ref_tail (d : List S123) (hd : d.length ≤ 60) (side : Int) (out : List S123) (ho : out.length ≤ 60) (ht : tot out ≤ 3000) : ∀ (m i : Nat) (n : Int), d.length - i ≤ m → i ≤ d.length → n < 0 → -1000 ≤ n - ((d.length : Int) - i) → Ev (fun k => tripartiteref11_One.l0 k d n side out i) (ofS [] out, 0) := by
  have fin : ∀ (i : Nat) (n : Int), ¬ i < d.length → Ev (fun k => tripartiteref11_One.l0 k d n side out i) (ofS [] out, 0) := by
    intro i n hi
    refine Ev.step (f := fun k => (tripartiteref07_Of.f k out).bind fun t109 => (some (t109, 0))) (fun k => ?_) (Ev.bind (rOf_ok out ho ht) (Ev.now _))
    simp only [tripartiteref11_One.l0]; rw [if_neg (by omega)]
  intro m
  induction m with
  | zero => intro i n h1 h2 h3 h4; exact fin i n (by omega)
  | succ m ih =>
    intro i n h1 h2 h3 h4
    by_cases hi : i < d.length
    · have rdp := rd123 hi
      generalize d[i] = p at rdp
      by_cases hf : p.f3 = true
      · refine Ev.step (f := fun k => tripartiteref11_One.l0 k d (n - 1) side out ((i + 1 : Nat) : Int)) (fun k => ?_) (ih (i + 1) (n - 1) (by omega) (by omega) (by omega) (by omega))
        simp only [tripartiteref11_One.l0]; rw [if_pos (by omega), if_pos (by omega), rdp, if_pos hf, if_neg (by omega), w64 (x := n - 1) (by omega) (by omega), w64 (x := (i : Int) + 1) (by omega) (by omega)]; rfl
      · refine Ev.step (f := fun k => tripartiteref11_One.l0 k d n side out ((i + 1 : Nat) : Int)) (fun k => ?_) (ih (i + 1) n (by omega) (by omega) h3 (by omega))
        simp only [tripartiteref11_One.l0]; rw [if_pos (by omega), if_pos (by omega), rdp, if_neg hf, w64 (x := (i : Int) + 1) (by omega) (by omega)]; rfl
    · exact fin i n hi
theorem ref_main (d : List S123) (hd : d.length ≤ 60) (htd : tot d ≤ 3000) (side : Int) : ∀ (m i n t : Nat), d.length - i ≤ m → i ≤ d.length → n ≤ 60 → nthN (d.drop i) n = some t → Ev (fun k => tripartiteref11_One.l0 k d (n : Int) side d i) (atV d.length d (rd_T123 d ((i + t : Nat) : Int)) side (i + t)) := by
  intro m
  induction m with
  | zero => intro i n t h1 h2 h3 h4; rw [List.drop_of_length_le (by omega)] at h4; cases h4
  | succ m ih =>
    intro i n t h1 h2 h3 h4
    by_cases hi : i < d.length
    rotate_left
    · rw [List.drop_of_length_le (by omega)] at h4; cases h4
    have rdp := rd123 hi
    have hsz := tot_mem d[i] (List.getElem_mem hi)
    have hset := fun s h => tot_set s d i hi h
    rw [List.drop_eq_getElem_cons hi] at h4
    generalize d[i] = p at rdp h4 hsz hset
    unfold nthN at h4
    by_cases hf : p.f3 = true
    · rw [if_pos hf] at h4
      cases n with
      | zero =>
        simp only [Option.some.injEq] at h4
        subst h4
        rw [Nat.add_zero, rdp]
        have hpk := rpick_ok p side
        have hps := pick_size p side
        refine Ev.step (f := fun k => (tripartiteref11_pick.f k p.f0 p.f1 p.f2 p.f3 p.f4 p.f5 p.f6 p.f7 p.f8 side).bind fun bt114 => (if bt114.2 = 0 then (if bt114.1.toList = ([] : List UInt8) then (tripartiteref11_One.l0 k d (-1) side (d.set i (tp bt114.1)) ((i + 1 : Nat) : Int)) else ((tripartiteref01_Ends.f bt114.1).bind fun t117 => (if t117 = true then (tripartiteref11_One.l0 k d (-1) side (d.set i (tp bt114.1)) ((i + 1 : Nat) : Int)) else (if ((i : Int) + 1) < (d.length : Int) then (some (([] : List (S123)), 11)) else (tripartiteref11_One.l0 k d (-1) side (d.set i (tp bt114.1)) ((i + 1 : Nat) : Int)))))) else (some (([] : List (S123)), bt114.2)))) (fun k => ?_) ?_
        · simp only [tripartiteref11_One.l0]
          rw [if_pos (by omega), if_pos (by omega), rdp, if_pos hf, if_pos (by simp), w64 (x := (i : Int) + 1) (by omega) (by omega)]
          have e1 : wrap64 (((0 : Nat) : Int) - 1) = -1 := by unfold wrap64; decide
          have e2 : (i : Int) < (d.length : Int) := by omega
          simp only [e1, if_pos e2, Int.toNat_natCast]
          rfl
        · refine Ev.bind hpk ?_
          unfold atV
          generalize pickF (of123 p) side = r at hps
          obtain ⟨s, er⟩ := r
          simp only at hps ⊢
          have hs3 : s.size ≤ szs p := by omega
          have tail := ref_tail d hd side (d.set i (tp s)) (by rw [List.length_set]; exact hd) (Nat.le_trans (hset s hs3) htd) d.length (i + 1) (-1) (by omega) (by omega) (by omega) (by omega)
          by_cases her : er = 0
          · rw [if_pos her]
            refine Ev.congr (fun k => by rw [if_pos her]) ?_
            by_cases hem : s.toList = []
            · rw [if_neg (by rw [emp_iff.1 hem]; intro h; cases h.1)]
              exact Ev.congr (fun k => by rw [if_pos hem]) tail
            · have e4 : emp s = false := by
                cases e : emp s
                · rfl
                · exact absurd (emp_iff.2 e) hem
              refine Ev.congr (fun k => by rw [if_neg hem, Ends_ok s (by omega), Option.bind_some]) ?_
              cases hE : endB s
              · refine Ev.congr (fun k => by rw [if_neg (by decide)]) ?_
                by_cases hlt : i + 1 < d.length
                · rw [if_pos ⟨e4, rfl, hlt⟩]
                  exact Ev.congr (f := fun _ => some (([] : List (S123)), 11)) (fun k => by rw [if_pos (by omega)]) (Ev.now _)
                · rw [if_neg (fun h => hlt h.2.2)]
                  exact Ev.congr (fun k => by rw [if_neg (by omega)]) tail
              · rw [if_neg (fun h => by cases h.2.1)]
                exact Ev.congr (fun k => by rw [if_pos rfl]) tail
          · rw [if_neg her]
            exact Ev.congr (f := fun _ => some (([] : List (S123)), er)) (fun k => by rw [if_neg her]) (Ev.now _)
      | succ n =>
        simp only at h4
        obtain ⟨u, hu, rfl⟩ := Option.map_eq_some_iff.1 h4
        have := ih (i + 1) n u (by omega) (by omega) (by omega) hu
        rw [show i + 1 + u = i + (u + 1) by omega] at this
        refine Ev.step (f := fun k => tripartiteref11_One.l0 k d (n : Int) side d ((i + 1 : Nat) : Int)) (fun k => ?_) this
        simp only [tripartiteref11_One.l0]; rw [if_pos (by omega), if_pos (by omega), rdp, if_pos hf, if_neg (by omega), w64 (x := (i : Int) + 1) (by omega) (by omega), w64 (by omega) (by omega), show ((n + 1 : Nat) : Int) - 1 = (n : Int) by omega]; rfl
    · rw [if_neg hf] at h4
      obtain ⟨u, hu, rfl⟩ := Option.map_eq_some_iff.1 h4
      have := ih (i + 1) n u (by omega) (by omega) (by omega) hu
      rw [show i + 1 + u = i + (u + 1) by omega] at this
      refine Ev.step (f := fun k => tripartiteref11_One.l0 k d (n : Int) side d ((i + 1 : Nat) : Int)) (fun k => ?_) this
      simp only [tripartiteref11_One.l0]; rw [if_pos (by omega), if_pos (by omega), rdp, if_neg hf, w64 (x := (i : Int) + 1) (by omega) (by omega)]; rfl
def oneV (d : List S123) (n side : Int) : List S123 × Int :=
  if rightGo false d = true then (match nthZ d n with | some t => atV d.length d (rd_T123 d (t : Int)) side t | none => ([], 1)) else ([], 11)
theorem nthZ_lt {d : List S123} {n : Int} {t : Nat} (h : nthZ d n = some t) : t < d.length ∧ 0 ≤ n ∧ n.toNat < conf d ∧ nthN d n.toNat = some t := by
  unfold nthZ at h
  split at h
  · cases h
  · have := nthN_some d _ _ h
    exact ⟨this.1, by omega, this.2, h⟩
theorem nthZ_none {d : List S123} {n : Int} (h : nthZ d n = none) : n < 0 ∨ (conf d : Int) ≤ n := by
  unfold nthZ at h
  split at h
  · rename_i hn; exact Or.inl hn
  · have := nthN_none d _ h; exact Or.inr (by omega)
theorem rOne_ok (d : List S123) (n side : Int) (hd : d.length ≤ 60) (ht : tot d ≤ 3000) : Ev (fun k => tripartiteref11_One.f k d n side) (oneV d n side) := by
  unfold tripartiteref11_One.f oneV
  have hc := conf_le d
  refine Ev.bind (ref_right_ok d hd (fun p hp => Nat.le_trans (tot_mem p hp) ht)) ?_
  have Jt : Ev (fun k => tripartiteref11_One.j0 k d n side true) ([], 1) := Ev.step (f := fun _ => some (([] : List S123), 1)) (fun k => by simp only [tripartiteref11_One.j0]; rw [if_pos trivial]) (Ev.now _)
  cases rightGo false d
  · exact Ev.congr (f := fun _ => some (([] : List S123), 11)) (fun k => by rw [if_neg (by decide)]) (Ev.now _)
  · refine Ev.congr (fun k => by rw [if_pos rfl]) ?_
    rw [if_pos rfl]
    cases hn : nthZ d n with
    | none =>
      simp only
      rcases nthZ_none hn with h | h
      · exact Ev.congr (fun k => by rw [if_pos h]) Jt
      · refine Ev.congr (fun k => by rw [if_neg (by omega)]) ?_
        refine Ev.bind (rConf_ok d hd) ?_
        rw [decide_eq_true (show n ≥ (conf d : Int) from h)]
        exact Jt
    | some t =>
      simp only
      obtain ⟨h1, h2, h3, h4⟩ := nthZ_lt hn
      refine Ev.congr (fun k => by rw [if_neg (by omega)]) ?_
      refine Ev.bind (rConf_ok d hd) ?_
      rw [decide_eq_false (show ¬ n ≥ (conf d : Int) by omega)]
      have main := ref_main d hd ht side d.length 0 n.toNat t (by omega) (by omega) (by omega) (by rw [List.drop_zero]; exact h4)
      rw [Nat.zero_add, show ((n.toNat : Nat) : Int) = n by omega] at main
      refine Ev.step (f := fun k => tripartiteref11_One.l0 k d n side d ((0 : Nat) : Int)) (fun k => ?_) main
      simp only [tripartiteref11_One.j0]
      rw [if_neg (by decide), Option.bind_some, if_pos (by simp; omega), List.nil_append]; rfl
theorem set_map (d : List S123) (t : Nat) (s : ByteArray) : (d.map of123).set t (⟨⟨⟨#[]⟩, ⟨#[]⟩, ⟨#[]⟩⟩, false, s, ⟨#[]⟩, ⟨#[]⟩, ⟨#[]⟩, false⟩ : S120) = (d.set t (tp s)).map of123 := by
  rw [List.map_set]; rfl
theorem pOne_ok (d : List S123) (n side : Int) (hd : d.length ≤ 60) (ht : tot d ≤ 3000) (h0 : -9223372036854775808 ≤ n) (h1 : n ≤ 9223372036854775807) : Ev (fun k => resolve_One.f k (d.map of123) n side) ((oneV d n side).1.map of123, (oneV d n side).2) := by
  have hx : (d.map of123).length = d.length := List.length_map _
  unfold resolve_One.f oneV
  refine Ev.bind (nth_ok d hd n h0 h1) ?_
  refine Ev.bind (prog_right_ok d hd (fun p hp => Nat.le_trans (tot_mem p hp) ht)) ?_
  cases rightGo false d
  · exact Ev.congr (f := fun _ => some (([] : List S120), 11)) (fun k => by rw [if_neg (by decide)]) (Ev.now _)
  · refine Ev.congr (fun k => by rw [if_pos rfl]) ?_
    rw [if_pos rfl]
    cases hn : nthZ d n with
    | none =>
      simp only
      exact Ev.congr (f := fun _ => some (([] : List S120), 1)) (fun k => by rw [if_pos (by decide)]) (Ev.now _)
    | some t =>
      simp only
      obtain ⟨hl, _⟩ := nthZ_lt hn
      have rdq := rdmap hl
      have rdp := rd123 hl
      have hsz := tot_mem d[t] (List.getElem_mem hl)
      have hset := fun s h => tot_set s d t hl h
      rw [rdp]
      generalize d[t] = p at rdq hsz hset
      have hps := pick_size p side
      refine Ev.congr (fun k => by rw [if_neg (by omega), if_pos (by omega), if_pos (by omega), rdq]) ?_
      refine Ev.bind (a := pickF (of123 p) side) (Ev.congr (f := fun _ => some (pickF (of123 p) side)) (fun k => rfl) (Ev.now _)) ?_
      unfold atV
      generalize pickF (of123 p) side = r at hps
      obtain ⟨s, er⟩ := r
      simp only at hps ⊢
      have hs3 : s.size ≤ szs p := by omega
      have hlen : (d.set t (tp s)).length ≤ 60 := by rw [List.length_set]; exact hd
      have Jt : Ev (fun k => resolve_One.j0 k (d.map of123) (t : Int) s true) ([], 11) := Ev.step (f := fun _ => some (([] : List S120), 11)) (fun k => by simp only [resolve_One.j0]; rw [if_pos trivial]) (Ev.now _)
      have Jf : Ev (fun k => resolve_One.j0 k (d.map of123) (t : Int) s false) ((ofS [] (d.set t (tp s))).map of123, 0) := by
        refine Ev.step (f := fun k => (doc_Of.f k ((d.set t (tp s)).map of123)).bind fun t111 => (some (t111, 0))) (fun k => ?_) (Ev.bind (pOf_ok _ hlen (Nat.le_trans (hset s hs3) ht)) (Ev.now _))
        simp only [resolve_One.j0]
        unfold doc_Part.f
        rw [if_neg (by decide), if_pos (by omega), Option.bind_some, if_pos (by omega), if_pos (by omega), Int.toNat_natCast, set_map]
      by_cases her : er = 0
      · rw [if_pos her]
        refine Ev.congr (fun k => by rw [if_pos her]) ?_
        by_cases hem : s.toList = []
        · rw [if_neg (by rw [emp_iff.1 hem]; intro h; cases h.1)]
          exact Ev.congr (fun k => by rw [if_pos hem]) Jf
        · have e4 : emp s = false := by
            cases e : emp s
            · rfl
            · exact absurd (emp_iff.2 e) hem
          refine Ev.congr (fun k => by rw [if_neg hem, Suffix_ok s (by omega), Option.bind_some]) ?_
          rw [hx, w64 (x := (d.length : Int) - 1) (by omega) (by omega)]
          cases hE : endB s
          · refine Ev.congr (fun k => by rw [if_neg (by decide)]) ?_
            by_cases hlt : t + 1 < d.length
            · rw [if_pos ⟨e4, rfl, hlt⟩, decide_eq_true (show (t : Int) < (d.length : Int) - 1 by omega)]
              exact Jt
            · rw [if_neg (fun h => hlt h.2.2), decide_eq_false (show ¬ (t : Int) < (d.length : Int) - 1 by omega)]
              exact Jf
          · rw [if_neg (fun h => by cases h.2.1)]
            exact Ev.congr (fun k => by rw [if_pos rfl]) Jf
      · rw [if_neg her]
        exact Ev.congr (f := fun _ => some (([] : List S120), er)) (fun k => by rw [if_neg her]) (Ev.now _)
theorem oneV_right (d : List S123) (n side : Int) (hd : d.length ≤ 60) (ht : tot d ≤ 3000) : (oneV d n side).1.length ≤ 60 ∧ tot (oneV d n side).1 ≤ 3000 ∧ ((oneV d n side).2 = 0 → rightGo false (oneV d n side).1 = true) := by
  unfold oneV
  by_cases hr : rightGo false d = true
  · rw [if_pos hr]
    cases hn : nthZ d n with
    | none => exact ⟨by simp, by simp [tot], fun h => by simp at h⟩
    | some t =>
      simp only
      obtain ⟨hl, _⟩ := nthZ_lt hn
      rcases atV_cases d.length d (rd_T123 d (t : Int)) side t with ⟨h1, h2⟩ | ⟨h1, h2⟩
      · exact ⟨by rw [h2]; simp, by rw [h2]; simp [tot], fun h => absurd h h1⟩
      · rw [h1]
        simp only
        have hset := tot_set (pickF (of123 (rd_T123 d (t : Int))) side).1 d t hl (by rw [rd123 hl]; have := pick_size d[t] side; omega)
        refine ⟨?_, ?_, fun _ => ?_⟩
        · have := ofS_len (d.set t (tp (pickF (of123 (rd_T123 d (t : Int))) side).1)) []
          rw [List.length_set] at this
          simp only [List.length_nil] at this
          omega
        · have := ofS_tot (d.set t (tp (pickF (of123 (rd_T123 d (t : Int))) side).1)) []
          rw [tot_nil] at this
          omega
        · rw [right_iff]
          refine ofS_right _ [] (good_set _ d t (good_of d false ((right_iff d false).1 hr)) h2) ?_ (by rw [tot_nil]; omega)
          trivial
  · rw [if_neg hr]
    exact ⟨by simp, by simp [tot], fun h => by simp at h⟩
theorem ResolveOnes (d : List S123) (n side : Int) (hl : d.length ≤ 1000000000000000) (hs : ∀ p ∈ d, szs p ≤ 1000000000000000) (h0 : -9223372036854775808 ≤ n) (h1 : n ≤ 9223372036854775807) : ∃ k, tripartitelaw11_ResolveOnes.f k d n side = some true := by
  refine Ev.rounds (g := fun k => tripartitelaw11_ResolveOnes.f k d n side) ?_
  unfold tripartitelaw11_ResolveOnes.f
  refine Ev.bind (Few_ok d hl hs) ?_
  cases hf : few d
  · exact Ev.congr (fun k => by rw [if_neg (by decide)]) (Ev.bind told_ok (Ev.now _))
  · unfold few at hf
    obtain ⟨hd, ht⟩ := of_decide_eq_true hf
    refine Ev.congr (fun k => by rw [if_pos rfl]) ?_
    obtain ⟨o1, o2, o3⟩ := oneV_right d n side hd ht
    have hp := pOne_ok d n side hd ht h0 h1
    have hr := rOne_ok d n side hd ht
    generalize oneV d n side = v at o1 o2 o3 hp hr
    obtain ⟨w, e⟩ := v
    simp only at o1 o2 o3 hp
    refine Ev.bind (To_ok d hd) (Ev.bind hp (Ev.bind hr (Ev.bind told_ok ?_)))
    refine Ev.congr (fun k => by rw [if_pos rfl, if_pos rfl]) ?_
    refine Ev.bind (From_ok (w.map of123) (by rw [List.length_map]; omega)) ?_
    rw [from_of]
    refine Ev.bind (Same_ok w (by omega)) ?_
    refine Ev.congr (fun k => by rw [if_pos rfl]) ?_
    have last : Ev (fun k => (tripartitelaw07_From.f k (d.map of123)).bind fun t120 => ((tripartiteref07_Same.f k t120 d).bind fun t123 => (some t123))) true := by
      refine Ev.bind (From_ok (d.map of123) (by rw [List.length_map]; omega)) ?_
      rw [from_of]
      exact Ev.bind (Same_ok d (by omega)) (Ev.now _)
    by_cases he : e = 0
    · refine Ev.congr (fun k => by rw [if_pos he]) ?_
      refine Ev.bind (prog_right_ok w o1 (fun p hp => Nat.le_trans (tot_mem p hp) o2)) ?_
      rw [o3 he]
      exact Ev.congr (fun k => by rw [if_pos rfl]) last
    · exact Ev.congr (fun k => by rw [if_neg he]) last
end Res
end Go.Proofs.Ytadafplbgophfaa.Pure
end
section
namespace Go.Proofs.Ytadafplbgophfaa.PA
open Go.RowKit Go.Proofs.YtadafplbgophfaaW.PrintWords Go.Proofs.YtadafplbgophfaaW.PrintLast Go.Proofs.YtadafplbgophfaaW.PrintMore
theorem szs_le {p : S123} {n : Nat} (hn : n ≤ 140737488355328) (h : p.f0.size ≤ n ∧ p.f1.size ≤ n ∧ p.f2.size ≤ n ∧ p.f4.size ≤ n ∧ p.f5.size ≤ n ∧ p.f6.size ≤ n ∧ p.f7.size ≤ n) : Pure.Res.szs p ≤ 1000000000000000 := by
  unfold Pure.Res.szs
  omega
theorem wf_i64 {n : Int} (h : (Lit.int .i64 n).wf = true) : -9223372036854775808 ≤ n ∧ n ≤ 9223372036854775807 := by
  have e1 : IntKind.i64.min = -9223372036854775808 := by rfl
  have e2 : IntKind.i64.max = 9223372036854775807 := by rfl
  simp only [Lit.wf, e1, e2, Bool.and_eq_true, decide_eq_true_eq] at h
  exact h
theorem ResolveOnes_walk (A0 : Option Addr) (c0 : Nat) (l0 : List S123) (n side : Int) (w : World) (hr0 : Kd.C k123 w A0 l0.length l0) (hc0 : l0.length ≤ c0)
    (hl : l0.length ≤ 1000000000000000) (hs : ∀ p ∈ l0, Pure.Res.szs p ≤ 1000000000000000) (hn : (Lit.int .i64 n).wf = true) :
    Calls Try.prog 14 #[.slice A0 l0.length c0, .int .i64 n, .int .i64 side] w fun e w' => e = .returned (.bool true) ∧ Below w.heap.size w w' := by
  obtain ⟨k, hk⟩ := Pure.Res.ResolveOnes l0 n side hl hs (wf_i64 hn).1 (wf_i64 hn).2
  exact tripartitelaw11_ResolveOnes.calls k A0 c0 l0 n side true w hr0 hc0 hk
end Go.Proofs.Ytadafplbgophfaa.PA
end
