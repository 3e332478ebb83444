/- Part 2 of what the row of the law EditApplies rests on: walks of functions, and plain lemmas. -/
import Derived.Test.YtadafplbgophfaaEb1
import Derived.Outline
section
/- Cuts of a row that is read, of any kind, each with the row that it reads. -/
namespace Go.Proofs.Ytadafplbgophfaa.PA
open Go.RowKit Go.Proofs.YtadafplbgophfaaW.PrintWords Go.Proofs.YtadafplbgophfaaW.PrintLast Go.Proofs.YtadafplbgophfaaW.PrintMore
section
variable {α : Type} {P : Program}
theorem cut_lh (k : Kd α) (t e : TypeId) {i : TypeInfo} (ht : P.underlying t = some (.slice e)) (hi : P.info? e = some i) (hsz : i.size = k.sz) (A : Option Addr) (c : Nat) (xs : List α) (a b : Int) (h0 : 0 ≤ a) (h1 : a ≤ b) (hm : b ≤ xs.length) (hc : xs.length ≤ c) :
    ∃ (A' : Option Addr) (c' : Nat), (∀ W : World, (Instr.slice t (.slice A xs.length c) (some (.int .i64 a)) (some (.int .i64 b)) none).run P W = .ok (.slice A' ((xs.take b.toNat).drop a.toNat).length c') W) ∧
      (∀ w : World, k.C w A xs.length xs → k.C w A' ((xs.take b.toNat).drop a.toNat).length ((xs.take b.toNat).drop a.toNat)) ∧ ((xs.take b.toNat).drop a.toNat).length ≤ c' := by
  have hlt : (xs.take b.toNat).length = b.toNat := by rw [List.length_take]; omega
  have hl : ((xs.take b.toNat).drop a.toNat).length = b.toNat - a.toNat := by rw [List.length_drop, hlt]
  refine ⟨if c = a.toNat then A else A.map (·.add (a.toNat * k.sz)), c - a.toNat, fun W => ?_, fun w h => ?_, by rw [hl]; omega⟩
  · rw [hl]; exact cut_mid t e .i64 .i64 ht hi k.sz hsz A xs.length c a b h0 h1 hm hc W
  · exact Kd.C_mid h (by omega) (by omega) hc
theorem cut_l (k : Kd α) (t e : TypeId) {i : TypeInfo} (ht : P.underlying t = some (.slice e)) (hi : P.info? e = some i) (hsz : i.size = k.sz) (A : Option Addr) (c : Nat) (xs : List α) (a : Int) (h0 : 0 ≤ a) (hm : a ≤ xs.length) (hc : xs.length ≤ c) :
    ∃ (A' : Option Addr) (c' : Nat), (∀ W : World, (Instr.slice t (.slice A xs.length c) (some (.int .i64 a)) none none).run P W = .ok (.slice A' (xs.drop a.toNat).length c') W) ∧
      (∀ w : World, k.C w A xs.length xs → k.C w A' (xs.drop a.toNat).length (xs.drop a.toNat)) ∧ (xs.drop a.toNat).length ≤ c' := by
  have hl : (xs.drop a.toNat).length = xs.length - a.toNat := List.length_drop
  refine ⟨if c = a.toNat then A else A.map (·.add (a.toNat * k.sz)), c - a.toNat, fun W => ?_, fun w h => Kd.C_drop h (by omega) hc, by rw [hl]; omega⟩
  have hel : P.elem t = e := by simp [Program.elem, ht]
  have hu : P.underlying t = some (.slice (P.elem t)) := by rw [hel]; exact ht
  rw [run_slice_l W t A xs.length c hu .i64 a h0 (by omega), hel, hl]
  simp [sizeOf, typeInfo, hi, hsz, sliced, Result.andThen]
theorem cut_h (k : Kd α) (t e : TypeId) {i : TypeInfo} (ht : P.underlying t = some (.slice e)) (hi : P.info? e = some i) (hsz : i.size = k.sz) (A : Option Addr) (c : Nat) (xs : List α) (b : Int) (h0 : 0 ≤ b) (hm : b ≤ xs.length) (hc : xs.length ≤ c) :
    (∀ W : World, (Instr.slice t (.slice A xs.length c) none (some (.int .i64 b)) none).run P W = .ok (.slice A (xs.take b.toNat).length c) W) ∧
      (∀ w : World, k.C w A xs.length xs → k.C w A (xs.take b.toNat).length (xs.take b.toNat)) ∧ (xs.take b.toNat).length ≤ c := by
  have hl : (xs.take b.toNat).length = b.toNat := by rw [List.length_take]; omega
  refine ⟨fun W => ?_, fun w h => Kd.C_take h (by omega), by rw [hl]; omega⟩
  have hel : P.elem t = e := by simp [Program.elem, ht]
  have hu : P.underlying t = some (.slice (P.elem t)) := by rw [hel]; exact ht
  have ha : (A.map fun x => x.add 0) = A := by cases A <;> simp [Addr.add]
  rw [run_slice_h W t A xs.length c hu .i64 b h0 (by omega), hel, hl]
  simp [sizeOf, typeInfo, hi, hsz, sliced, Result.andThen, ha]
/-- A literal's row, its elements of one cell each. -/
theorem C_lit (d : Kd α) (hsz : d.sz = 1) (W : World) (e : TypeId) (xs : List α) (vs : List Value) (hl : vs.length = xs.length) (hmax : xs.length ≤ 9223372036854775807)
    (hK : ∀ (j : Nat) (p : α) (u : Value), xs[j]? = some p → vs[j]? = some u → d.K W p [u]) : d.C (W.alloc (.cells vs.toArray e (0, 0))) (some ⟨W.heap.size, 0, none⟩) xs.length xs := by
  refine ⟨rfl, hmax, fun _ => ⟨_, rfl, fun j p hj => ?_⟩⟩
  have hjl : j < vs.length := by have := (List.getElem?_eq_some_iff.1 hj).1; omega
  have hu : vs[j]? = some vs[j] := List.getElem?_eq_getElem hjl
  refine ⟨[vs[j]], by rw [hsz]; rfl, d.K_below (below_alloc (Below.refl _ _) _) (hK j p _ hj hu), fun i u hi => ?_⟩
  obtain rfl : i = 0 := by
    have := (List.getElem?_eq_some_iff.1 hi).1
    simpa using this
  obtain rfl : vs[j] = u := by simpa using hi
  rw [hsz, Nat.mul_one, Nat.add_zero, add_plain]
  refine (blk_cell (blk_new W _) j).trans ?_
  simp [hu]
end
end Go.Proofs.Ytadafplbgophfaa.PA
end
section
/- edit.Of, walked by hand: the script that a matching tells. -/
namespace Go.Proofs.Ytadafplbgophfaa.PA
set_option linter.unusedSimpArgs false
set_option linter.unusedVariables false
open Go.RowKit Go.Proofs.YtadafplbgophfaaW.PrintWords Go.Proofs.YtadafplbgophfaaW.PrintLast Go.Proofs.YtadafplbgophfaaW.PrintMore

def ofGo (a b : List ByteArray) : List S39 → Int → Int → List S143 → Option (List S143)
  | [], i, k, out => if 0 ≤ i ∧ i ≤ a.length ∧ 0 ≤ k ∧ k ≤ b.length then (putO out 1 (a.drop i.toNat)).bind fun o1 => putO o1 2 (b.drop k.toNat) else none
  | p :: l, i, k, out => if 0 ≤ i ∧ i ≤ p.f0 ∧ p.f0 < a.length ∧ 0 ≤ k ∧ k ≤ p.f1 ∧ p.f1 < b.length then
      (putO out 1 ((a.take p.f0.toNat).drop i.toNat)).bind fun o1 => (putO o1 2 ((b.take p.f1.toNat).drop k.toNat)).bind fun o2 => (putO o2 0 [rdOf ByteArray.empty a p.f0]).bind fun o3 => ofGo a b l (p.f0 + 1) (p.f1 + 1) o3 else none
def edit_Of.f (k : Nat) (a b : List ByteArray) (l : List S39) : Option (List S143 × Int) :=
  if Fits86 [a, b] ∧ l.length ≤ 1000000000 then (lcs_Right.f k (numFile [] a).1 (numFile (numFile [] a).2 b).1 l).bind fun ok => if ok then (ofGo a b l 0 0 []).map fun r => (r, 0) else some ([], 12) else none
theorem edit_Of.mono : ∀ a0 a1 a2 k, LeO (edit_Of.f k a0 a1 a2) (edit_Of.f (k + 1) a0 a1 a2) := by
  intro a0 a1 a2 k
  unfold edit_Of.f
  exact LeO.ite (LeO.bind (lcs_Right.mono _ _ _ _) (fun _ => LeO.refl _)) (LeO.refl _)
theorem go_lens {a b : List ByteArray} (h : Fits86 [a, b]) : a.length ≤ 1000000000 ∧ b.length ≤ 1000000000 := by
  have := h.2.1
  simp only [texts] at this
  omega

set_option maxHeartbeats 4000000 in
set_option maxRecDepth 100000 in
theorem edit_Of.calls (k : Nat) (A0 : Option Addr) (c0 : Nat) (l0 : List ByteArray) (A1 : Option Addr) (c1 : Nat) (l1 : List ByteArray) (A2 : Option Addr) (c2 : Nat) (l2 : List S39) (r1 : List S143) (r2 : Int) (w : World) (hr0 : Kd.C Kd.string w A0 l0.length l0) (hc0 : l0.length ≤ c0) (hr1 : Kd.C Kd.string w A1 l1.length l1) (hc1 : l1.length ≤ c1) (hr2 : Kd.C k39 w A2 l2.length l2) (hc2 : l2.length ≤ c2) (h : edit_Of.f k l0 l1 l2 = some (r1, r2)) :
    Calls Try.prog 34 #[.slice A0 l0.length c0, .slice A1 l1.length c1, .slice A2 l2.length c2] w fun e w' => ∃ v0_ : Value, e = .returned (.tuple #[v0_, .int .i64 r2]) ∧ Kd.S k143 143 w' w.heap.size (fun _ => True) v0_ r1 ∧ Below w.heap.size w w' := by
  unfold edit_Of.f at h
  split at h
  case isFalse => cases h
  rename_i hG
  obtain ⟨hfits, hl2⟩ := hG
  obtain ⟨ok, hok, h⟩ := Option.bind_eq_some_iff.1 h
  have hu143 := Try.underlying143
  have hu137 := Try.underlying137
  have hu39 := Try.underlying39
  obtain ⟨hla, hlb⟩ := go_lens hfits
  have HR0 := Aside0.mk hr0
  have HC0 := Aside0.mk hc0
  have HR1 := Aside0.mk hr1
  have HC1 := Aside0.mk hc1
  have HR2 := Aside0.mk hr2
  have HC2 := Aside0.mk hc2
  have HF := Aside0.mk hfits
  have HOK := Aside0.mk hok
  have HH := Aside0.mk h
  clear hr0 hc0 hr1 hc1 hr2 hc2 hfits hok h
  go_enter Try.func34, Try.ntmps34
  go_wp2_with fail
  have HL0 : Aside0 (Kd.C (Kd.slice 9 Kd.string) (w.alloc (.cells #[.slice A0 l0.length c0, .slice A1 l1.length c1] 27 (0, 0))) (some ⟨w.heap.size, 0, none⟩) [l0, l1].length [l0, l1]) := ⟨C_lit (Kd.slice 9 Kd.string) rfl w 27 [l0, l1] [.slice A0 l0.length c0, .slice A1 l1.length c1] rfl (by simp) (fun j p u hp hu => by
    match j, hp, hu with
    | 0, hp, hu => cases hp; cases hu; exact ⟨A0, c0, rfl, HC0.out, HR0.out⟩
    | 1, hp, hu => cases hp; cases hu; exact ⟨A1, c1, rfl, HC1.out, HR1.out⟩
    | (j + 2), hp, hu => simp at hp)⟩
  refine (lines_Number.calls k (some ⟨w.heap.size, 0, none⟩) 2 [l0, l1] (numAll [] [l0, l1]) _ HL0.out (Nat.le_refl _) (if_pos HF.out)).mono ?_
  rintro e w1 ⟨v0_, rfl, hR, hB⟩
  have HB1 := Aside0.mk (below_then (below_alloc (Below.refl w.heap.size w) (.cells #[.slice A0 l0.length c0, .slice A1 l1.length c1] 27 (0, 0))) (below_alloc (Below.refl w.heap.size w) _).size hB)
  obtain ⟨A, c, rfl, hc, hC⟩ := Kd.R_reads hR
  have hnl : (numAll [] [l0, l1]).length = 2 := rfl
  obtain ⟨ad, AX, cX, eA, hx, hlx, hcx⟩ := at_L6 hC (0 : Int) (by decide) (by rw [hnl]; decide)
  obtain ⟨ad', AY, cY, eA', hy, hly, hcy⟩ := at_L6 hC (1 : Int) (by decide) (by rw [hnl]; decide)
  cases eA
  cases eA'
  have eX : rd_L6 (numAll [] [l0, l1]) 0 = (numFile [] l0).1 := rfl
  have eY : rd_L6 (numAll [] [l0, l1]) 1 = (numFile (numFile [] l0).2 l1).1 := rfl
  rw [eX] at hx hlx hcx
  rw [eY] at hy hly hcy
  obtain ⟨x, hxx⟩ : ∃ x, x = (numFile [] l0).1 := ⟨_, rfl⟩
  obtain ⟨y, hyy⟩ : ∃ y, y = (numFile (numFile [] l0).2 l1).1 := ⟨_, rfl⟩
  rw [← hxx] at hx hlx hcx
  rw [← hyy] at hy hly hcy
  have HOK2 : Aside0 (lcs_Right.f k x y l2 = some ok) := ⟨by rw [hxx, hyy]; exact HOK.out⟩
  have HX := Aside0.mk hcx
  have HXL := Aside0.mk hlx
  have HY := Aside0.mk hcy
  have HYL := Aside0.mk hly
  simp only [Int.toNat_zero, Int.toNat_one] at hx hy
  clear hR hB hC hc hlx hcx hly hcy hxx hyy eX eY HL0 HOK
  rw [hnl]
  clear hnl
  replace hx : w1.cell? ad = some (.slice AX x.length cX) := by simpa [Addr.add] using hx
  replace hy : w1.cell? ⟨ad.block, ad.off + 1, none⟩ = some (.slice AY y.length cY) := by simpa [Addr.add] using hy
  go_wp2_with fail
  go_region_held3 (fun w' => w'.cell? ad = some (.slice AX x.length cX) ∧ w'.cell? ⟨ad.block, ad.off + 1, none⟩ = some (.slice AY y.length cY)) (go_keep)
    (first | (go_at_call 31; refine (lcs_Right.calls k AX cX x AY cY y A2 c2 l2 ok _ (Kd.C_drew HX.out) HXL.out (Kd.C_drew HY.out) HYL.out (Kd.C_drew (Kd.C_below HR2.out HB1.out)) HC2.out HOK2.out).mono ?_; rintro e w2 ⟨rfl, hb⟩; have hb2 := below_step HB1.out (below_then (below_drew (Below.refl w1.heap.size w1)) (Nat.le_refl _) hb); replace hx := pw_cell_below hb hx; replace hy := pw_cell_below hb hy))
  have HB2 := Aside0.mk hb2
  clear hb hb2 hx hy HX HY HXL HYL HB1 HOK2
  cases ok
  · have h := HH.out
    rw [if_neg (by simp)] at h
    simp only [Option.some.injEq, Prod.mk.injEq] at h
    obtain ⟨rfl, rfl⟩ := h
    go_wp2_with fail
    go_ret2
    exact ⟨_, rfl, Kd.S_nil _ _ _ _ _, HB2.out⟩
  · have h := HH.out
    rw [if_pos rfl] at h
    obtain ⟨rr, hrr, he⟩ := Option.map_eq_some_iff.1 h
    simp only [Prod.mk.injEq] at he
    obtain ⟨rfl, rfl⟩ := he
    have HG := Aside0.mk hrr
    clear h HH hrr
    simp only [Bool.not_true]
    go_wp2_with fail
    go_loopw [10, 11, 29] (fun v10 v11 v29 wr => ∃ (n : Nat) (i k : Int) (v : Value) (out : List S143), n ≤ l2.length ∧ v10 = .int .i64 i ∧ v11 = .int .i64 k ∧ v29 = .int .i64 (n : Int) ∧ Aside0 (Wrt w2 wr w2.heap.size (fun k => k ≠ w2.heap.size) v out) ∧ Aside0 (ofGo l0 l1 (l2.drop n) i k out = some rr)) (fun _ _ v29 _ => l2.length - (intOf v29).toNat)
    case atStart =>
      have hsz : ∀ k, (w2.alloc (.cells #[.slice none 0 0] 137 (0, 0))).heap.size ≤ k → k ≠ w2.heap.size := fun k hk e => by
        have := blk_lt (blk_new w2 (.cells #[.slice none 0 0] 137 (0, 0)))
        omega
      exact ⟨0, 0, 0, .slice none 0 0, [], Nat.zero_le _, rfl, rfl, rfl, ⟨⟨below_alloc (Below.refl _ _) _, Nat.le_refl _, blk_new w2 _, Kd.S_nil _ _ _ _ _, fun h => h rfl, hsz⟩⟩, HG⟩
    case round =>
      obtain ⟨n, i, kk, v, out, hn, rfl, rfl, rfl, HW, HB⟩ := hrel
      by_cases hlt : n < l2.length
      · have p0 : (0 : Int) ≤ (n : Int) := by omega
        have q0 : (n : Int) < (l2.length : Int) := by omega
        obtain ⟨ad2, eA, hx0, hx1⟩ := at_T39 HR2.out (n : Int) p0 q0
        cases eA
        have HBW := Aside0.mk (below_step HB2.out HW.out.below)
        replace hx0 := pw_cell_below HBW.out hx0
        replace hx1 := pw_cell_below HBW.out hx1
        have hrd : rd_T39 l2 (n : Int) = l2[n] := by simp [rd_T39, List.getD_eq_getElem?_getD, hlt]
        rw [hrd, Int.toNat_natCast] at hx0 hx1
        have hb := HB.out
        rw [List.drop_eq_getElem_cons hlt] at hb
        generalize l2[n] = q at hx0 hx1 hb
        unfold ofGo at hb
        split at hb
        case isFalse => cases hb
        rename_i hG
        obtain ⟨hi0, hi1, hi2, hk0, hk1, hk2⟩ := hG
        obtain ⟨o1, g1, hb⟩ := Option.bind_eq_some_iff.1 hb
        obtain ⟨o2, g2, hb⟩ := Option.bind_eq_some_iff.1 hb
        obtain ⟨o3, g3, hb⟩ := Option.bind_eq_some_iff.1 hb
        have hcut : decide ((n : Int) < (l2.length : Int)) = true := decide_eq_true q0
        obtain ⟨i0, hinfo, _, hsz, _⟩ := info_parts info9
        obtain ⟨AA, cA, hcA, hCA, hlA⟩ := cut_lh Kd.string 27 9 Try.underlying27 hinfo hsz A0 c0 l0 i q.f0 hi0 hi1 (by omega) HC0.out
        obtain ⟨AB, cB, hcB, hCB, hlB⟩ := cut_lh Kd.string 27 9 Try.underlying27 hinfo hsz A1 c1 l1 kk q.f1 hk0 hk1 (by omega) HC1.out
        replace hCA := hCA _ HR0.out
        replace hCB := hCB _ HR1.out
        generalize (l0.take q.f0.toNat).drop i.toNat = da at hcA hCA hlA g1
        generalize (l1.take q.f1.toNat).drop kk.toNat = db at hcB hCB hlB g2
        obtain ⟨ad3, e3, hx3⟩ := Kd.at_string HR0.out q.f0 (by omega) hi2
        cases e3
        generalize rdOf ByteArray.empty l0 q.f0 = sA at hx3 g3
        have G1 := Aside0.mk (putO_some g1)
        have G2 := Aside0.mk (putO_some g2)
        have G3 := Aside0.mk (putO_some g3)
        have HCA := Aside0.mk hCA
        have HCB := Aside0.mk hCB
        have HLA := Aside0.mk hlA
        have HLB := Aside0.mk hlB
        have HX3 := Aside0.mk hx3
        have HBB := Aside0.mk hb
        have hn0 := (blk_cell (blk_new wr (.cells #[.int .i64 q.f0, .int .i64 q.f1] 39 (0, 0))) 0).trans (show _ = some _ from rfl)
        have hn1 := (blk_cell (blk_new wr (.cells #[.int .i64 q.f0, .int .i64 q.f1] 39 (0, 0))) 1).trans (show _ = some _ from rfl)
        have hS := blk_new wr (.cells #[.int .i64 q.f0, .int .i64 q.f1] 39 (0, 0))
        have HW1 := Aside0.mk (HW.out.beside (.cells #[.int .i64 q.f0, .int .i64 q.f1] 39 (0, 0)))
        clear hb HB g1 g2 g3 hCA hCB hlA hlB hinfo hsz hx3
        go_wp2_with fail
        refine (edit_writer_put.calls w2.heap.size _ v out 1 AA cA da w2 _ HW1.out (Kd.C_below HCA.out (below_step HB2.out HW1.out.below)) HLA.out G1.out.1 G1.out.2.1 G1.out.2.2.1).mono ?_
        rintro e w3 ⟨rfl, ⟨v3, hW'⟩, hfr⟩
        rw [G1.out.2.2.2] at hW'
        have hS3 := (hfr _ (blk_lt hS) (fun h => h.2 rfl) (by have := blk_lt HW.out.blk; omega)).trans hS
        have hn03 := (blk_cell hS3 0).trans (show _ = some _ from rfl)
        have hn13 := (blk_cell hS3 1).trans (show _ = some _ from rfl)
        have HW3 := Aside0.mk hW'
        clear hW' hfr
        go_wp2_with fail
        refine (edit_writer_put.calls w2.heap.size _ v3 o1 2 AB cB db w2 _ HW3.out (Kd.C_below HCB.out (below_step HB2.out HW3.out.below)) HLB.out G2.out.1 G2.out.2.1 G2.out.2.2.1).mono ?_
        rintro e w4 ⟨rfl, ⟨v4, hW'⟩, hfr⟩
        rw [G2.out.2.2.2] at hW'
        have hS4 := (hfr _ (blk_lt hS3) (fun h => h.2 rfl) (by have := blk_lt HW.out.blk; omega)).trans hS3
        have hn04 := (blk_cell hS4 0).trans (show _ = some _ from rfl)
        have hn14 := (blk_cell hS4 1).trans (show _ = some _ from rfl)
        have HW4 := Aside0.mk hW'
        have hx34 := pw_cell_below (below_step HB2.out hW'.below) HX3.out
        clear hW' hfr
        go_wp2_with fail
        have HC4 : Aside0 (Kd.C Kd.string (w4.alloc (.cells #[.string sA] 9 (0, 0))) (some ⟨w4.heap.size, 0, none⟩) [sA].length [sA]) := ⟨C_lit Kd.string rfl w4 9 [sA] [.string sA] rfl (by simp) (fun j p u hp hu => by
          match j, hp, hu with
          | 0, hp, hu => cases hp; cases hu; exact rfl
          | (j + 1), hp, hu => simp at hp)⟩
        have hS5 := blk_alloc hS4 (.cells #[.string sA] 9 (0, 0))
        refine (edit_writer_put.calls w2.heap.size _ v4 o2 0 (some ⟨w4.heap.size, 0, none⟩) 1 [sA] w2 _ (HW4.out.on (below_alloc (Below.refl _ _) _)) HC4.out (Nat.le_refl _) G3.out.1 G3.out.2.1 G3.out.2.2.1).mono ?_
        rintro e w5 ⟨rfl, ⟨v5, hW'⟩, hfr⟩
        rw [G3.out.2.2.2] at hW'
        have hS6 := (hfr _ (blk_lt hS5) (fun h => h.2 rfl) (by have := blk_lt HW.out.blk; omega)).trans hS5
        have hn05 := (blk_cell hS6 0).trans (show _ = some _ from rfl)
        have hn15 := (blk_cell hS6 1).trans (show _ = some _ from rfl)
        have HW5 := Aside0.mk hW'
        clear hW' hfr
        go_wp2_with fail
        have hq0 : IntKind.i64.wrap (q.f0 + 1) = q.f0 + 1 := by rw [i64_w]; unfold wrap64; omega
        have hq1 : IntKind.i64.wrap (q.f1 + 1) = q.f1 + 1 := by rw [i64_w]; unfold wrap64; omega
        go_quiet (fail)
        clear hq0 hq1
        go_wp2_with fail
        go_roundw
        case rel => exact ⟨n + 1, _, _, v5, o3, hlt, rfl, rfl, by go_num, ⟨(HW5.out.drop).on (pw_below_drewN (Below.refl _ _) _)⟩, HBB⟩
        case measure => simp [intOf]; omega
      · obtain rfl : n = l2.length := by omega
        have hcut : decide ((l2.length : Int) < (l2.length : Int)) = false := decide_eq_false (by omega)
        have hb := HB.out
        rw [List.drop_of_length_le (Nat.le_refl _)] at hb
        unfold ofGo at hb
        split at hb
        case isFalse => cases hb
        rename_i hG
        obtain ⟨hi0, hi1, hk0, hk1⟩ := hG
        obtain ⟨o1, g1, g2⟩ := Option.bind_eq_some_iff.1 hb
        obtain ⟨i0, hinfo, _, hsz, _⟩ := info_parts info9
        obtain ⟨AA, cA, hcA, hCA, hlA⟩ := cut_l Kd.string 27 9 Try.underlying27 hinfo hsz A0 c0 l0 i hi0 hi1 HC0.out
        obtain ⟨AB, cB, hcB, hCB, hlB⟩ := cut_l Kd.string 27 9 Try.underlying27 hinfo hsz A1 c1 l1 kk hk0 hk1 HC1.out
        replace hCA := hCA _ HR0.out
        replace hCB := hCB _ HR1.out
        generalize l0.drop i.toNat = da at hcA hCA hlA g1
        generalize l1.drop kk.toNat = db at hcB hCB hlB g2
        have G1 := Aside0.mk (putO_some g1)
        have G2 := Aside0.mk (putO_some g2)
        have HCA := Aside0.mk hCA
        have HCB := Aside0.mk hCB
        have HLA := Aside0.mk hlA
        have HLB := Aside0.mk hlB
        clear hb HB g1 g2 hCA hCB hlA hlB hinfo hsz
        go_wp2_with fail
        refine (edit_writer_put.calls w2.heap.size _ v out 1 AA cA da w2 _ HW.out (Kd.C_below HCA.out (below_step HB2.out HW.out.below)) HLA.out G1.out.1 G1.out.2.1 G1.out.2.2.1).mono ?_
        rintro e w3 ⟨rfl, ⟨v3, hW'⟩, _⟩
        rw [G1.out.2.2.2] at hW'
        have HW3 := Aside0.mk hW'
        clear hW'
        go_wp2_with fail
        refine (edit_writer_put.calls w2.heap.size _ v3 o1 2 AB cB db w2 _ HW3.out (Kd.C_below HCB.out (below_step HB2.out HW3.out.below)) HLB.out G2.out.1 G2.out.2.1 G2.out.2.2.1).mono ?_
        rintro e w4 ⟨rfl, ⟨v4, hW'⟩, _⟩
        rw [G2.out.2.2.2] at hW'
        have HW4 := Aside0.mk hW'
        clear hW' HW HW3
        have hk0 := (blk_cell HW4.out.blk 0).trans (show _ = some v4 from rfl)
        obtain ⟨A4, n4, c4, rfl⟩ : ∃ A n c, v4 = Value.slice A n c := by obtain ⟨A, c, h⟩ := Kd.S_slice HW4.out.own; exact ⟨A, _, c, h⟩
        go_wp2_with fail
        go_ret2
        exact ⟨_, rfl, Kd.S_lower (Kd.S_mono HW4.out.own (fun _ _ => trivial)) HB2.out.size, below_step HB2.out HW4.out.below⟩
end Go.Proofs.Ytadafplbgophfaa.PA
end
section
/- Numbers that don't wrap. -/
namespace Go.Proofs.Ytadafplbgophfaa.PA
open Go.RowKit
namespace Jdg
theorem w64 {x : Int} (h0 : -9223372036854775808 ≤ x) (h1 : x ≤ 9223372036854775807) : wrap64 x = x := by unfold wrap64; omega
end Jdg
end Go.Proofs.Ytadafplbgophfaa.PA
end
section
/- Scripts as plain lists of steps: how texts come to one, its sides, its counts. -/
namespace Go.Proofs.Ytadafplbgophfaa.PA
set_option linter.unusedSimpArgs false
set_option linter.unusedVariables false
open Go.RowKit Go.Proofs.YtadafplbgophfaaW.PrintWords Go.Proofs.YtadafplbgophfaaW.PrintLast Go.Proofs.YtadafplbgophfaaW.PrintMore
open Jdg

/-- down from the end to the start -/
theorem Ev.down {P : Nat → Prop} (n : Nat) (hend : P n) (hstep : ∀ i, i < n → P (i + 1) → P i) : P 0 := by
  have : ∀ d i, n - i ≤ d → i ≤ n → P i := by
    intro d
    induction d with
    | zero => intro i h1 h2; obtain rfl : i = n := by omega
              exact hend
    | succ d ih =>
      intro i h1 h2
      by_cases h : i < n
      · exact hstep i h (ih (i + 1) (by omega) (by omega))
      · obtain rfl : i = n := by omega
        exact hend
  exact this n 0 (by omega) (by omega)
theorem next64 {i : Nat} (h : i ≤ 1000000000000000) : wrap64 ((i : Int) + 1) = ((i + 1 : Nat) : Int) := by rw [w64 (by omega) (by omega)]; omega
theorem str_eq {a b : ByteArray} : a.toList = b.toList ↔ a = b := by
  rw [ByteArray.toList_eq, ByteArray.toList_eq]
  constructor
  · intro h
    exact ByteArray.ext (Array.toList_inj.1 h)
  · intro h; rw [h]
theorem data_eq {a b : ByteArray} : a.data.toList = b.data.toList ↔ a = b := by rw [← ByteArray.toList_eq, ← ByteArray.toList_eq]; exact str_eq

def t143 (s : S143) : S144 := ⟨s.f0, s.f1⟩
def t144 (s : S144) : S143 := ⟨s.f0, s.f1⟩
theorem t144_t143 (s : S143) : t144 (t143 s) = s := rfl
theorem t143_t144 (s : S144) : t143 (t144 s) = s := rfl
theorem map_t143_t144 (l : List S144) : (l.map t144).map t143 = l := by rw [List.map_map]; simp [Function.comp_def, t143_t144]
theorem map_t144_t143 (l : List S143) : (l.map t143).map t144 = l := by rw [List.map_map]; simp [Function.comp_def, t144_t143]
theorem rdT144_nat (xs : List S144) {i : Nat} (h : i < xs.length) : rd_T144 xs (i : Int) = xs[i] := by simp [rd_T144, List.getD_eq_getElem?_getD, h]
theorem rdT143_nat' (xs : List S143) {i : Nat} (h : i < xs.length) : rd_T143 xs (i : Int) = xs[i] := by simp [rd_T143, List.getD_eq_getElem?_getD, h]
theorem rdT144_last (i : List S144) (x : S144) : rd_T144 (i ++ [x]) (i.length : Int) = x := by rw [rdT144_nat _ (by simp)]; simp
theorem rdT143_last (i : List S143) (x : S143) : rd_T143 (i ++ [x]) (i.length : Int) = x := by rw [rdT143_nat' _ (by simp)]; simp

/-- texts come to a script -/
def pt (l : List S144) (k : Int) (t : List ByteArray) : List S144 :=
  if t = [] then l else match l.reverse with
    | [] => [⟨k, t⟩]
    | x :: i => if x.f0 = k then i.reverse ++ [⟨k, x.f1 ++ t⟩] else i.reverse ++ [x] ++ [⟨k, t⟩]
theorem pt_none (l : List S144) (k : Int) : pt l k [] = l := by simp [pt]
theorem pt_nil {k : Int} {t : List ByteArray} (h : t ≠ []) : pt [] k t = [⟨k, t⟩] := by simp [pt, h]
theorem pt_same {i : List S144} {x : S144} {k : Int} {t : List ByteArray} (h : t ≠ []) (e : x.f0 = k) : pt (i ++ [x]) k t = i ++ [⟨k, x.f1 ++ t⟩] := by simp [pt, h, e]
theorem pt_other {i : List S144} {x : S144} {k : Int} {t : List ByteArray} (h : t ≠ []) (e : x.f0 ≠ k) : pt (i ++ [x]) k t = i ++ [x] ++ [⟨k, t⟩] := by simp [pt, h, e]
theorem snoc_cases {α : Type} (l : List α) : l = [] ∨ ∃ i x, l = i ++ [x] := by
  rcases List.eq_nil_or_concat l with h | ⟨i, x, h⟩
  · exact .inl h
  · exact .inr ⟨i, x, by rw [h, List.concat_eq_append]⟩
theorem pt_cases (l : List S144) (k : Int) (t : List ByteArray) : (t = [] ∧ pt l k t = l) ∨ (t ≠ [] ∧ l = [] ∧ pt l k t = [⟨k, t⟩]) ∨ (t ≠ [] ∧ ∃ i x, l = i ++ [x] ∧ x.f0 = k ∧ pt l k t = i ++ [⟨k, x.f1 ++ t⟩]) ∨ (t ≠ [] ∧ ∃ i x, l = i ++ [x] ∧ x.f0 ≠ k ∧ pt l k t = i ++ [x] ++ [⟨k, t⟩]) := by
  by_cases h : t = []
  · exact .inl ⟨h, by rw [h, pt_none]⟩
  · rcases snoc_cases l with rfl | ⟨i, x, rfl⟩
    · exact .inr (.inl ⟨h, rfl, pt_nil h⟩)
    · by_cases e : x.f0 = k
      · exact .inr (.inr (.inl ⟨h, i, x, rfl, e, pt_same h e⟩))
      · exact .inr (.inr (.inr ⟨h, i, x, rfl, e, pt_other h e⟩))

def tot (l : List S144) : Nat := (l.map fun s => s.f1.length).sum
def cnt (q : Int) (l : List S144) : Nat := (l.map fun s => if s.f0 = q then s.f1.length else 0).sum
def side (q : Int) (l : List S144) : List ByteArray := l.flatMap fun s => if s.f0 = 0 ∨ s.f0 = q then s.f1 else []
def Adj : List S144 → Prop
  | [] => True
  | [_] => True
  | x :: y :: l => x.f0 ≠ y.f0 ∧ Adj (y :: l)
def NE (l : List S144) : Prop := ∀ x ∈ l, x.f1 ≠ []
def Kinds (l : List S144) : Prop := ∀ x ∈ l, 0 ≤ x.f0 ∧ x.f0 ≤ 2
theorem tot_append (l m : List S144) : tot (l ++ m) = tot l + tot m := by simp [tot]
theorem cnt_append (q : Int) (l m : List S144) : cnt q (l ++ m) = cnt q l + cnt q m := by simp [cnt]
theorem side_append (q : Int) (l m : List S144) : side q (l ++ m) = side q l ++ side q m := by simp [side]
theorem tot_one (x : S144) : tot [x] = x.f1.length := by simp [tot]
theorem cnt_one (q : Int) (x : S144) : cnt q [x] = if x.f0 = q then x.f1.length else 0 := by simp [cnt]
theorem side_one (q : Int) (x : S144) : side q [x] = if x.f0 = 0 ∨ x.f0 = q then x.f1 else [] := by simp [side]
theorem adj_snoc : ∀ (i : List S144) (x y : S144), Adj (i ++ [x] ++ [y]) ↔ Adj (i ++ [x]) ∧ x.f0 ≠ y.f0
  | [], x, y => by simp [Adj]
  | [z], x, y => by simp [Adj]
  | z :: z2 :: i, x, y => by
    have := adj_snoc (z2 :: i) x y
    simp only [List.cons_append, Adj] at this ⊢
    rw [this, and_assoc]
theorem adj_last : ∀ (i : List S144) (x y : S144), x.f0 = y.f0 → Adj (i ++ [x]) → Adj (i ++ [y])
  | [], x, y, _, _ => by simp [Adj]
  | [z], x, y, e, h => by simp only [List.cons_append, List.nil_append, Adj] at h ⊢; exact ⟨e ▸ h.1, trivial⟩
  | z :: z2 :: i, x, y, e, h => by
    simp only [List.cons_append, Adj] at h ⊢
    exact ⟨h.1, adj_last (z2 :: i) x y e h.2⟩
theorem pt_tot (l : List S144) (k : Int) (t : List ByteArray) : tot (pt l k t) = tot l + t.length := by
  rcases pt_cases l k t with ⟨rfl, e⟩ | ⟨h, rfl, e⟩ | ⟨h, i, x, rfl, hk, e⟩ | ⟨h, i, x, rfl, hk, e⟩ <;> rw [e]
  · simp
  · simp [tot]
  · simp only [tot_append, tot_one, List.length_append]; omega
  · simp only [tot_append, tot_one]
theorem pt_cnt (q : Int) (l : List S144) (k : Int) (t : List ByteArray) : cnt q (pt l k t) = cnt q l + if k = q then t.length else 0 := by
  rcases pt_cases l k t with ⟨rfl, e⟩ | ⟨h, rfl, e⟩ | ⟨h, i, x, rfl, hk, e⟩ | ⟨h, i, x, rfl, hk, e⟩ <;> rw [e]
  · simp
  · simp [cnt]
  · simp only [cnt_append, cnt_one, hk]; split <;> simp <;> omega
  · simp only [cnt_append, cnt_one]
theorem pt_side (q : Int) (l : List S144) (k : Int) (t : List ByteArray) : side q (pt l k t) = side q l ++ if k = 0 ∨ k = q then t else [] := by
  rcases pt_cases l k t with ⟨rfl, e⟩ | ⟨h, rfl, e⟩ | ⟨h, i, x, rfl, hk, e⟩ | ⟨h, i, x, rfl, hk, e⟩ <;> rw [e]
  · simp
  · simp [side]
  · simp only [side_append, side_one, hk]; split <;> simp
  · simp only [side_append, side_one]
theorem pt_NE {l : List S144} (h : NE l) (k : Int) (t : List ByteArray) : NE (pt l k t) := by
  rcases pt_cases l k t with ⟨rfl, e⟩ | ⟨ht, rfl, e⟩ | ⟨ht, i, x, rfl, hk, e⟩ | ⟨ht, i, x, rfl, hk, e⟩ <;> rw [e]
  · exact h
  · intro y hy; simp at hy; subst hy; exact ht
  · intro y hy
    rcases List.mem_append.1 hy with hy | hy
    · exact h y (by simp [hy])
    · simp at hy; subst hy; simp [ht]
  · intro y hy
    rcases List.mem_append.1 hy with hy | hy
    · exact h y hy
    · simp at hy; subst hy; exact ht
theorem pt_Kinds {l : List S144} (h : Kinds l) {k : Int} (hk : 0 ≤ k ∧ k ≤ 2) (t : List ByteArray) : Kinds (pt l k t) := by
  rcases pt_cases l k t with ⟨rfl, e⟩ | ⟨ht, rfl, e⟩ | ⟨ht, i, x, rfl, hk', e⟩ | ⟨ht, i, x, rfl, hk', e⟩ <;> rw [e]
  · exact h
  · intro y hy; simp at hy; subst hy; exact hk
  · intro y hy
    rcases List.mem_append.1 hy with hy | hy
    · exact h y (by simp [hy])
    · simp at hy; subst hy; exact hk
  · intro y hy
    rcases List.mem_append.1 hy with hy | hy
    · exact h y hy
    · simp at hy; subst hy; exact hk
theorem pt_Adj {l : List S144} (h : Adj l) (k : Int) (t : List ByteArray) : Adj (pt l k t) := by
  rcases pt_cases l k t with ⟨rfl, e⟩ | ⟨ht, rfl, e⟩ | ⟨ht, i, x, rfl, hk', e⟩ | ⟨ht, i, x, rfl, hk', e⟩ <;> rw [e]
  · exact h
  · simp [Adj]
  · exact adj_last i x _ (by simp [hk']) h
  · exact (adj_snoc i x _).2 ⟨h, by simpa using hk'⟩
theorem len_tot {l : List S144} (h : NE l) : l.length ≤ tot l := by
  induction l with
  | nil => simp
  | cons x l ih =>
    have h1 := ih (fun y hy => h y (by simp [hy]))
    have h2 : 0 < x.f1.length := List.length_pos_iff.2 (h x (by simp))
    simp only [tot, List.map_cons, List.sum_cons, List.length_cons] at h1 ⊢
    omega
theorem el_tot {l : List S144} {x : S144} (h : x ∈ l) : x.f1.length ≤ tot l := by
  induction l with
  | nil => simp at h
  | cons y l ih =>
    simp only [tot, List.map_cons, List.sum_cons] at ih ⊢
    rcases List.mem_cons.1 h with rfl | h
    · omega
    · have := ih h; omega
theorem side_len (l : List S144) {q : Int} (hq : q ≠ 0) : (side q l).length = cnt 0 l + cnt q l := by
  induction l with
  | nil => simp [side, cnt]
  | cons x l ih =>
    have e1 : side q (x :: l) = side q [x] ++ side q l := side_append q [x] l
    have e2 : ∀ r, cnt r (x :: l) = cnt r [x] + cnt r l := fun r => cnt_append r [x] l
    rw [e1, e2, e2, List.length_append, ih, side_one, cnt_one, cnt_one]
    by_cases h0 : x.f0 = 0
    · rw [if_pos (.inl h0), if_pos h0, if_neg (by rw [h0]; exact fun e => hq e.symm)]; omega
    · by_cases h1 : x.f0 = q
      · rw [if_pos (.inr h1), if_neg h0, if_pos h1]; omega
      · rw [if_neg (by simp [h0, h1]), if_neg h0, if_neg h1]; simp
/-- the program's put -/
theorem putS_pt (l : List S144) (k : Int) (t : List ByteArray) : putS (l.map t144) k t = (pt l k t).map t144 := by
  rcases pt_cases l k t with ⟨rfl, e⟩ | ⟨h, rfl, e⟩ | ⟨h, i, x, rfl, hk, e⟩ | ⟨h, i, x, rfl, hk, e⟩ <;> rw [e] <;> unfold putS
  · rw [if_pos (by simp)]
  · rw [if_neg (by simp [h]), if_neg (by simp)]; rfl
  · rw [if_neg (by simp [h])]
    have hl : ((i ++ [x]).map t144).length - 1 = (i.map t144).length := by simp
    rw [hl, List.map_append, List.map_cons, List.map_nil, rdT143_last, if_pos ⟨by simp, hk⟩]
    simp [t144]
  · rw [if_neg (by simp [h])]
    have hl : ((i ++ [x]).map t144).length - 1 = (i.map t144).length := by simp
    rw [hl, List.map_append, List.map_cons, List.map_nil, rdT143_last, if_neg (by simp [t144, hk])]
    simp [t144]
theorem putO_pt {l : List S144} (h : NE l) (hb : tot l ≤ 1000000) {k : Int} {t : List ByteArray} (ht : t.length ≤ 1000000) : putO (l.map t144) k t = some ((pt l k t).map t144) := by
  unfold putO
  have h1 := len_tot h
  have h2 : ∀ s ∈ l.map t144, s.f1.length ≤ 1000000000 := fun s hs => by
    obtain ⟨x, hx, rfl⟩ := List.mem_map.1 hs
    have := el_tot hx
    show x.f1.length ≤ _
    omega
  rw [if_pos ⟨by rw [List.length_map]; omega, by omega, h2⟩, putS_pt]
theorem pt_pt (l : List S144) (k : Int) (t u : List ByteArray) : pt (pt l k t) k u = pt l k (t ++ u) := by
  by_cases hu : u = []
  · subst hu; rw [pt_none, List.append_nil]
  have hn : t ++ u ≠ [] := by simp [hu]
  rcases pt_cases l k t with ⟨rfl, e⟩ | ⟨h, rfl, e⟩ | ⟨h, i, x, rfl, hk, e⟩ | ⟨h, i, x, rfl, hk, e⟩ <;> rw [e]
  · rfl
  · rw [show [(⟨k, t⟩ : S144)] = [] ++ [⟨k, t⟩] from rfl, pt_same hu rfl, pt_nil hn]; rfl
  · rw [pt_same hu rfl, pt_same hn hk, List.append_assoc]
  · rw [pt_same hu rfl, pt_other hn hk]
end Go.Proofs.Ytadafplbgophfaa.PA
end
section
-- Written by a program of this seat out of the translation. Not trusted: Lean checks it.
namespace Go.Proofs.Ytadafplbgophfaa.PA
open Go.RowKit Go.Proofs.YtadafplbgophfaaW.PrintWords Go.Proofs.YtadafplbgophfaaW.PrintLast Go.Proofs.YtadafplbgophfaaW.PrintMore
attribute [local go_sem] max2_int min2_int max_two min_two max_three min_three max_four min_four   -- for this text's walks alone
set_option linter.unusedVariables false
set_option linter.unusedSimpArgs false

/-! ### tripartitelaw03_To: function 32 -/
def tripartitelaw03_To.l0 : Nat → List (S37) → List (S39) → Int → Option ((List (S39)))
  | 0, _, _, _ => none
  | k + 1, x0, x3, x4 => if x4 < (x0.length : Int) then (if 0 ≤ x4 then (if x3.length < 8796093022208 then (tripartitelaw03_To.l0 k x0 (x3 ++ [(⟨(rd_T37 x0 x4).f0, (rd_T37 x0 x4).f1⟩ : S39)]) (wrap64 (x4 + 1))) else (none)) else (none)) else (some x3)
def tripartitelaw03_To.f (k : Nat) (l0 : List (S37)) : Option ((List (S39))) := tripartitelaw03_To.l0 k l0 ([] : List (S39)) 0
theorem tripartitelaw03_To.mono_l : ∀ k, (∀ y0 y1 y2, LeO (tripartitelaw03_To.l0 k y0 y1 y2) (tripartitelaw03_To.l0 (k + 1) y0 y1 y2))
  | 0 => fun _ _ _ r h => by simp [tripartitelaw03_To.l0] at h
  | k + 1 => by
    have ih0 := tripartitelaw03_To.mono_l k
    · intro y0 y1 y2
      unfold tripartitelaw03_To.l0
      repeat' first
      | (with_reducible exact ih0 _ _ _)
      | (with_reducible exact LeO.refl _)
      | (with_reducible exact LeO.none _)
      | (with_reducible refine LeO.ite ?_ ?_)
      | (with_reducible refine LeO.bind ?_ (fun _ => ?_))
      | exact ih0 _ _ _
      | exact LeO.none _
      | refine LeO.ite ?_ ?_
      | refine LeO.bind ?_ (fun _ => ?_)
theorem tripartitelaw03_To.mono : ∀ a0 k, LeO (tripartitelaw03_To.f k a0) (tripartitelaw03_To.f (k + 1) a0) := by
  intro a0 k
  have ih0 := tripartitelaw03_To.mono_l k
  unfold tripartitelaw03_To.f
  repeat' first
      | (with_reducible exact ih0 _ _ _)
      | (with_reducible exact LeO.refl _)
      | (with_reducible exact LeO.none _)
      | (with_reducible refine LeO.ite ?_ ?_)
      | (with_reducible refine LeO.bind ?_ (fun _ => ?_))
      | exact ih0 _ _ _
      | exact LeO.none _
      | refine LeO.ite ?_ ?_
      | refine LeO.bind ?_ (fun _ => ?_)
def tripartitelaw03_To.T5 : Bool × List (List Nat × List Nat) := (true, [([], []), ([], []), ([], []), ([1, 2], [1, 2]), ([3], [3]), ([4], [4]), ([], []), ([], []), ([6, 7], [6, 7]), ([8], [8]), ([9], [9]), ([5, 10], [5, 10]), ([11], [11]), ([0, 12], [0, 12]), ([13, 13, 0, 1, 2, 3, 4, 5, 6, 7, 8, 9, 10, 11, 12, 13], [0, 13])])
def tripartitelaw03_To.B5 : List Nat := [0, 0, 0, 6, 14, 30, 0, 0, 192, 448, 960, 2046, 4094, 8191, 16383]
theorem tripartitelaw03_To.tab5 : rtab .any (opsOf Try.f32 5) = tripartitelaw03_To.T5 := by kernel_rfl
theorem tripartitelaw03_To.bits5 : waitsOk tripartitelaw03_To.T5.2 tripartitelaw03_To.B5 = true := by kernel_rfl
set_option maxHeartbeats 8000000 in
set_option maxRecDepth 100000 in
theorem tripartitelaw03_To.calls (k : Nat) (A0 : Option Addr) (c0 : Nat) (l0 : List (S37)) (r : List (S39)) (w : World) (hr0 : Kd.C k37 w A0 l0.length l0) (hc0 : l0.length ≤ c0) (h : tripartitelaw03_To.f k l0 = some r) :
    Calls Try.prog 32 #[.slice A0 l0.length c0] w fun e w' => ∃ v0_ : Value, e = .returned (v0_) ∧ Kd.R k39 39 w' w.heap.size (fun _ => True) v0_ r ∧ Below w.heap.size w w' := by
  have hu39 := Try.underlying39
  have HR0 := Aside0.mk hr0
  have HC0 := Aside0.mk hc0
  clear hr0 hc0
  have HB := Aside0.mk (Below.refl w.heap.size w)
  have H : (tripartitelaw03_To.l0 k l0 ([] : List (S39)) 0) = some r := h
  clear h
  have H' := Aside0.mk H
  clear H
  go_enter Try.func32, Try.ntmps32
  go_wp2
  go_loopg [3, 4] k (fun kq v3 v4 w' => ∃ (x3_1 : List (S39)) (x4_1 : Int), v4 = .int .i64 x4_1 ∧ Aside0 (tripartitelaw03_To.l0 kq l0 x3_1 x4_1 = some r) ∧ Aside0 (kq ≤ k) ∧ Aside0 (Kd.R k39 39 w' w.heap.size (fun _ => True) v3 x3_1) ∧ Aside0 (Below w.heap.size w w'))
  case atStart => exact ⟨(([] : List (S39))), (0), (by first | rfl | (simp; done) | (simp [*]; done)), H', ⟨Nat.le_refl _⟩, ⟨by first | exact Kd.R_nil _ _ _ _ _ | exact Kd.N_nil _ _ _ _ _ | exact Kd.V_nil _ _ _ _ _ | exact Kd.Q_nil _ _ _ _ _ | exact Kd.S_nil _ _ _ _ _⟩, ⟨by repeat (first | (with_reducible first | exact HB.out | apply below_alloc | apply pw_below_drewN | apply below_drew1) | exact HB.out)⟩⟩
  case round =>
    clear H'
    obtain ⟨x3_1, x4_1, rfl, HA, HK1, HO_3, HB⟩ := hrel
    cases gk with
    | zero => exact absurd HA.out (by simp [tripartitelaw03_To.l0])
    | succ k1 =>
      have H := HA.out
      clear HA
      simp only [tripartitelaw03_To.l0] at H
      by_cases c2 : x4_1 < (l0.length : Int)
      · rw [if_pos c2] at H
        have c2b0 : decide (x4_1 < (l0.length : Int)) = true := decide_eq_true c2
        clear c2
        by_cases c3 : 0 ≤ x4_1
        · rw [if_pos c3] at H
          have c3b0 : decide (0 ≤ x4_1) = true := decide_eq_true c3
          clear c3
          by_cases c4 : x3_1.length < 8796093022208
          · rw [if_pos c4] at H
            have LMc4 := Aside0.mk c4
            clear c4
            obtain ⟨y103, hy103⟩ : ∃ y_ : List (S39), y_ = (x3_1 ++ [(⟨(rd_T37 l0 x4_1).f0, (rd_T37 l0 x4_1).f1⟩ : S39)]) := ⟨_, rfl⟩
            replace H : (tripartitelaw03_To.l0 k1 l0 y103 (wrap64 (x4_1 + 1))) = some r := by first | (rw [hy103]; with_reducible exact H) | (have H2_ := (Option.bind_some _ _).symm.trans H; rw [hy103]; with_reducible exact H2_) | (have H2_ := (Option.bind_some _ _).symm.trans H; with_reducible exact H2_) | with_reducible exact H | (rw [hy103]; exact H) | exact H
            have Ny103 := Aside0.mk hy103
            clear hy103
            have H' := Aside0.mk H
            clear H
            try go_wp2
            have n0_ := Aside0.mk (Kd.R_drew HO_3.out)
            have n1_ := Aside0.mk (below_drew1 HB.out)
            clear HO_3
            clear HB
            have HO_3 := n0_
            have HB := n1_
            clear n0_ n1_
            have p101 : 0 ≤ (x4_1 : Int) := of_decide_eq_true (by first | (with_reducible assumption) | assumption)
            have q101 : x4_1 < (l0.length : Int) := of_decide_eq_true (by first | (with_reducible assumption) | assumption)
            obtain ⟨ad101, e101, hx101_0, hx101_1⟩ := at_T37 HR0.out x4_1 p101 q101
            have hw101_1 := hx101_1
            have hw101_0 := hx101_0
            cases e101
            replace hx101_0 := (HB.out.cell (World.block_lt_of_cell? w _ hx101_0)).trans hx101_0
            replace hx101_1 := (HB.out.cell (World.block_lt_of_cell? w _ hx101_1)).trans hx101_1
            replace p101 := eq_true p101
            replace q101 := eq_true q101
            have p102 : 0 ≤ (x4_1 : Int) := of_decide_eq_true (by first | (with_reducible assumption) | assumption)
            have q102 : x4_1 < (l0.length : Int) := of_decide_eq_true (by first | (with_reducible assumption) | assumption)
            obtain ⟨ad102, e102, hx102_0, hx102_1⟩ := at_T37 HR0.out x4_1 p102 q102
            have hw102_1 := hx102_1
            have hw102_0 := hx102_0
            obtain rfl : ad101 = ad102 := (by injection e102)
            replace hx102_0 := (HB.out.cell (World.block_lt_of_cell? w _ hx102_0)).trans hx102_0
            replace hx102_1 := (HB.out.cell (World.block_lt_of_cell? w _ hx102_1)).trans hx102_1
            replace p102 := eq_true p102
            replace q102 := eq_true q102
            refine start_ (n := 15) (S := fun w' => w'.cell? (ad101.add ((x4_1).toNat * 2)) = some (.int .i64 ((rd_T37 l0 x4_1).f0)) ∧ w'.cell? ⟨(ad101.add ((x4_1).toNat * 2)).block, (ad101.add ((x4_1).toNat * 2)).off + 1, none⟩ = some (.int .i64 ((rd_T37 l0 x4_1).f1)) ∧ w'.cell? (ad101.add ((x4_1).toNat * 2)) = some (.int .i64 ((rd_T37 l0 x4_1).f0)) ∧ w'.cell? ⟨(ad101.add ((x4_1).toNat * 2)).block, (ad101.add ((x4_1).toNat * 2)).off + 1, none⟩ = some (.int .i64 ((rd_T37 l0 x4_1).f1))) (ds := []) #[false, false, false, false, false, false, false, false, false, false, false, false, false, false, false] (by kernel_rfl) rfl rfl ⟨((HB.out.cell (World.block_lt_of_cell? w _ hw101_0)).trans hw101_0), ((HB.out.cell (World.block_lt_of_cell? w _ hw101_1)).trans hw101_1), ((HB.out.cell (World.block_lt_of_cell? w _ hw102_0)).trans hw102_0), ((HB.out.cell (World.block_lt_of_cell? w _ hw102_1)).trans hw102_1)⟩ (fun hHeld => ?_); refine with_tabW tripartitelaw03_To.tab5 tripartitelaw03_To.bits5 (fun HT_ HW_ => ?_)
            generalize wr.drew = w5 at HO_3 HB hx101_0 hx101_1 hx102_0 hx102_1 hHeld ⊢
            refine pure_ (i := 0) (N := some 11) (v := ?_) (a' := ?_) #[true, false, false, false, false, false, false, false, false, false, false, false, false, false, false] rfl rfl (any_of HT_.out (by kernel_rfl)) (fun _ _ _ h => h) (Or.inl ⟨by rfl, ?_⟩) ?_ ?_
            rotate_left
            · intro w'
              go_simp
              with_reducible rfl
            rotate_left
            · simp only [Act.put, List.setIfInBounds_toArray, List.set_cons_zero, List.set_cons_succ, i64_w, i32_w]
              rfl
            refine pure_ (i := 1) (N := some 12) (v := ?_) (a' := ?_) #[true, true, false, false, false, false, false, false, false, false, false, false, false, false, false] rfl rfl (any_of HT_.out (by kernel_rfl)) (fun _ _ _ h => h) (Or.inl ⟨by rfl, ?_⟩) ?_ ?_
            rotate_left
            · intro w'
              go_simp
              with_reducible rfl
            rotate_left
            · simp only [Act.put, List.setIfInBounds_toArray, List.set_cons_zero, List.set_cons_succ, i64_w, i32_w]
              rfl
            refine pure_ (i := 2) (N := some 13) (v := ?_) (a' := ?_) #[true, true, true, false, false, false, false, false, false, false, false, false, false, false, false] rfl rfl (any_of HT_.out (by kernel_rfl)) (fun _ _ _ h => h) (Or.inl ⟨by rfl, ?_⟩) ?_ ?_
            rotate_left
            · intro w'
              go_simp
              with_reducible rfl
            rotate_left
            · simp only [Act.put, List.setIfInBounds_toArray, List.set_cons_zero, List.set_cons_succ, i64_w, i32_w]
              rfl
            refine pure_ (i := 3) (N := some 14) (v := ?_) (a' := ?_) #[true, true, true, true, false, false, false, false, false, false, false, false, false, false, false] rfl rfl (any_of HT_.out (by kernel_rfl)) (fun _ _ _ h => h) (Or.inl ⟨by rfl, ?_⟩) ?_ ?_
            rotate_left
            · intro w'
              go_simp
              with_reducible rfl
            rotate_left
            · simp only [Act.put, List.setIfInBounds_toArray, List.set_cons_zero, List.set_cons_succ, i64_w, i32_w]
              rfl
            refine pure_ (i := 4) (N := some 15) (v := ?_) (a' := ?_) #[true, true, true, true, true, false, false, false, false, false, false, false, false, false, false] rfl rfl (any_of HT_.out (by kernel_rfl)) (fun _ _ _ h => h) (Or.inl ⟨by rfl, ?_⟩) ?_ ?_
            rotate_left
            · intro w'
              go_simp
              with_reducible rfl
            rotate_left
            · simp only [Act.put, List.setIfInBounds_toArray, List.set_cons_zero, List.set_cons_succ, i64_w, i32_w]
              rfl
            refine pure_ (i := 6) (N := some 17) (v := ?_) (a' := ?_) #[true, true, true, true, true, false, true, false, false, false, false, false, false, false, false] rfl rfl (any_of HT_.out (by kernel_rfl)) (fun _ _ _ h => h) (Or.inl ⟨by rfl, ?_⟩) ?_ ?_
            rotate_left
            · intro w'
              go_simp
              with_reducible rfl
            rotate_left
            · simp only [Act.put, List.setIfInBounds_toArray, List.set_cons_zero, List.set_cons_succ, i64_w, i32_w]
              rfl
            refine pure_ (i := 7) (N := some 18) (v := ?_) (a' := ?_) #[true, true, true, true, true, false, true, true, false, false, false, false, false, false, false] rfl rfl (any_of HT_.out (by kernel_rfl)) (fun _ _ _ h => h) (Or.inl ⟨by rfl, ?_⟩) ?_ ?_
            rotate_left
            · intro w'
              go_simp
              with_reducible rfl
            rotate_left
            · simp only [Act.put, List.setIfInBounds_toArray, List.set_cons_zero, List.set_cons_succ, i64_w, i32_w]
              rfl
            refine pure_ (i := 8) (N := some 19) (v := ?_) (a' := ?_) #[true, true, true, true, true, false, true, true, true, false, false, false, false, false, false] rfl rfl (any_of HT_.out (by kernel_rfl)) (fun _ _ _ h => h) (Or.inl ⟨by rfl, ?_⟩) ?_ ?_
            rotate_left
            · intro w'
              go_simp
              with_reducible rfl
            rotate_left
            · simp only [Act.put, List.setIfInBounds_toArray, List.set_cons_zero, List.set_cons_succ, i64_w, i32_w]
              rfl
            refine pure_ (i := 9) (N := some 20) (v := ?_) (a' := ?_) #[true, true, true, true, true, false, true, true, true, true, false, false, false, false, false] rfl rfl (any_of HT_.out (by kernel_rfl)) (fun _ _ _ h => h) (Or.inl ⟨by rfl, ?_⟩) ?_ ?_
            rotate_left
            · intro w'
              go_simp
              with_reducible rfl
            rotate_left
            · simp only [Act.put, List.setIfInBounds_toArray, List.set_cons_zero, List.set_cons_succ, i64_w, i32_w]
              rfl
            refine take_ (i := 5) (N := some 16) (v := ?_) (a' := ?_) #[true, true, true, true, true, true, true, true, true, true, false, false, false, false, false] rfl rfl (take_ofW HT_.out HW_.out (by kernel_rfl)) (fun _ _ _ h => h) (Or.inl ⟨by rfl, ?_⟩) hHeld ?_ ?_
            rotate_left
            · rintro w' ⟨s0, s1, s2, s3⟩
              go_simp
              with_reducible rfl
            rotate_left
            · simp only [Act.put, List.setIfInBounds_toArray, List.set_cons_zero, List.set_cons_succ, i64_w, i32_w]
              rfl
            refine take_ (i := 10) (N := some 21) (v := ?_) (a' := ?_) #[true, true, true, true, true, true, true, true, true, true, true, false, false, false, false] rfl rfl (take_ofW HT_.out HW_.out (by kernel_rfl)) (fun _ _ _ h => h) (Or.inl ⟨by rfl, ?_⟩) hHeld ?_ ?_
            rotate_left
            · rintro w' ⟨s0, s1, s2, s3⟩
              go_simp
              with_reducible rfl
            rotate_left
            · simp only [Act.put, List.setIfInBounds_toArray, List.set_cons_zero, List.set_cons_succ, i64_w, i32_w]
              rfl
            refine pure_ (i := 11) (N := some 22) (v := ?_) (a' := ?_) #[true, true, true, true, true, true, true, true, true, true, true, true, false, false, false] rfl rfl (any_of HT_.out (by kernel_rfl)) (fun _ _ _ h => h) (Or.inl ⟨by rfl, ?_⟩) ?_ ?_
            rotate_left
            · intro w'
              go_simp
              with_reducible rfl
            rotate_left
            · simp only [Act.put, List.setIfInBounds_toArray, List.set_cons_zero, List.set_cons_succ, i64_w, i32_w]
              rfl
            refine one_ (i := 12) (N := some 23) #[true, true, true, true, true, true, true, true, true, true, true, true, true, false, false] rfl rfl (one_of HT_.out (by kernel_rfl)) (by decide) (fun K hK => ?_)
            refine value_ (w1 := ?_) (v := ?_) (by rfl) rfl ?_ ?_
            rotate_left 2
            · go_simp
              constructor
              · rfl
              · rfl
            refine hK.out _ _ ⟨(World.cell?_alloc_lt _ _ _ (World.block_lt_of_cell? _ _ (((HB.out.cell (World.block_lt_of_cell? w _ hw101_0)).trans hw101_0)))).trans (((HB.out.cell (World.block_lt_of_cell? w _ hw101_0)).trans hw101_0)), (World.cell?_alloc_lt _ _ _ (World.block_lt_of_cell? _ _ (((HB.out.cell (World.block_lt_of_cell? w _ hw101_1)).trans hw101_1)))).trans (((HB.out.cell (World.block_lt_of_cell? w _ hw101_1)).trans hw101_1)), (World.cell?_alloc_lt _ _ _ (World.block_lt_of_cell? _ _ (((HB.out.cell (World.block_lt_of_cell? w _ hw102_0)).trans hw102_0)))).trans (((HB.out.cell (World.block_lt_of_cell? w _ hw102_0)).trans hw102_0)), (World.cell?_alloc_lt _ _ _ (World.block_lt_of_cell? _ _ (((HB.out.cell (World.block_lt_of_cell? w _ hw102_1)).trans hw102_1)))).trans (((HB.out.cell (World.block_lt_of_cell? w _ hw102_1)).trans hw102_1))⟩ (fun hHeld => ?_)
            clear hK K
            refine norm_ (a' := ?_) ?_ ?_
            rotate_left
            · show Act.put _ (some 23) _ = _
              simp only [Act.put, List.setIfInBounds_toArray, List.set_cons_zero, List.set_cons_succ, i64_w, i32_w]
              rfl
            refine one_ (i := 13) (N := some 24) #[true, true, true, true, true, true, true, true, true, true, true, true, true, true, false] rfl rfl (one_of HT_.out (by kernel_rfl)) (by decide) (fun K hK => ?_)
            refine Kd.R_append_step k39 (w0 := w) w.heap.size (by rfl) (.tmp 11) (.tmp 23) 32 39 (.agg #[(.int .i64 0), (.int .i64 0)]) 16 rfl Try.underlying32 info39 rfl (by decide) (by omega) u3 x3_1 (⟨(rd_T37 l0 x4_1).f0, (rd_T37 l0 x4_1).f1⟩ : S39) [.int .i64 ((rd_T37 l0 x4_1).f0), .int .i64 ((rd_T37 l0 x4_1).f1)] (fun _ => True) (fun _ => False) rfl rfl ?aP (fun _ hk => hk.elim) ?aF ?aO ?aB ?aS ?aL ?_
            (case aP => exact k39_mkM _ _ _ (⟨(rd_T37 l0 x4_1).f0, (rd_T37 l0 x4_1).f1⟩ : S39))
            (case aB => exact (by repeat (first | (with_reducible first | exact HB.out | apply below_alloc | apply pw_below_drewN | apply below_drew1) | exact HB.out)))
            (case aF => exact (fun _ _ => trivial))
            (case aO => exact (by (with_reducible repeat (first | apply Kd.R_alloc | apply Kd.R_drewN | apply Kd.R_drew)); exact HO_3.out))
            (case aS => exact (below_size (by repeat (first | (with_reducible first | exact HB.out | apply below_alloc | apply pw_below_drewN | apply below_drew1) | exact HB.out))))
            (case aL => have := LMc4.out; omega)
            intro v104 w6 ho hb hg hat
            rw [← Ny103.out] at ho
            have n0_ := Aside0.mk (hb)
            have n1_ := Aside0.mk (ho)
            clear HB
            clear HO_3
            have HB := n0_
            have HO105 := n1_
            clear n0_ n1_
            clear ho hb hg hat
            refine hK.out _ _ ⟨((HB.out.cell (World.block_lt_of_cell? w _ hw101_0)).trans hw101_0), ((HB.out.cell (World.block_lt_of_cell? w _ hw101_1)).trans hw101_1), ((HB.out.cell (World.block_lt_of_cell? w _ hw102_0)).trans hw102_0), ((HB.out.cell (World.block_lt_of_cell? w _ hw102_1)).trans hw102_1)⟩ (fun hHeld => ?_)
            clear hK K
            refine norm_ (a' := ?_) ?_ ?_
            rotate_left
            · show Act.put _ (some 24) _ = _
              simp only [Act.put, List.setIfInBounds_toArray, List.set_cons_zero, List.set_cons_succ, i64_w, i32_w]
              rfl
            refine pure_ (i := 14) (N := some 3) (v := ?_) (a' := ?_) #[true, true, true, true, true, true, true, true, true, true, true, true, true, true, true] rfl rfl (any_of HT_.out (by kernel_rfl)) (fun _ _ _ h => h) (Or.inl ⟨by rfl, ?_⟩) ?_ ?_
            rotate_left
            · intro w'
              go_simp
              with_reducible rfl
            rotate_left
            · simp only [Act.put, List.setIfInBounds_toArray, List.set_cons_zero, List.set_cons_succ, i64_w, i32_w]
              rfl
            refine done_ (done_of HT_.out (by kernel_rfl)) ?_
            try go_wp2
            go_roundg k1
            case measure => have := HK1.out; omega
            case rel => exact ⟨(y103), (wrap64 (x4_1 + 1)), (by first | rfl | (simp; done) | (simp [*]; done)), H', ⟨by have := HK1.out; omega⟩, ⟨by (with_reducible repeat (first | apply Kd.R_alloc | apply Kd.R_drewN | apply Kd.R_drew)); exact HO105.out⟩, ⟨by repeat (first | (with_reducible first | exact HB.out | apply below_alloc | apply pw_below_drewN | apply below_drew1) | exact HB.out)⟩⟩
          · rw [if_neg c4] at H
            exact absurd H (by simp)
        · rw [if_neg c3] at H
          exact absurd H (by simp)
      · rw [if_neg c2] at H
        have c2b0 : decide (x4_1 < (l0.length : Int)) = false := decide_eq_false c2
        clear c2
        obtain rfl := Option.some.inj H
        go_wp2
        go_ret
        exact ⟨_, by first | rfl | (simp [errW_none, errW_some] <;> rfl) | (simp [*, errW_none, errW_some] <;> rfl), by (with_reducible repeat (first | apply Kd.R_alloc | apply Kd.R_drewN | apply Kd.R_drew)); exact HO_3.out, by repeat (first | (with_reducible first | exact HB.out | apply below_alloc | apply pw_below_drewN | apply below_drew1) | exact HB.out)⟩

end Go.Proofs.Ytadafplbgophfaa.PA
end
section
-- Written by a program of this seat out of the translation. Not trusted: Lean checks it.
namespace Go.Proofs.Ytadafplbgophfaa.PA
open Go.RowKit Go.Proofs.YtadafplbgophfaaW.PrintWords Go.Proofs.YtadafplbgophfaaW.PrintLast Go.Proofs.YtadafplbgophfaaW.PrintMore
attribute [local go_sem] max2_int min2_int max_two min_two max_three min_three max_four min_four   -- for this text's walks alone
set_option linter.unusedVariables false
set_option linter.unusedSimpArgs false

/-! ### slices_Equal_string_string: function 83 -/
def slices_Equal_string_string.l0 : Nat → List ByteArray → List ByteArray → Int → Int → Option (Bool)
  | 0, _, _, _, _ => none
  | k + 1, x0, x1, x12, x13 => if x13 < x12 then (if 0 ≤ x13 then (if x13 < (x0.length : Int) then (if x13 < (x1.length : Int) then (if (rdOf ByteArray.empty x0 x13).toList = (rdOf ByteArray.empty x1 x13).toList then (slices_Equal_string_string.l0 k x0 x1 x12 (wrap64 (x13 + 1))) else (some false)) else (none)) else (none)) else (none)) else (some true)
def slices_Equal_string_string.f (k : Nat) (l0 : List ByteArray) (l1 : List ByteArray) : Option (Bool) := if (l0.length : Int) = (l1.length : Int) then (slices_Equal_string_string.l0 k l0 l1 (l0.length : Int) 0) else (some false)
theorem slices_Equal_string_string.mono_l : ∀ k, (∀ y0 y1 y2 y3, LeO (slices_Equal_string_string.l0 k y0 y1 y2 y3) (slices_Equal_string_string.l0 (k + 1) y0 y1 y2 y3))
  | 0 => fun _ _ _ _ r h => by simp [slices_Equal_string_string.l0] at h
  | k + 1 => by
    have ih0 := slices_Equal_string_string.mono_l k
    · intro y0 y1 y2 y3
      unfold slices_Equal_string_string.l0
      repeat' first
      | (with_reducible exact ih0 _ _ _ _)
      | (with_reducible exact LeO.refl _)
      | (with_reducible exact LeO.none _)
      | (with_reducible refine LeO.ite ?_ ?_)
      | (with_reducible refine LeO.bind ?_ (fun _ => ?_))
      | exact ih0 _ _ _ _
      | exact LeO.none _
      | refine LeO.ite ?_ ?_
      | refine LeO.bind ?_ (fun _ => ?_)
theorem slices_Equal_string_string.mono : ∀ a0 a1 k, LeO (slices_Equal_string_string.f k a0 a1) (slices_Equal_string_string.f (k + 1) a0 a1) := by
  intro a0 a1 k
  have ih0 := slices_Equal_string_string.mono_l k
  unfold slices_Equal_string_string.f
  repeat' first
      | (with_reducible exact ih0 _ _ _ _)
      | (with_reducible exact LeO.refl _)
      | (with_reducible exact LeO.none _)
      | (with_reducible refine LeO.ite ?_ ?_)
      | (with_reducible refine LeO.bind ?_ (fun _ => ?_))
      | exact ih0 _ _ _ _
      | exact LeO.none _
      | refine LeO.ite ?_ ?_
      | refine LeO.bind ?_ (fun _ => ?_)
set_option maxHeartbeats 8000000 in
set_option maxRecDepth 100000 in
theorem slices_Equal_string_string.calls (k : Nat) (A0 : Option Addr) (c0 : Nat) (l0 : List ByteArray) (A1 : Option Addr) (c1 : Nat) (l1 : List ByteArray) (r : Bool) (w : World) (hr0 : Kd.C Kd.string w A0 l0.length l0) (hc0 : l0.length ≤ c0) (hr1 : Kd.C Kd.string w A1 l1.length l1) (hc1 : l1.length ≤ c1) (h : slices_Equal_string_string.f k l0 l1 = some r) :
    Calls Try.prog 83 #[.slice A0 l0.length c0, .slice A1 l1.length c1] w fun e w' => e = .returned (.bool r) ∧ Drawn0 w w' := by
  have HR0 := Aside0.mk hr0
  have HC0 := Aside0.mk hc0
  clear hr0 hc0
  have HR1 := Aside0.mk hr1
  have HC1 := Aside0.mk hc1
  clear hr1 hc1
  have H : (if (l0.length : Int) = (l1.length : Int) then (slices_Equal_string_string.l0 k l0 l1 (l0.length : Int) 0) else (some false)) = some r := h
  clear h
  by_cases c3 : (l0.length : Int) = (l1.length : Int)
  · rw [if_pos c3] at H
    have c3b0 : ((l0.length : Int) == (l1.length : Int)) = true := beq_iff_eq.mpr c3
    have c3b1 : ((l0.length : Int) != (l1.length : Int)) = false := bne_eq_false_iff_eq.mpr c3
    have c3b2 : (l0.length == l1.length) = true := by first | simpa using c3 | (simp at c3 ⊢; omega)
    clear c3
    have H' := Aside0.mk H
    clear H
    go_enter Try.func83, Try.ntmps83
    go_wp2
    repeat (go_quiet (fail); try go_wp2)
    go_loopg [13] k (fun kq v13 w' => ∃ (x13_1 : Int), v13 = .int .i64 x13_1 ∧ Aside0 (slices_Equal_string_string.l0 kq l0 l1 (l0.length : Int) x13_1 = some r) ∧ Aside0 (kq ≤ k) ∧ Drawn0 w w')
    case atStart => exact ⟨(0), (by first | rfl | (simp; done) | (simp [*]; done)), H', ⟨Nat.le_refl _⟩, by repeat (first | exact Drawn0.refl _ | apply Drawn0.step)⟩
    case round =>
      clear H'
      try clear c1
      try clear p2
      try clear c3
      try clear c3b0
      try clear c3b1
      try clear c3b2
      obtain ⟨x13_1, rfl, HA, HK1, ⟨m1, rfl⟩⟩ := hrel
      cases gk with
      | zero => exact absurd HA.out (by simp [slices_Equal_string_string.l0])
      | succ k1 =>
        have H := HA.out
        clear HA
        simp only [slices_Equal_string_string.l0] at H
        by_cases c4 : x13_1 < (l0.length : Int)
        · rw [if_pos c4] at H
          have c4b0 : decide (x13_1 < (l0.length : Int)) = true := decide_eq_true c4
          clear c4
          by_cases c5 : 0 ≤ x13_1
          · rw [if_pos c5] at H
            have c5b0 : decide (0 ≤ x13_1) = true := decide_eq_true c5
            clear c5
            by_cases c6 : x13_1 < (l0.length : Int)
            · rw [if_pos c6] at H
              have c6b0 : decide (x13_1 < (l0.length : Int)) = true := decide_eq_true c6
              clear c6
              by_cases c7 : x13_1 < (l1.length : Int)
              · rw [if_pos c7] at H
                have c7b0 : decide (x13_1 < (l1.length : Int)) = true := decide_eq_true c7
                clear c7
                by_cases c8 : (rdOf ByteArray.empty l0 x13_1).toList = (rdOf ByteArray.empty l1 x13_1).toList
                · rw [if_pos c8] at H
                  have c8b0 : ((rdOf ByteArray.empty l0 x13_1).toList == (rdOf ByteArray.empty l1 x13_1).toList) = true := beq_iff_eq.mpr c8
                  have c8b1 : ((rdOf ByteArray.empty l0 x13_1).toList != (rdOf ByteArray.empty l1 x13_1).toList) = false := bne_eq_false_iff_eq.mpr c8
                  clear c8
                  have H' := Aside0.mk H
                  clear H
                  have p101 : 0 ≤ (x13_1 : Int) := of_decide_eq_true (by first | (with_reducible assumption) | assumption)
                  have q101 : x13_1 < (l0.length : Int) := of_decide_eq_true (by first | (with_reducible assumption) | assumption)
                  obtain ⟨ad101, e101, hx101_0⟩ := Kd.at_string HR0.out x13_1 p101 q101
                  cases e101
                  replace p101 := eq_true p101
                  replace q101 := eq_true q101
                  have p102 : 0 ≤ (x13_1 : Int) := of_decide_eq_true (by first | (with_reducible assumption) | assumption)
                  have q102 : x13_1 < (l1.length : Int) := of_decide_eq_true (by first | (with_reducible assumption) | assumption)
                  obtain ⟨ad102, e102, hx102_0⟩ := Kd.at_string HR1.out x13_1 p102 q102
                  cases e102
                  replace p102 := eq_true p102
                  replace q102 := eq_true q102
                  go_wp2
                  repeat (go_quiet (fail); try go_wp2)
                  go_roundg k1
                  case measure => have := HK1.out; omega
                  case rel => exact ⟨(wrap64 (x13_1 + 1)), (by first | rfl | (simp; done) | (simp [*]; done)), H', ⟨by have := HK1.out; omega⟩, by repeat (first | exact Drawn0.refl _ | apply Drawn0.step)⟩
                · rw [if_neg c8] at H
                  have c8b0 : ((rdOf ByteArray.empty l0 x13_1).toList == (rdOf ByteArray.empty l1 x13_1).toList) = false := beq_eq_false_iff_ne.mpr c8
                  have c8b1 : ((rdOf ByteArray.empty l0 x13_1).toList != (rdOf ByteArray.empty l1 x13_1).toList) = true := bne_iff_ne.mpr c8
                  obtain rfl := Option.some.inj H
                  have p101 : 0 ≤ (x13_1 : Int) := of_decide_eq_true (by first | (with_reducible assumption) | assumption)
                  have q101 : x13_1 < (l0.length : Int) := of_decide_eq_true (by first | (with_reducible assumption) | assumption)
                  obtain ⟨ad101, e101, hx101_0⟩ := Kd.at_string HR0.out x13_1 p101 q101
                  cases e101
                  replace p101 := eq_true p101
                  replace q101 := eq_true q101
                  have p102 : 0 ≤ (x13_1 : Int) := of_decide_eq_true (by first | (with_reducible assumption) | assumption)
                  have q102 : x13_1 < (l1.length : Int) := of_decide_eq_true (by first | (with_reducible assumption) | assumption)
                  obtain ⟨ad102, e102, hx102_0⟩ := Kd.at_string HR1.out x13_1 p102 q102
                  cases e102
                  replace p102 := eq_true p102
                  replace q102 := eq_true q102
                  go_wp2
                  repeat (go_quiet (fail); try go_wp2)
                  go_ret
                  exact ⟨by first | rfl | (simp; done) | (simp [*]; done), by repeat (first | exact Drawn0.refl _ | apply Drawn0.step)⟩
              · rw [if_neg c7] at H
                exact absurd H (by simp)
            · rw [if_neg c6] at H
              exact absurd H (by simp)
          · rw [if_neg c5] at H
            exact absurd H (by simp)
        · rw [if_neg c4] at H
          have c4b0 : decide (x13_1 < (l0.length : Int)) = false := decide_eq_false c4
          clear c4
          obtain rfl := Option.some.inj H
          go_wp2
          repeat (go_quiet (fail); try go_wp2)
          go_ret
          exact ⟨by first | rfl | (simp; done) | (simp [*]; done), by repeat (first | exact Drawn0.refl _ | apply Drawn0.step)⟩
  · rw [if_neg c3] at H
    have c3b0 : ((l0.length : Int) == (l1.length : Int)) = false := beq_eq_false_iff_ne.mpr c3
    have c3b1 : ((l0.length : Int) != (l1.length : Int)) = true := bne_iff_ne.mpr c3
    have c3b2 : (l0.length == l1.length) = false := by first | simpa using c3 | (simp at c3 ⊢; omega)
    obtain rfl := Option.some.inj H
    go_enter Try.func83, Try.ntmps83
    go_wp2
    repeat (go_quiet (fail); try go_wp2)
    go_ret
    exact ⟨by first | rfl | (simp; done) | (simp [*]; done), by repeat (first | exact Drawn0.refl _ | apply Drawn0.step)⟩

end Go.Proofs.Ytadafplbgophfaa.PA
end
section
-- Written by a program of this seat out of the translation. Not trusted: Lean checks it.
namespace Go.Proofs.Ytadafplbgophfaa.PA
open Go.RowKit Go.Proofs.YtadafplbgophfaaW.PrintWords Go.Proofs.YtadafplbgophfaaW.PrintLast Go.Proofs.YtadafplbgophfaaW.PrintMore
attribute [local go_sem] max2_int min2_int max_two min_two max_three min_three max_four min_four   -- for this text's walks alone
set_option linter.unusedVariables false
set_option linter.unusedSimpArgs false

/-! ### edit_side: function 90 -/
def edit_side.l0 : Nat → Int → List ByteArray → List (S143) → Int → Int → Option (List ByteArray)
  | 0, _, _, _, _, _ => none
  | k + 1, x1, x5, x8, x9, x10 => if x10 < x9 then (if 0 ≤ x10 then (if x10 < (x8.length : Int) then (if ((rd_T143 x8 x10).f0) = 0 then (if x5.length + ((rd_T143 x8 x10).f1).length < 8796093022208 then (edit_side.l0 k x1 (x5 ++ ((rd_T143 x8 x10).f1)) x8 x9 (wrap64 (x10 + 1))) else (none)) else (if ((rd_T143 x8 x10).f0) = x1 then (if x5.length + ((rd_T143 x8 x10).f1).length < 8796093022208 then (edit_side.l0 k x1 (x5 ++ ((rd_T143 x8 x10).f1)) x8 x9 (wrap64 (x10 + 1))) else (none)) else (edit_side.l0 k x1 x5 x8 x9 (wrap64 (x10 + 1))))) else (none)) else (none)) else (some x5)
def edit_side.f (k : Nat) (l0 : List (S143)) (a1 : Int) : Option (List ByteArray) := edit_side.l0 k a1 ([] : List ByteArray) l0 (l0.length : Int) 0
theorem edit_side.mono_l : ∀ k, (∀ y0 y1 y2 y3 y4, LeO (edit_side.l0 k y0 y1 y2 y3 y4) (edit_side.l0 (k + 1) y0 y1 y2 y3 y4))
  | 0 => fun _ _ _ _ _ r h => by simp [edit_side.l0] at h
  | k + 1 => by
    have ih0 := edit_side.mono_l k
    · intro y0 y1 y2 y3 y4
      unfold edit_side.l0
      repeat' first
      | (with_reducible exact ih0 _ _ _ _ _)
      | (with_reducible exact LeO.refl _)
      | (with_reducible exact LeO.none _)
      | (with_reducible refine LeO.ite ?_ ?_)
      | (with_reducible refine LeO.bind ?_ (fun _ => ?_))
      | exact ih0 _ _ _ _ _
      | exact LeO.none _
      | refine LeO.ite ?_ ?_
      | refine LeO.bind ?_ (fun _ => ?_)
theorem edit_side.mono : ∀ a0 a1 k, LeO (edit_side.f k a0 a1) (edit_side.f (k + 1) a0 a1) := by
  intro a0 a1 k
  have ih0 := edit_side.mono_l k
  unfold edit_side.f
  repeat' first
      | (with_reducible exact ih0 _ _ _ _ _)
      | (with_reducible exact LeO.refl _)
      | (with_reducible exact LeO.none _)
      | (with_reducible refine LeO.ite ?_ ?_)
      | (with_reducible refine LeO.bind ?_ (fun _ => ?_))
      | exact ih0 _ _ _ _ _
      | exact LeO.none _
      | refine LeO.ite ?_ ?_
      | refine LeO.bind ?_ (fun _ => ?_)
set_option maxHeartbeats 8000000 in
set_option maxRecDepth 100000 in
theorem edit_side.calls (k : Nat) (A0 : Option Addr) (c0 : Nat) (l0 : List (S143)) (a1 : Int) (r : List ByteArray) (w : World) (hr0 : Kd.C k143 w A0 l0.length l0) (hc0 : l0.length ≤ c0) (h : edit_side.f k l0 a1 = some r) :
    Calls Try.prog 90 #[.slice A0 l0.length c0, .int .i64 a1] w fun e w' => ∃ v0_ : Value, e = .returned (v0_) ∧ Kd.R Kd.string 9 w' w.heap.size (fun _ => True) v0_ r ∧ Below w.heap.size w w' := by
  have hu143 := Try.underlying143
  have HR0 := Aside0.mk hr0
  have HC0 := Aside0.mk hc0
  clear hr0 hc0
  have HB := Aside0.mk (Below.refl w.heap.size w)
  have H : (edit_side.l0 k a1 ([] : List ByteArray) l0 (l0.length : Int) 0) = some r := h
  clear h
  have H' := Aside0.mk H
  clear H
  go_enter Try.func90, Try.ntmps90
  go_wp2
  go_loopg [5, 10] k (fun kq v5 v10 w' => ∃ (x5_1 : List ByteArray) (x10_1 : Int), v10 = .int .i64 x10_1 ∧ Aside0 (edit_side.l0 kq a1 x5_1 l0 (l0.length : Int) x10_1 = some r) ∧ Aside0 (kq ≤ k) ∧ Aside0 (Kd.R Kd.string 9 w' w.heap.size (fun _ => True) v5 x5_1) ∧ Aside0 (Below w.heap.size w w'))
  case atStart => exact ⟨(([] : List ByteArray)), (0), (by first | rfl | (simp; done) | (simp [*]; done)), H', ⟨Nat.le_refl _⟩, ⟨by first | exact Kd.R_nil _ _ _ _ _ | exact Kd.N_nil _ _ _ _ _ | exact Kd.V_nil _ _ _ _ _ | exact Kd.Q_nil _ _ _ _ _ | exact Kd.S_nil _ _ _ _ _⟩, ⟨by repeat (first | (with_reducible first | exact HB.out | apply below_alloc | apply pw_below_drewN | apply below_drew1) | exact HB.out)⟩⟩
  case round =>
    clear H'
    try clear p2
    obtain ⟨x5_1, x10_1, rfl, HA, HK1, HO_5, HB⟩ := hrel
    cases gk with
    | zero => exact absurd HA.out (by simp [edit_side.l0])
    | succ k1 =>
      have H := HA.out
      clear HA
      simp only [edit_side.l0] at H
      by_cases c3 : x10_1 < (l0.length : Int)
      · rw [if_pos c3] at H
        have c3b0 : decide (x10_1 < (l0.length : Int)) = true := decide_eq_true c3
        clear c3
        by_cases c4 : 0 ≤ x10_1
        · rw [if_pos c4] at H
          have c4b0 : decide (0 ≤ x10_1) = true := decide_eq_true c4
          clear c4
          by_cases c5 : x10_1 < (l0.length : Int)
          · rw [if_pos c5] at H
            have c5b0 : decide (x10_1 < (l0.length : Int)) = true := decide_eq_true c5
            clear c5
            by_cases c6 : ((rd_T143 l0 x10_1).f0) = 0
            · rw [if_pos c6] at H
              have c6b0 : (((rd_T143 l0 x10_1).f0) == 0) = true := beq_iff_eq.mpr c6
              have c6b1 : (((rd_T143 l0 x10_1).f0) != 0) = false := bne_eq_false_iff_eq.mpr c6
              clear c6
              by_cases c7 : x5_1.length + ((rd_T143 l0 x10_1).f1).length < 8796093022208
              · rw [if_pos c7] at H
                have LMc7 := Aside0.mk c7
                clear c7
                obtain ⟨y103, hy103⟩ : ∃ y_ : List ByteArray, y_ = (x5_1 ++ ((rd_T143 l0 x10_1).f1)) := ⟨_, rfl⟩
                replace H : (edit_side.l0 k1 a1 y103 l0 (l0.length : Int) (wrap64 (x10_1 + 1))) = some r := by first | (rw [hy103]; with_reducible exact H) | (have H2_ := (Option.bind_some _ _).symm.trans H; rw [hy103]; with_reducible exact H2_) | (have H2_ := (Option.bind_some _ _).symm.trans H; with_reducible exact H2_) | with_reducible exact H | (rw [hy103]; exact H) | exact H
                have Ny103 := Aside0.mk hy103
                clear hy103
                have H' := Aside0.mk H
                clear H
                have p101 : 0 ≤ (x10_1 : Int) := of_decide_eq_true (by first | (with_reducible assumption) | assumption)
                have q101 : x10_1 < (l0.length : Int) := of_decide_eq_true (by first | (with_reducible assumption) | assumption)
                obtain ⟨ad101, A101_1, c101_1, e101, hx101_0, hx101_1, hl101_1, hi101_1⟩ := at_T143 HR0.out x10_1 p101 q101
                cases e101
                replace hx101_0 := (HB.out.cell (World.block_lt_of_cell? w _ hx101_0)).trans hx101_0
                replace hx101_1 := (HB.out.cell (World.block_lt_of_cell? w _ hx101_1)).trans hx101_1
                have HR101_1 := Aside0.mk hi101_1
                have HC101_1 := Aside0.mk hl101_1
                clear hi101_1 hl101_1
                replace p101 := eq_true p101
                replace q101 := eq_true q101
                go_wp2_with (first | ((with_reducible refine gate_dst (N := 7) rfl ?_); refine box_event ?hg (N := 7) ?hd (cs := #[.int .i64 0, .slice none 0 0]) (t := 143) ?hr ?_; (case hd => rfl); (case hg => rfl); (case hr => first | (go_simp; done) | (go_simp; rfl)); intro gb102 hg w8 hbox hb; have n0_ := Aside0.mk (Kd.R_below (by (with_reducible repeat (first | apply Kd.R_alloc | apply Kd.R_drewN | apply Kd.R_drew)); exact HO_5.out) hb); have n1_ := Aside0.mk (below_step (by repeat (first | (with_reducible first | exact HB.out | apply below_alloc | apply pw_below_drewN | apply below_drew1) | exact HB.out)) hb); have n2_ := Aside0.mk (hbox); have n3_ := Aside0.mk ((by rw [hg]; exact (below_size (by repeat (first | (with_reducible first | exact HB.out | apply below_alloc | apply pw_below_drewN | apply below_drew1) | exact HB.out))) : w.heap.size ≤ gb102)); have n4_ := Aside0.mk ((by rw [hg]; exact (below_size (by repeat (first | (with_reducible first | exact HB.out | apply below_alloc | apply pw_below_drewN | apply below_drew1) | exact HB.out))) : w.heap.size ≤ gb102)); clear HO_5; clear HB; have HO_5 := n0_; have HB := n1_; have BK102 := n2_; have GW102 := n3_; have GE102 := n4_; clear n0_ n1_ n2_ n3_ n4_; clear hb hbox hg; have hcz9_0 : w8.cell? ⟨gb102, 0, none⟩ = some (.int .i64 0) := (blk_cell BK102.out 0).trans rfl; have hcz9_1 : w8.cell? ⟨gb102, 1, none⟩ = some (.slice none 0 0) := (blk_cell BK102.out 1).trans rfl; have hfz9_0 := blk_frozen BK102.out 0; have hfz9_1 := blk_frozen BK102.out 1) | ((with_reducible refine gate_builtin (b := .append) (xs := #[.tmp 23, .tmp 25]) rfl ?_); at_builtin; refine Kd.R_append_rows Kd.string (w0 := w) w.heap.size rfl (.tmp 23) (.tmp 25) 27 9 (.string ⟨#[]⟩) 16 rfl Try.underlying27 info9 rfl (by decide) (by omega) u5 x5_1 ((rd_T143 l0 x10_1).f1) _ _ _ (fun _ => True) (fun _ => False) rfl rfl ?aO ?aR (fun _ _ h => h) (fun _ h => h.elim) ?aF ?aB ?aS ?aL ?_; (case aR => exact Kd.C_below HR101_1.out (by repeat (first | (with_reducible first | exact HB.out | apply below_alloc | apply pw_below_drewN | apply below_drew1 | refine below_set ?_ GE102.out) | exact HB.out))); (case aB => exact (by repeat (first | (with_reducible first | exact HB.out | apply below_alloc | apply pw_below_drewN | apply below_drew1 | refine below_set ?_ GE102.out) | exact HB.out))); (case aF => exact (fun _ _ => trivial)); (case aO => exact (by (with_reducible repeat (first | apply Kd.R_alloc | apply Kd.R_drewN | apply Kd.R_drew)); exact Kd.R_mono (Kd.R_far (p := ⟨gb102, 1, none⟩) (Kd.R_far (p := ⟨gb102, 0, none⟩) (Kd.R_types HO_5.out BK102.out (by decide)) (fun _ hk => hk.2) (.int .i64 ((rd_T143 l0 x10_1).f0))) (fun _ hk => hk.2) (.slice A101_1 ((rd_T143 l0 x10_1).f1).length c101_1)) (fun _ hk => trivial))); (case aS => exact (below_size (by repeat (first | (with_reducible first | exact HB.out | apply below_alloc | apply pw_below_drewN | apply below_drew1 | refine below_set ?_ GE102.out) | exact HB.out)))); (case aL => have := LMc7.out; omega); intro v104 w10 ho hb hg hat; rw [← Ny103.out] at ho; have n0_ := Aside0.mk (blk_grown (g := gb102) (o := .cells #[.int .i64 ((rd_T143 l0 x10_1).f0), .slice A101_1 ((rd_T143 l0 x10_1).f1).length c101_1] 143 (0, 0)) (by (with_reducible repeat (first | refine blk_drewN ?_ _ | refine blk_drew ?_ | refine blk_alloc ?_ _)); refine blk_put (cs := #[.int .i64 ((rd_T143 l0 x10_1).f0), .slice none 0 0]) ?_ 1 _ rfl; (with_reducible repeat (first | refine blk_drewN ?_ _ | refine blk_drew ?_ | refine blk_alloc ?_ _)); refine blk_put (cs := #[.int .i64 0, .slice none 0 0]) ?_ 0 _ rfl; (with_reducible repeat (first | refine blk_drewN ?_ _ | refine blk_drew ?_ | refine blk_alloc ?_ _)); exact BK102.out) hg (Kd.R_ne HO_5.out BK102.out (by decide))); have n1_ := Aside0.mk (hb); have n2_ := Aside0.mk (ho); clear BK102; clear HB; clear HO_5; have BK102 := n0_; have HB := n1_; have HO105 := n2_; clear n0_ n1_ n2_; clear ho hb hg hat))
                go_roundg k1
                case measure => have := HK1.out; omega
                case rel => exact ⟨(y103), (wrap64 (x10_1 + 1)), (by first | rfl | (simp; done) | (simp [*]; done)), H', ⟨by have := HK1.out; omega⟩, ⟨by (with_reducible repeat (first | apply Kd.R_alloc | apply Kd.R_drewN | apply Kd.R_drew)); exact HO105.out⟩, ⟨by repeat (first | (with_reducible first | exact HB.out | apply below_alloc | apply pw_below_drewN | apply below_drew1 | refine below_set ?_ GE102.out) | exact HB.out)⟩⟩
              · rw [if_neg c7] at H
                exact absurd H (by simp)
            · rw [if_neg c6] at H
              have c6b0 : (((rd_T143 l0 x10_1).f0) == 0) = false := beq_eq_false_iff_ne.mpr c6
              have c6b1 : (((rd_T143 l0 x10_1).f0) != 0) = true := bne_iff_ne.mpr c6
              by_cases c11 : ((rd_T143 l0 x10_1).f0) = a1
              · rw [if_pos c11] at H
                have c11b0 : (((rd_T143 l0 x10_1).f0) == a1) = true := beq_iff_eq.mpr c11
                have c11b1 : (((rd_T143 l0 x10_1).f0) != a1) = false := bne_eq_false_iff_eq.mpr c11
                clear c11
                by_cases c12 : x5_1.length + ((rd_T143 l0 x10_1).f1).length < 8796093022208
                · rw [if_pos c12] at H
                  have LMc12 := Aside0.mk c12
                  clear c12
                  obtain ⟨y106, hy106⟩ : ∃ y_ : List ByteArray, y_ = (x5_1 ++ ((rd_T143 l0 x10_1).f1)) := ⟨_, rfl⟩
                  replace H : (edit_side.l0 k1 a1 y106 l0 (l0.length : Int) (wrap64 (x10_1 + 1))) = some r := by first | (rw [hy106]; with_reducible exact H) | (have H2_ := (Option.bind_some _ _).symm.trans H; rw [hy106]; with_reducible exact H2_) | (have H2_ := (Option.bind_some _ _).symm.trans H; with_reducible exact H2_) | with_reducible exact H | (rw [hy106]; exact H) | exact H
                  have Ny106 := Aside0.mk hy106
                  clear hy106
                  have H' := Aside0.mk H
                  clear H
                  have p101 : 0 ≤ (x10_1 : Int) := of_decide_eq_true (by first | (with_reducible assumption) | assumption)
                  have q101 : x10_1 < (l0.length : Int) := of_decide_eq_true (by first | (with_reducible assumption) | assumption)
                  obtain ⟨ad101, A101_1, c101_1, e101, hx101_0, hx101_1, hl101_1, hi101_1⟩ := at_T143 HR0.out x10_1 p101 q101
                  cases e101
                  replace hx101_0 := (HB.out.cell (World.block_lt_of_cell? w _ hx101_0)).trans hx101_0
                  replace hx101_1 := (HB.out.cell (World.block_lt_of_cell? w _ hx101_1)).trans hx101_1
                  have HR101_1 := Aside0.mk hi101_1
                  have HC101_1 := Aside0.mk hl101_1
                  clear hi101_1 hl101_1
                  replace p101 := eq_true p101
                  replace q101 := eq_true q101
                  go_wp2_with (first | ((with_reducible refine gate_dst (N := 7) rfl ?_); refine box_event ?hg (N := 7) ?hd (cs := #[.int .i64 0, .slice none 0 0]) (t := 143) ?hr ?_; (case hd => rfl); (case hg => rfl); (case hr => first | (go_simp; done) | (go_simp; rfl)); intro gb102 hg w13 hbox hb; have n0_ := Aside0.mk (Kd.R_below (by (with_reducible repeat (first | apply Kd.R_alloc | apply Kd.R_drewN | apply Kd.R_drew)); exact HO_5.out) hb); have n1_ := Aside0.mk (below_step (by repeat (first | (with_reducible first | exact HB.out | apply below_alloc | apply pw_below_drewN | apply below_drew1) | exact HB.out)) hb); have n2_ := Aside0.mk (hbox); have n3_ := Aside0.mk ((by rw [hg]; exact (below_size (by repeat (first | (with_reducible first | exact HB.out | apply below_alloc | apply pw_below_drewN | apply below_drew1) | exact HB.out))) : w.heap.size ≤ gb102)); have n4_ := Aside0.mk ((by rw [hg]; exact (below_size (by repeat (first | (with_reducible first | exact HB.out | apply below_alloc | apply pw_below_drewN | apply below_drew1) | exact HB.out))) : w.heap.size ≤ gb102)); clear HO_5; clear HB; have HO_5 := n0_; have HB := n1_; have BK102 := n2_; have GW102 := n3_; have GE102 := n4_; clear n0_ n1_ n2_ n3_ n4_; clear hb hbox hg; have hcz14_0 : w13.cell? ⟨gb102, 0, none⟩ = some (.int .i64 0) := (blk_cell BK102.out 0).trans rfl; have hcz14_1 : w13.cell? ⟨gb102, 1, none⟩ = some (.slice none 0 0) := (blk_cell BK102.out 1).trans rfl; have hfz14_0 := blk_frozen BK102.out 0; have hfz14_1 := blk_frozen BK102.out 1) | ((with_reducible refine gate_builtin (b := .append) (xs := #[.tmp 23, .tmp 25]) rfl ?_); at_builtin; refine Kd.R_append_rows Kd.string (w0 := w) w.heap.size rfl (.tmp 23) (.tmp 25) 27 9 (.string ⟨#[]⟩) 16 rfl Try.underlying27 info9 rfl (by decide) (by omega) u5 x5_1 ((rd_T143 l0 x10_1).f1) _ _ _ (fun _ => True) (fun _ => False) rfl rfl ?aO ?aR (fun _ _ h => h) (fun _ h => h.elim) ?aF ?aB ?aS ?aL ?_; (case aR => exact Kd.C_below HR101_1.out (by repeat (first | (with_reducible first | exact HB.out | apply below_alloc | apply pw_below_drewN | apply below_drew1 | refine below_set ?_ GE102.out) | exact HB.out))); (case aB => exact (by repeat (first | (with_reducible first | exact HB.out | apply below_alloc | apply pw_below_drewN | apply below_drew1 | refine below_set ?_ GE102.out) | exact HB.out))); (case aF => exact (fun _ _ => trivial)); (case aO => exact (by (with_reducible repeat (first | apply Kd.R_alloc | apply Kd.R_drewN | apply Kd.R_drew)); exact Kd.R_mono (Kd.R_far (p := ⟨gb102, 1, none⟩) (Kd.R_far (p := ⟨gb102, 0, none⟩) (Kd.R_types HO_5.out BK102.out (by decide)) (fun _ hk => hk.2) (.int .i64 ((rd_T143 l0 x10_1).f0))) (fun _ hk => hk.2) (.slice A101_1 ((rd_T143 l0 x10_1).f1).length c101_1)) (fun _ hk => trivial))); (case aS => exact (below_size (by repeat (first | (with_reducible first | exact HB.out | apply below_alloc | apply pw_below_drewN | apply below_drew1 | refine below_set ?_ GE102.out) | exact HB.out)))); (case aL => have := LMc12.out; omega); intro v107 w15 ho hb hg hat; rw [← Ny106.out] at ho; have n0_ := Aside0.mk (blk_grown (g := gb102) (o := .cells #[.int .i64 ((rd_T143 l0 x10_1).f0), .slice A101_1 ((rd_T143 l0 x10_1).f1).length c101_1] 143 (0, 0)) (by (with_reducible repeat (first | refine blk_drewN ?_ _ | refine blk_drew ?_ | refine blk_alloc ?_ _)); refine blk_put (cs := #[.int .i64 ((rd_T143 l0 x10_1).f0), .slice none 0 0]) ?_ 1 _ rfl; (with_reducible repeat (first | refine blk_drewN ?_ _ | refine blk_drew ?_ | refine blk_alloc ?_ _)); refine blk_put (cs := #[.int .i64 0, .slice none 0 0]) ?_ 0 _ rfl; (with_reducible repeat (first | refine blk_drewN ?_ _ | refine blk_drew ?_ | refine blk_alloc ?_ _)); exact BK102.out) hg (Kd.R_ne HO_5.out BK102.out (by decide))); have n1_ := Aside0.mk (hb); have n2_ := Aside0.mk (ho); clear BK102; clear HB; clear HO_5; have BK102 := n0_; have HB := n1_; have HO108 := n2_; clear n0_ n1_ n2_; clear ho hb hg hat))
                  go_roundg k1
                  case measure => have := HK1.out; omega
                  case rel => exact ⟨(y106), (wrap64 (x10_1 + 1)), (by first | rfl | (simp; done) | (simp [*]; done)), H', ⟨by have := HK1.out; omega⟩, ⟨by (with_reducible repeat (first | apply Kd.R_alloc | apply Kd.R_drewN | apply Kd.R_drew)); exact HO108.out⟩, ⟨by repeat (first | (with_reducible first | exact HB.out | apply below_alloc | apply pw_below_drewN | apply below_drew1 | refine below_set ?_ GE102.out) | exact HB.out)⟩⟩
                · rw [if_neg c12] at H
                  exact absurd H (by simp)
              · rw [if_neg c11] at H
                have c11b0 : (((rd_T143 l0 x10_1).f0) == a1) = false := beq_eq_false_iff_ne.mpr c11
                have c11b1 : (((rd_T143 l0 x10_1).f0) != a1) = true := bne_iff_ne.mpr c11
                have H' := Aside0.mk H
                clear H
                have p101 : 0 ≤ (x10_1 : Int) := of_decide_eq_true (by first | (with_reducible assumption) | assumption)
                have q101 : x10_1 < (l0.length : Int) := of_decide_eq_true (by first | (with_reducible assumption) | assumption)
                obtain ⟨ad101, A101_1, c101_1, e101, hx101_0, hx101_1, hl101_1, hi101_1⟩ := at_T143 HR0.out x10_1 p101 q101
                cases e101
                replace hx101_0 := (HB.out.cell (World.block_lt_of_cell? w _ hx101_0)).trans hx101_0
                replace hx101_1 := (HB.out.cell (World.block_lt_of_cell? w _ hx101_1)).trans hx101_1
                have HR101_1 := Aside0.mk hi101_1
                have HC101_1 := Aside0.mk hl101_1
                clear hi101_1 hl101_1
                replace p101 := eq_true p101
                replace q101 := eq_true q101
                go_wp2_with (first | ((with_reducible refine gate_dst (N := 7) rfl ?_); refine box_event ?hg (N := 7) ?hd (cs := #[.int .i64 0, .slice none 0 0]) (t := 143) ?hr ?_; (case hd => rfl); (case hg => rfl); (case hr => first | (go_simp; done) | (go_simp; rfl)); intro gb102 hg w16 hbox hb; have n0_ := Aside0.mk (Kd.R_below (by (with_reducible repeat (first | apply Kd.R_alloc | apply Kd.R_drewN | apply Kd.R_drew)); exact HO_5.out) hb); have n1_ := Aside0.mk (below_step (by repeat (first | (with_reducible first | exact HB.out | apply below_alloc | apply pw_below_drewN | apply below_drew1) | exact HB.out)) hb); have n2_ := Aside0.mk (hbox); have n3_ := Aside0.mk ((by rw [hg]; exact (below_size (by repeat (first | (with_reducible first | exact HB.out | apply below_alloc | apply pw_below_drewN | apply below_drew1) | exact HB.out))) : w.heap.size ≤ gb102)); have n4_ := Aside0.mk ((by rw [hg]; exact (below_size (by repeat (first | (with_reducible first | exact HB.out | apply below_alloc | apply pw_below_drewN | apply below_drew1) | exact HB.out))) : w.heap.size ≤ gb102)); clear HO_5; clear HB; have HO_5 := n0_; have HB := n1_; have BK102 := n2_; have GW102 := n3_; have GE102 := n4_; clear n0_ n1_ n2_ n3_ n4_; clear hb hbox hg; have hcz17_0 : w16.cell? ⟨gb102, 0, none⟩ = some (.int .i64 0) := (blk_cell BK102.out 0).trans rfl; have hcz17_1 : w16.cell? ⟨gb102, 1, none⟩ = some (.slice none 0 0) := (blk_cell BK102.out 1).trans rfl; have hfz17_0 := blk_frozen BK102.out 0; have hfz17_1 := blk_frozen BK102.out 1))
                go_roundg k1
                case measure => have := HK1.out; omega
                case rel => exact ⟨(x5_1), (wrap64 (x10_1 + 1)), (by first | rfl | (simp; done) | (simp [*]; done)), H', ⟨by have := HK1.out; omega⟩, ⟨by (with_reducible repeat (first | apply Kd.R_alloc | apply Kd.R_drewN | apply Kd.R_drew)); exact Kd.R_mono (Kd.R_far (p := ⟨gb102, 1, none⟩) (Kd.R_far (p := ⟨gb102, 0, none⟩) (Kd.R_types HO_5.out BK102.out (by decide)) (fun _ hk => hk.2) (.int .i64 ((rd_T143 l0 x10_1).f0))) (fun _ hk => hk.2) (.slice A101_1 ((rd_T143 l0 x10_1).f1).length c101_1)) (fun _ hk => trivial)⟩, ⟨by repeat (first | (with_reducible first | exact HB.out | apply below_alloc | apply pw_below_drewN | apply below_drew1 | refine below_set ?_ GE102.out) | exact HB.out)⟩⟩
          · rw [if_neg c5] at H
            exact absurd H (by simp)
        · rw [if_neg c4] at H
          exact absurd H (by simp)
      · rw [if_neg c3] at H
        have c3b0 : decide (x10_1 < (l0.length : Int)) = false := decide_eq_false c3
        clear c3
        obtain rfl := Option.some.inj H
        go_wp2
        go_ret
        exact ⟨_, by first | rfl | (simp [errW_none, errW_some] <;> rfl) | (simp [*, errW_none, errW_some] <;> rfl), by (with_reducible repeat (first | apply Kd.R_alloc | apply Kd.R_drewN | apply Kd.R_drew)); exact HO_5.out, by repeat (first | (with_reducible first | exact HB.out | apply below_alloc | apply pw_below_drewN | apply below_drew1) | exact HB.out)⟩

end Go.Proofs.Ytadafplbgophfaa.PA
end
section
-- Written by a program of this seat out of the translation. Not trusted: Lean checks it.
namespace Go.Proofs.Ytadafplbgophfaa.PA
open Go.RowKit Go.Proofs.YtadafplbgophfaaW.PrintWords Go.Proofs.YtadafplbgophfaaW.PrintLast Go.Proofs.YtadafplbgophfaaW.PrintMore
attribute [local go_sem] max2_int min2_int max_two min_two max_three min_three max_four min_four   -- for this text's walks alone
set_option linter.unusedVariables false
set_option linter.unusedSimpArgs false

/-! ### edit_Apply: function 39 -/
def edit_Apply.f (k : Nat) (l0 : List (S143)) (l1 : List ByteArray) : Option (List ByteArray × Int) := (edit_side.f k l0 1).bind fun t101 => ((slices_Equal_string_string.f k t101 l1).bind fun t104 => (if t104 = true then ((edit_side.f k l0 2).bind fun t105 => (some (t105, 0))) else (some (([] : List ByteArray), 12))))
theorem edit_Apply.mono : ∀ a0 a1 k, LeO (edit_Apply.f k a0 a1) (edit_Apply.f (k + 1) a0 a1) := by
  intro a0 a1 k
  unfold edit_Apply.f
  repeat' first
      | (with_reducible exact edit_side.mono _ _ _)
      | (with_reducible exact slices_Equal_string_string.mono _ _ _)
      | (with_reducible exact LeO.refl _)
      | (with_reducible exact LeO.none _)
      | (with_reducible refine LeO.ite ?_ ?_)
      | (with_reducible refine LeO.bind ?_ (fun _ => ?_))
      | exact edit_side.mono _ _ _
      | exact slices_Equal_string_string.mono _ _ _
      | exact LeO.none _
      | refine LeO.ite ?_ ?_
      | refine LeO.bind ?_ (fun _ => ?_)
set_option maxHeartbeats 8000000 in
set_option maxRecDepth 100000 in
theorem edit_Apply.calls (k : Nat) (A0 : Option Addr) (c0 : Nat) (l0 : List (S143)) (A1 : Option Addr) (c1 : Nat) (l1 : List ByteArray) (r1 : List ByteArray) (r2 : Int) (w : World) (hr0 : Kd.C k143 w A0 l0.length l0) (hc0 : l0.length ≤ c0) (hr1 : Kd.C Kd.string w A1 l1.length l1) (hc1 : l1.length ≤ c1) (h : edit_Apply.f k l0 l1 = some (r1, r2)) :
    Calls Try.prog 39 #[.slice A0 l0.length c0, .slice A1 l1.length c1] w fun e w' => ∃ v0_ : Value, e = .returned (.tuple #[v0_, .int .i64 r2]) ∧ Kd.R Kd.string 9 w' w.heap.size (fun _ => True) v0_ r1 ∧ Below w.heap.size w w' := by
  have HR0 := Aside0.mk hr0
  have HC0 := Aside0.mk hc0
  clear hr0 hc0
  have HR1 := Aside0.mk hr1
  have HC1 := Aside0.mk hc1
  clear hr1 hc1
  have HB := Aside0.mk (Below.refl w.heap.size w)
  have H : ((edit_side.f k l0 1).bind fun t101 => ((slices_Equal_string_string.f k t101 l1).bind fun t104 => (if t104 = true then ((edit_side.f k l0 2).bind fun t105 => (some (t105, 0))) else (some (([] : List ByteArray), 12))))) = some (r1, r2) := h
  clear h
  replace H := Option.bind_eq_some_iff.mp H
  obtain ⟨t101, A30, H⟩ := H
  replace H : ((slices_Equal_string_string.f k t101 l1).bind fun t104 => (if t104 = true then ((edit_side.f k l0 2).bind fun t105 => (some (t105, 0))) else (some (([] : List ByteArray), 12)))) = some (r1, r2) := H
  have A3 := Aside0.mk A30
  clear A30
  replace H := Option.bind_eq_some_iff.mp H
  obtain ⟨t104, A40, H⟩ := H
  replace H : (if t104 = true then ((edit_side.f k l0 2).bind fun t105 => (some (t105, 0))) else (some (([] : List ByteArray), 12))) = some (r1, r2) := H
  have A4 := Aside0.mk A40
  clear A40
  by_cases c5 : t104 = true
  · subst c5
    have H1 : ((edit_side.f k l0 2).bind fun t105 => (some (t105, 0))) = some (r1, r2) := by rw [if_pos rfl] at H; exact H
    clear H
    have H := H1
    clear H1
    replace H := Option.bind_eq_some_iff.mp H
    obtain ⟨t105, A60, H⟩ := H
    replace H : (some (t105, 0)) = some (r1, r2) := H
    have A6 := Aside0.mk A60
    clear A60
    simp only [Option.some.injEq, Prod.mk.injEq] at H
    obtain ⟨rfl, rfl⟩ := H
    go_enter Try.func39, Try.ntmps39
    go_wp2_with (first | ((with_reducible refine gate_callee (f := 90) rfl ?_); refine goesL_ (some 7) rfl rfl Try.func90 (by kernel_rfl) rfl #[.slice A0 l0.length c0, .int .i64 1] rfl (by (try simp only [List.map_toArray, List.map_cons, List.map_nil]); first | done | rfl | (simp only [List.length_drop, List.length_take]; rfl)) ?_; (with_reducible refine (edit_side.calls k _ _ l0 1 t101 _ ?side1 ?side2 A3.out).mono ?_); (case side1 => repeat (first | exact HR0.out | (with_reducible refine Kd.C_alloc ?_ _) | (with_reducible refine Kd.C_drewN ?_ _) | (with_reducible refine Kd.C_drew ?_))); (case side2 => exact HC0.out); rintro e w7 ⟨v102, rfl, ho0, hb⟩; refine ⟨_, rfl, ?_⟩; have n0_ := Aside0.mk (Kd.R_lower ho0 (below_size (by repeat (first | (with_reducible first | exact HB.out | apply below_alloc | apply pw_below_drewN | apply below_drew1) | exact HB.out)))); have n1_ := Aside0.mk (below_step (by repeat (first | (with_reducible first | exact HB.out | apply below_alloc | apply pw_below_drewN | apply below_drew1) | exact HB.out)) hb); clear HB; have HO103 := n0_; have HB := n1_; clear n0_ n1_; (try clear hb); (try clear hb2); (try clear hk); (try clear hi); (try clear ho0); obtain ⟨Ao8, co8, eo8⟩ := Kd.R_slice HO103.out; subst eo8) | ((with_reducible refine gate_callee (f := 83) rfl ?_); refine goesL_ (some 9) rfl rfl Try.func83 (by kernel_rfl) rfl #[.slice Ao8 t101.length co8, .slice A1 l1.length c1] rfl (by (try simp only [List.map_toArray, List.map_cons, List.map_nil]); first | done | rfl | (simp only [List.length_drop, List.length_take]; rfl)) ?_; (with_reducible refine (slices_Equal_string_string.calls k _ _ t101 _ _ l1 true _ ?side1 ?side2 ?side3 ?side4 A4.out).mono ?_); (case side1 => repeat (first | exact (Kd.R_reads' HO103.out).2.2 | (with_reducible refine Kd.C_alloc ?_ _) | (with_reducible refine Kd.C_drewN ?_ _) | (with_reducible refine Kd.C_drew ?_))); (case side2 => exact (Kd.R_reads' HO103.out).2.1); (case side3 => repeat (first | exact (Kd.C_below HR1.out HB.out) | (with_reducible refine Kd.C_alloc ?_ _) | (with_reducible refine Kd.C_drewN ?_ _) | (with_reducible refine Kd.C_drew ?_))); (case side4 => exact HC1.out); rintro e w' ⟨rfl, ⟨nd, rfl⟩⟩; refine ⟨_, rfl, ?_⟩) | ((with_reducible refine gate_callee (f := 90) rfl ?_); refine goesL_ (some 12) rfl rfl Try.func90 (by kernel_rfl) rfl #[.slice A0 l0.length c0, .int .i64 2] rfl (by (try simp only [List.map_toArray, List.map_cons, List.map_nil]); first | done | rfl | (simp only [List.length_drop, List.length_take]; rfl)) ?_; (with_reducible refine (edit_side.calls k _ _ l0 2 t105 _ ?side1 ?side2 A6.out).mono ?_); (case side1 => repeat (first | exact (Kd.C_below HR0.out (by repeat (first | (with_reducible first | exact HB.out | apply below_alloc | apply pw_below_drewN | apply below_drew1) | exact HB.out))) | (with_reducible refine Kd.C_alloc ?_ _) | (with_reducible refine Kd.C_drewN ?_ _) | (with_reducible refine Kd.C_drew ?_))); (case side2 => exact HC0.out); rintro e w9 ⟨v106, rfl, ho0, hb⟩; refine ⟨_, rfl, ?_⟩; have n0_ := Aside0.mk (Kd.R_elder' (by (with_reducible repeat (first | apply Kd.R_alloc | apply Kd.R_drewN | apply Kd.R_drew)); exact HO103.out) (Kd.R_base ho0) hb); have n1_ := Aside0.mk (Kd.R_lower (Kd.R_new' ho0 (Kd.R_lt (by (with_reducible repeat (first | apply Kd.R_alloc | apply Kd.R_drewN | apply Kd.R_drew)); exact HO103.out))) (below_size (by repeat (first | (with_reducible first | exact HB.out | apply below_alloc | apply pw_below_drewN | apply below_drew1) | exact HB.out)))); have n2_ := Aside0.mk (below_step (by repeat (first | (with_reducible first | exact HB.out | apply below_alloc | apply pw_below_drewN | apply below_drew1) | exact HB.out)) hb); clear HO103; clear HB; have HO103 := n0_; have HO107 := n1_; have HB := n2_; clear n0_ n1_ n2_; (try clear hb); (try clear hb2); (try clear hk); (try clear hi); (try clear ho0)))
    go_ret2
    exact ⟨_, by first | rfl | (simp [errW_none, errW_some] <;> rfl) | (simp [*, errW_none, errW_some] <;> rfl), by (with_reducible repeat (first | apply Kd.R_alloc | apply Kd.R_drewN | apply Kd.R_drew)); exact Kd.R_mono HO107.out (fun _ hk => trivial), by repeat (first | (with_reducible first | exact HB.out | apply below_alloc | apply pw_below_drewN | apply below_drew1) | exact HB.out)⟩
  · replace c5 := Bool.eq_false_iff.mpr c5
    subst c5
    have H1 : (some (([] : List ByteArray), 12)) = some (r1, r2) := by rw [if_neg (show ¬ (false = true) by decide)] at H; exact H
    clear H
    have H := H1
    clear H1
    simp only [Option.some.injEq, Prod.mk.injEq] at H
    obtain ⟨rfl, rfl⟩ := H
    go_enter Try.func39, Try.ntmps39
    go_wp2_with (first | ((with_reducible refine gate_callee (f := 90) rfl ?_); refine goesL_ (some 7) rfl rfl Try.func90 (by kernel_rfl) rfl #[.slice A0 l0.length c0, .int .i64 1] rfl (by (try simp only [List.map_toArray, List.map_cons, List.map_nil]); first | done | rfl | (simp only [List.length_drop, List.length_take]; rfl)) ?_; (with_reducible refine (edit_side.calls k _ _ l0 1 t101 _ ?side1 ?side2 A3.out).mono ?_); (case side1 => repeat (first | exact HR0.out | (with_reducible refine Kd.C_alloc ?_ _) | (with_reducible refine Kd.C_drewN ?_ _) | (with_reducible refine Kd.C_drew ?_))); (case side2 => exact HC0.out); rintro e w10 ⟨v102, rfl, ho0, hb⟩; refine ⟨_, rfl, ?_⟩; have n0_ := Aside0.mk (Kd.R_lower ho0 (below_size (by repeat (first | (with_reducible first | exact HB.out | apply below_alloc | apply pw_below_drewN | apply below_drew1) | exact HB.out)))); have n1_ := Aside0.mk (below_step (by repeat (first | (with_reducible first | exact HB.out | apply below_alloc | apply pw_below_drewN | apply below_drew1) | exact HB.out)) hb); clear HB; have HO103 := n0_; have HB := n1_; clear n0_ n1_; (try clear hb); (try clear hb2); (try clear hk); (try clear hi); (try clear ho0); obtain ⟨Ao11, co11, eo11⟩ := Kd.R_slice HO103.out; subst eo11) | ((with_reducible refine gate_callee (f := 83) rfl ?_); refine goesL_ (some 9) rfl rfl Try.func83 (by kernel_rfl) rfl #[.slice Ao11 t101.length co11, .slice A1 l1.length c1] rfl (by (try simp only [List.map_toArray, List.map_cons, List.map_nil]); first | done | rfl | (simp only [List.length_drop, List.length_take]; rfl)) ?_; (with_reducible refine (slices_Equal_string_string.calls k _ _ t101 _ _ l1 false _ ?side1 ?side2 ?side3 ?side4 A4.out).mono ?_); (case side1 => repeat (first | exact (Kd.R_reads' HO103.out).2.2 | (with_reducible refine Kd.C_alloc ?_ _) | (with_reducible refine Kd.C_drewN ?_ _) | (with_reducible refine Kd.C_drew ?_))); (case side2 => exact (Kd.R_reads' HO103.out).2.1); (case side3 => repeat (first | exact (Kd.C_below HR1.out HB.out) | (with_reducible refine Kd.C_alloc ?_ _) | (with_reducible refine Kd.C_drewN ?_ _) | (with_reducible refine Kd.C_drew ?_))); (case side4 => exact HC1.out); rintro e w' ⟨rfl, ⟨nd, rfl⟩⟩; refine ⟨_, rfl, ?_⟩))
    go_ret2
    exact ⟨_, by first | rfl | (simp [errW_none, errW_some] <;> rfl) | (simp [*, errW_none, errW_some] <;> rfl), by first | exact Kd.R_nil _ _ _ _ _ | exact Kd.N_nil _ _ _ _ _ | exact Kd.V_nil _ _ _ _ _ | exact Kd.Q_nil _ _ _ _ _ | exact Kd.S_nil _ _ _ _ _, by repeat (first | (with_reducible first | exact HB.out | apply below_alloc | apply pw_below_drewN | apply below_drew1) | exact HB.out)⟩

end Go.Proofs.Ytadafplbgophfaa.PA
end
section
-- Written by a program of this seat out of the translation. Not trusted: Lean checks it.
namespace Go.Proofs.Ytadafplbgophfaa.PA
open Go.RowKit Go.Proofs.YtadafplbgophfaaW.PrintWords Go.Proofs.YtadafplbgophfaaW.PrintLast Go.Proofs.YtadafplbgophfaaW.PrintMore
attribute [local go_sem] max2_int min2_int max_two min_two max_three min_three max_four min_four   -- for this text's walks alone
set_option linter.unusedVariables false
set_option linter.unusedSimpArgs false

/-! ### edit_Right: function 44 -/
def edit_Right.l0 : Nat → Int → List (S143) → Int → Int → Option (Bool)
  | 0, _, _, _, _ => none
  | k + 1, x3, x6, x7, x8 => if x8 < x7 then (if 0 ≤ x8 then (if x8 < (x6.length : Int) then (if ((rd_T143 x6 x8).f0) < 0 then (some false) else (if ((rd_T143 x6 x8).f0) > 2 then (some false) else (if (((rd_T143 x6 x8).f1).length : Int) = 0 then (some false) else (if ((rd_T143 x6 x8).f0) = x3 then (some false) else (if x3 = 2 then (if ((rd_T143 x6 x8).f0) = 1 then (some false) else (edit_Right.l0 k ((rd_T143 x6 x8).f0) x6 x7 (wrap64 (x8 + 1)))) else (edit_Right.l0 k ((rd_T143 x6 x8).f0) x6 x7 (wrap64 (x8 + 1)))))))) else (none)) else (none)) else (some true)
def edit_Right.f (k : Nat) (l0 : List (S143)) : Option (Bool) := edit_Right.l0 k (-1) l0 (l0.length : Int) 0
theorem edit_Right.mono_l : ∀ k, (∀ y0 y1 y2 y3, LeO (edit_Right.l0 k y0 y1 y2 y3) (edit_Right.l0 (k + 1) y0 y1 y2 y3))
  | 0 => fun _ _ _ _ r h => by simp [edit_Right.l0] at h
  | k + 1 => by
    have ih0 := edit_Right.mono_l k
    · intro y0 y1 y2 y3
      unfold edit_Right.l0
      repeat' first
      | (with_reducible exact ih0 _ _ _ _)
      | (with_reducible exact LeO.refl _)
      | (with_reducible exact LeO.none _)
      | (with_reducible refine LeO.ite ?_ ?_)
      | (with_reducible refine LeO.bind ?_ (fun _ => ?_))
      | exact ih0 _ _ _ _
      | exact LeO.none _
      | refine LeO.ite ?_ ?_
      | refine LeO.bind ?_ (fun _ => ?_)
theorem edit_Right.mono : ∀ a0 k, LeO (edit_Right.f k a0) (edit_Right.f (k + 1) a0) := by
  intro a0 k
  have ih0 := edit_Right.mono_l k
  unfold edit_Right.f
  repeat' first
      | (with_reducible exact ih0 _ _ _ _)
      | (with_reducible exact LeO.refl _)
      | (with_reducible exact LeO.none _)
      | (with_reducible refine LeO.ite ?_ ?_)
      | (with_reducible refine LeO.bind ?_ (fun _ => ?_))
      | exact ih0 _ _ _ _
      | exact LeO.none _
      | refine LeO.ite ?_ ?_
      | refine LeO.bind ?_ (fun _ => ?_)
set_option maxHeartbeats 8000000 in
set_option maxRecDepth 100000 in
theorem edit_Right.calls (k : Nat) (A0 : Option Addr) (c0 : Nat) (l0 : List (S143)) (r : Bool) (w : World) (hr0 : Kd.C k143 w A0 l0.length l0) (hc0 : l0.length ≤ c0) (h : edit_Right.f k l0 = some r) :
    Calls Try.prog 44 #[.slice A0 l0.length c0] w fun e w' => e = .returned (.bool r) ∧ Below w.heap.size w w' := by
  have hu143 := Try.underlying143
  have HR0 := Aside0.mk hr0
  have HC0 := Aside0.mk hc0
  clear hr0 hc0
  have HB := Aside0.mk (Below.refl w.heap.size w)
  have H : (edit_Right.l0 k (-1) l0 (l0.length : Int) 0) = some r := h
  clear h
  have H' := Aside0.mk H
  clear H
  go_enter Try.func44, Try.ntmps44
  go_wp2
  go_loopg [3, 8] k (fun kq v3 v8 w' => ∃ (x3_1 : Int) (x8_1 : Int), v3 = .int .i64 x3_1 ∧ v8 = .int .i64 x8_1 ∧ Aside0 (edit_Right.l0 kq x3_1 l0 (l0.length : Int) x8_1 = some r) ∧ Aside0 (kq ≤ k) ∧ Aside0 (Below w.heap.size w w'))
  case atStart => exact ⟨((-1)), (0), (by first | rfl | (simp; done) | (simp [*]; done)), (by first | rfl | (simp; done) | (simp [*]; done)), H', ⟨Nat.le_refl _⟩, ⟨by repeat (first | (with_reducible first | exact HB.out | apply below_alloc | apply pw_below_drewN | apply below_drew1) | exact HB.out)⟩⟩
  case round =>
    clear H'
    obtain ⟨x3_1, x8_1, rfl, rfl, HA, HK1, HB⟩ := hrel
    cases gk with
    | zero => exact absurd HA.out (by simp [edit_Right.l0])
    | succ k1 =>
      have H := HA.out
      clear HA
      simp only [edit_Right.l0] at H
      by_cases c2 : x8_1 < (l0.length : Int)
      · rw [if_pos c2] at H
        have c2b0 : decide (x8_1 < (l0.length : Int)) = true := decide_eq_true c2
        clear c2
        by_cases c3 : 0 ≤ x8_1
        · rw [if_pos c3] at H
          have c3b0 : decide (0 ≤ x8_1) = true := decide_eq_true c3
          clear c3
          by_cases c4 : x8_1 < (l0.length : Int)
          · rw [if_pos c4] at H
            have c4b0 : decide (x8_1 < (l0.length : Int)) = true := decide_eq_true c4
            clear c4
            by_cases c5 : ((rd_T143 l0 x8_1).f0) < 0
            · rw [if_pos c5] at H
              have c5b0 : decide (((rd_T143 l0 x8_1).f0) < 0) = true := decide_eq_true c5
              clear c5
              obtain rfl := Option.some.inj H
              have p101 : 0 ≤ (x8_1 : Int) := of_decide_eq_true (by first | (with_reducible assumption) | assumption)
              have q101 : x8_1 < (l0.length : Int) := of_decide_eq_true (by first | (with_reducible assumption) | assumption)
              obtain ⟨ad101, A101_1, c101_1, e101, hx101_0, hx101_1, hl101_1, hi101_1⟩ := at_T143 HR0.out x8_1 p101 q101
              cases e101
              replace hx101_0 := (HB.out.cell (World.block_lt_of_cell? w _ hx101_0)).trans hx101_0
              replace hx101_1 := (HB.out.cell (World.block_lt_of_cell? w _ hx101_1)).trans hx101_1
              have HR101_1 := Aside0.mk hi101_1
              have HC101_1 := Aside0.mk hl101_1
              clear hi101_1 hl101_1
              replace p101 := eq_true p101
              replace q101 := eq_true q101
              go_wp2_with (first | ((with_reducible refine gate_dst (N := 5) rfl ?_); (try (refine gate_guard (by rfl) ?_; dsimp only)); refine box_event ?hg (N := 5) ?hd (cs := #[.int .i64 0, .slice none 0 0]) (t := 143) ?hr ?_; (case hd => rfl); (case hg => rfl); (case hr => first | (go_simp; done) | (go_simp; rfl)); intro gb102 hg w6 hbox hb; have n0_ := Aside0.mk (below_step (by repeat (first | (with_reducible first | exact HB.out | apply below_alloc | apply pw_below_drewN | apply below_drew1) | exact HB.out)) hb); have n1_ := Aside0.mk (hbox); have n2_ := Aside0.mk ((by rw [hg]; exact (below_size (by repeat (first | (with_reducible first | exact HB.out | apply below_alloc | apply pw_below_drewN | apply below_drew1) | exact HB.out))) : w.heap.size ≤ gb102)); have n3_ := Aside0.mk ((by rw [hg]; exact (below_size (by repeat (first | (with_reducible first | exact HB.out | apply below_alloc | apply pw_below_drewN | apply below_drew1) | exact HB.out))) : w.heap.size ≤ gb102)); clear HB; have HB := n0_; have BK102 := n1_; have GW102 := n2_; have GE102 := n3_; clear n0_ n1_ n2_ n3_; clear hb hbox hg; have hcz7_0 : w6.cell? ⟨gb102, 0, none⟩ = some (.int .i64 0) := (blk_cell BK102.out 0).trans rfl; have hcz7_1 : w6.cell? ⟨gb102, 1, none⟩ = some (.slice none 0 0) := (blk_cell BK102.out 1).trans rfl; have hfz7_0 := blk_frozen BK102.out 0; have hfz7_1 := blk_frozen BK102.out 1))
              go_ret
              exact ⟨by first | rfl | (simp [errW_none, errW_some] <;> rfl) | (simp [*, errW_none, errW_some] <;> rfl), by repeat (first | (with_reducible first | exact HB.out | apply below_alloc | apply pw_below_drewN | apply below_drew1 | refine below_set ?_ GE102.out) | exact HB.out)⟩
            · rw [if_neg c5] at H
              have c5b0 : decide (((rd_T143 l0 x8_1).f0) < 0) = false := decide_eq_false c5
              clear c5
              by_cases c8 : ((rd_T143 l0 x8_1).f0) > 2
              · rw [if_pos c8] at H
                have c8b0 : decide (2 < ((rd_T143 l0 x8_1).f0)) = true := decide_eq_true c8
                clear c8
                obtain rfl := Option.some.inj H
                have p101 : 0 ≤ (x8_1 : Int) := of_decide_eq_true (by first | (with_reducible assumption) | assumption)
                have q101 : x8_1 < (l0.length : Int) := of_decide_eq_true (by first | (with_reducible assumption) | assumption)
                obtain ⟨ad101, A101_1, c101_1, e101, hx101_0, hx101_1, hl101_1, hi101_1⟩ := at_T143 HR0.out x8_1 p101 q101
                cases e101
                replace hx101_0 := (HB.out.cell (World.block_lt_of_cell? w _ hx101_0)).trans hx101_0
                replace hx101_1 := (HB.out.cell (World.block_lt_of_cell? w _ hx101_1)).trans hx101_1
                have HR101_1 := Aside0.mk hi101_1
                have HC101_1 := Aside0.mk hl101_1
                clear hi101_1 hl101_1
                replace p101 := eq_true p101
                replace q101 := eq_true q101
                go_wp2_with (first | ((with_reducible refine gate_dst (N := 5) rfl ?_); (try (refine gate_guard (by rfl) ?_; dsimp only)); refine box_event ?hg (N := 5) ?hd (cs := #[.int .i64 0, .slice none 0 0]) (t := 143) ?hr ?_; (case hd => rfl); (case hg => rfl); (case hr => first | (go_simp; done) | (go_simp; rfl)); intro gb102 hg w9 hbox hb; have n0_ := Aside0.mk (below_step (by repeat (first | (with_reducible first | exact HB.out | apply below_alloc | apply pw_below_drewN | apply below_drew1) | exact HB.out)) hb); have n1_ := Aside0.mk (hbox); have n2_ := Aside0.mk ((by rw [hg]; exact (below_size (by repeat (first | (with_reducible first | exact HB.out | apply below_alloc | apply pw_below_drewN | apply below_drew1) | exact HB.out))) : w.heap.size ≤ gb102)); have n3_ := Aside0.mk ((by rw [hg]; exact (below_size (by repeat (first | (with_reducible first | exact HB.out | apply below_alloc | apply pw_below_drewN | apply below_drew1) | exact HB.out))) : w.heap.size ≤ gb102)); clear HB; have HB := n0_; have BK102 := n1_; have GW102 := n2_; have GE102 := n3_; clear n0_ n1_ n2_ n3_; clear hb hbox hg; have hcz10_0 : w9.cell? ⟨gb102, 0, none⟩ = some (.int .i64 0) := (blk_cell BK102.out 0).trans rfl; have hcz10_1 : w9.cell? ⟨gb102, 1, none⟩ = some (.slice none 0 0) := (blk_cell BK102.out 1).trans rfl; have hfz10_0 := blk_frozen BK102.out 0; have hfz10_1 := blk_frozen BK102.out 1))
                go_ret
                exact ⟨by first | rfl | (simp [errW_none, errW_some] <;> rfl) | (simp [*, errW_none, errW_some] <;> rfl), by repeat (first | (with_reducible first | exact HB.out | apply below_alloc | apply pw_below_drewN | apply below_drew1 | refine below_set ?_ GE102.out) | exact HB.out)⟩
              · rw [if_neg c8] at H
                have c8b0 : decide (2 < ((rd_T143 l0 x8_1).f0)) = false := decide_eq_false c8
                clear c8
                by_cases c11 : (((rd_T143 l0 x8_1).f1).length : Int) = 0
                · rw [if_pos c11] at H
                  have c11b0 : ((((rd_T143 l0 x8_1).f1).length : Int) == 0) = true := beq_iff_eq.mpr c11
                  have c11b1 : ((((rd_T143 l0 x8_1).f1).length : Int) != 0) = false := bne_eq_false_iff_eq.mpr c11
                  clear c11
                  obtain rfl := Option.some.inj H
                  have p101 : 0 ≤ (x8_1 : Int) := of_decide_eq_true (by first | (with_reducible assumption) | assumption)
                  have q101 : x8_1 < (l0.length : Int) := of_decide_eq_true (by first | (with_reducible assumption) | assumption)
                  obtain ⟨ad101, A101_1, c101_1, e101, hx101_0, hx101_1, hl101_1, hi101_1⟩ := at_T143 HR0.out x8_1 p101 q101
                  cases e101
                  replace hx101_0 := (HB.out.cell (World.block_lt_of_cell? w _ hx101_0)).trans hx101_0
                  replace hx101_1 := (HB.out.cell (World.block_lt_of_cell? w _ hx101_1)).trans hx101_1
                  have HR101_1 := Aside0.mk hi101_1
                  have HC101_1 := Aside0.mk hl101_1
                  clear hi101_1 hl101_1
                  replace p101 := eq_true p101
                  replace q101 := eq_true q101
                  go_wp2_with (first | ((with_reducible refine gate_dst (N := 5) rfl ?_); (try (refine gate_guard (by rfl) ?_; dsimp only)); refine box_event ?hg (N := 5) ?hd (cs := #[.int .i64 0, .slice none 0 0]) (t := 143) ?hr ?_; (case hd => rfl); (case hg => rfl); (case hr => first | (go_simp; done) | (go_simp; rfl)); intro gb102 hg w12 hbox hb; have n0_ := Aside0.mk (below_step (by repeat (first | (with_reducible first | exact HB.out | apply below_alloc | apply pw_below_drewN | apply below_drew1) | exact HB.out)) hb); have n1_ := Aside0.mk (hbox); have n2_ := Aside0.mk ((by rw [hg]; exact (below_size (by repeat (first | (with_reducible first | exact HB.out | apply below_alloc | apply pw_below_drewN | apply below_drew1) | exact HB.out))) : w.heap.size ≤ gb102)); have n3_ := Aside0.mk ((by rw [hg]; exact (below_size (by repeat (first | (with_reducible first | exact HB.out | apply below_alloc | apply pw_below_drewN | apply below_drew1) | exact HB.out))) : w.heap.size ≤ gb102)); clear HB; have HB := n0_; have BK102 := n1_; have GW102 := n2_; have GE102 := n3_; clear n0_ n1_ n2_ n3_; clear hb hbox hg; have hcz13_0 : w12.cell? ⟨gb102, 0, none⟩ = some (.int .i64 0) := (blk_cell BK102.out 0).trans rfl; have hcz13_1 : w12.cell? ⟨gb102, 1, none⟩ = some (.slice none 0 0) := (blk_cell BK102.out 1).trans rfl; have hfz13_0 := blk_frozen BK102.out 0; have hfz13_1 := blk_frozen BK102.out 1))
                  go_ret
                  exact ⟨by first | rfl | (simp [errW_none, errW_some] <;> rfl) | (simp [*, errW_none, errW_some] <;> rfl), by repeat (first | (with_reducible first | exact HB.out | apply below_alloc | apply pw_below_drewN | apply below_drew1 | refine below_set ?_ GE102.out) | exact HB.out)⟩
                · rw [if_neg c11] at H
                  have c11b0 : ((((rd_T143 l0 x8_1).f1).length : Int) == 0) = false := beq_eq_false_iff_ne.mpr c11
                  have c11b1 : ((((rd_T143 l0 x8_1).f1).length : Int) != 0) = true := bne_iff_ne.mpr c11
                  have c11b2 : ¬ (((rd_T143 l0 x8_1).f1) = []) := fun h_ => c11 (by rw [h_]; rfl)
                  by_cases c14 : ((rd_T143 l0 x8_1).f0) = x3_1
                  · rw [if_pos c14] at H
                    have c14b0 : (((rd_T143 l0 x8_1).f0) == x3_1) = true := beq_iff_eq.mpr c14
                    have c14b1 : (((rd_T143 l0 x8_1).f0) != x3_1) = false := bne_eq_false_iff_eq.mpr c14
                    clear c14
                    obtain rfl := Option.some.inj H
                    have p101 : 0 ≤ (x8_1 : Int) := of_decide_eq_true (by first | (with_reducible assumption) | assumption)
                    have q101 : x8_1 < (l0.length : Int) := of_decide_eq_true (by first | (with_reducible assumption) | assumption)
                    obtain ⟨ad101, A101_1, c101_1, e101, hx101_0, hx101_1, hl101_1, hi101_1⟩ := at_T143 HR0.out x8_1 p101 q101
                    cases e101
                    replace hx101_0 := (HB.out.cell (World.block_lt_of_cell? w _ hx101_0)).trans hx101_0
                    replace hx101_1 := (HB.out.cell (World.block_lt_of_cell? w _ hx101_1)).trans hx101_1
                    have HR101_1 := Aside0.mk hi101_1
                    have HC101_1 := Aside0.mk hl101_1
                    clear hi101_1 hl101_1
                    replace p101 := eq_true p101
                    replace q101 := eq_true q101
                    go_wp2_with (first | ((with_reducible refine gate_dst (N := 5) rfl ?_); (try (refine gate_guard (by rfl) ?_; dsimp only)); refine box_event ?hg (N := 5) ?hd (cs := #[.int .i64 0, .slice none 0 0]) (t := 143) ?hr ?_; (case hd => rfl); (case hg => rfl); (case hr => first | (go_simp; done) | (go_simp; rfl)); intro gb102 hg w15 hbox hb; have n0_ := Aside0.mk (below_step (by repeat (first | (with_reducible first | exact HB.out | apply below_alloc | apply pw_below_drewN | apply below_drew1) | exact HB.out)) hb); have n1_ := Aside0.mk (hbox); have n2_ := Aside0.mk ((by rw [hg]; exact (below_size (by repeat (first | (with_reducible first | exact HB.out | apply below_alloc | apply pw_below_drewN | apply below_drew1) | exact HB.out))) : w.heap.size ≤ gb102)); have n3_ := Aside0.mk ((by rw [hg]; exact (below_size (by repeat (first | (with_reducible first | exact HB.out | apply below_alloc | apply pw_below_drewN | apply below_drew1) | exact HB.out))) : w.heap.size ≤ gb102)); clear HB; have HB := n0_; have BK102 := n1_; have GW102 := n2_; have GE102 := n3_; clear n0_ n1_ n2_ n3_; clear hb hbox hg; have hcz16_0 : w15.cell? ⟨gb102, 0, none⟩ = some (.int .i64 0) := (blk_cell BK102.out 0).trans rfl; have hcz16_1 : w15.cell? ⟨gb102, 1, none⟩ = some (.slice none 0 0) := (blk_cell BK102.out 1).trans rfl; have hfz16_0 := blk_frozen BK102.out 0; have hfz16_1 := blk_frozen BK102.out 1))
                    go_ret
                    exact ⟨by first | rfl | (simp [errW_none, errW_some] <;> rfl) | (simp [*, errW_none, errW_some] <;> rfl), by repeat (first | (with_reducible first | exact HB.out | apply below_alloc | apply pw_below_drewN | apply below_drew1 | refine below_set ?_ GE102.out) | exact HB.out)⟩
                  · rw [if_neg c14] at H
                    have c14b0 : (((rd_T143 l0 x8_1).f0) == x3_1) = false := beq_eq_false_iff_ne.mpr c14
                    have c14b1 : (((rd_T143 l0 x8_1).f0) != x3_1) = true := bne_iff_ne.mpr c14
                    by_cases c17 : x3_1 = 2
                    · rw [if_pos c17] at H
                      have c17b0 : (x3_1 == 2) = true := beq_iff_eq.mpr c17
                      have c17b1 : (x3_1 != 2) = false := bne_eq_false_iff_eq.mpr c17
                      clear c17
                      by_cases c18 : ((rd_T143 l0 x8_1).f0) = 1
                      · rw [if_pos c18] at H
                        have c18b0 : (((rd_T143 l0 x8_1).f0) == 1) = true := beq_iff_eq.mpr c18
                        have c18b1 : (((rd_T143 l0 x8_1).f0) != 1) = false := bne_eq_false_iff_eq.mpr c18
                        clear c18
                        obtain rfl := Option.some.inj H
                        have p101 : 0 ≤ (x8_1 : Int) := of_decide_eq_true (by first | (with_reducible assumption) | assumption)
                        have q101 : x8_1 < (l0.length : Int) := of_decide_eq_true (by first | (with_reducible assumption) | assumption)
                        obtain ⟨ad101, A101_1, c101_1, e101, hx101_0, hx101_1, hl101_1, hi101_1⟩ := at_T143 HR0.out x8_1 p101 q101
                        cases e101
                        replace hx101_0 := (HB.out.cell (World.block_lt_of_cell? w _ hx101_0)).trans hx101_0
                        replace hx101_1 := (HB.out.cell (World.block_lt_of_cell? w _ hx101_1)).trans hx101_1
                        have HR101_1 := Aside0.mk hi101_1
                        have HC101_1 := Aside0.mk hl101_1
                        clear hi101_1 hl101_1
                        replace p101 := eq_true p101
                        replace q101 := eq_true q101
                        go_wp2_with (first | ((with_reducible refine gate_dst (N := 5) rfl ?_); (try (refine gate_guard (by rfl) ?_; dsimp only)); refine box_event ?hg (N := 5) ?hd (cs := #[.int .i64 0, .slice none 0 0]) (t := 143) ?hr ?_; (case hd => rfl); (case hg => rfl); (case hr => first | (go_simp; done) | (go_simp; rfl)); intro gb102 hg w19 hbox hb; have n0_ := Aside0.mk (below_step (by repeat (first | (with_reducible first | exact HB.out | apply below_alloc | apply pw_below_drewN | apply below_drew1) | exact HB.out)) hb); have n1_ := Aside0.mk (hbox); have n2_ := Aside0.mk ((by rw [hg]; exact (below_size (by repeat (first | (with_reducible first | exact HB.out | apply below_alloc | apply pw_below_drewN | apply below_drew1) | exact HB.out))) : w.heap.size ≤ gb102)); have n3_ := Aside0.mk ((by rw [hg]; exact (below_size (by repeat (first | (with_reducible first | exact HB.out | apply below_alloc | apply pw_below_drewN | apply below_drew1) | exact HB.out))) : w.heap.size ≤ gb102)); clear HB; have HB := n0_; have BK102 := n1_; have GW102 := n2_; have GE102 := n3_; clear n0_ n1_ n2_ n3_; clear hb hbox hg; have hcz20_0 : w19.cell? ⟨gb102, 0, none⟩ = some (.int .i64 0) := (blk_cell BK102.out 0).trans rfl; have hcz20_1 : w19.cell? ⟨gb102, 1, none⟩ = some (.slice none 0 0) := (blk_cell BK102.out 1).trans rfl; have hfz20_0 := blk_frozen BK102.out 0; have hfz20_1 := blk_frozen BK102.out 1))
                        go_ret
                        exact ⟨by first | rfl | (simp [errW_none, errW_some] <;> rfl) | (simp [*, errW_none, errW_some] <;> rfl), by repeat (first | (with_reducible first | exact HB.out | apply below_alloc | apply pw_below_drewN | apply below_drew1 | refine below_set ?_ GE102.out) | exact HB.out)⟩
                      · rw [if_neg c18] at H
                        have c18b0 : (((rd_T143 l0 x8_1).f0) == 1) = false := beq_eq_false_iff_ne.mpr c18
                        have c18b1 : (((rd_T143 l0 x8_1).f0) != 1) = true := bne_iff_ne.mpr c18
                        have H' := Aside0.mk H
                        clear H
                        have p101 : 0 ≤ (x8_1 : Int) := of_decide_eq_true (by first | (with_reducible assumption) | assumption)
                        have q101 : x8_1 < (l0.length : Int) := of_decide_eq_true (by first | (with_reducible assumption) | assumption)
                        obtain ⟨ad101, A101_1, c101_1, e101, hx101_0, hx101_1, hl101_1, hi101_1⟩ := at_T143 HR0.out x8_1 p101 q101
                        cases e101
                        replace hx101_0 := (HB.out.cell (World.block_lt_of_cell? w _ hx101_0)).trans hx101_0
                        replace hx101_1 := (HB.out.cell (World.block_lt_of_cell? w _ hx101_1)).trans hx101_1
                        have HR101_1 := Aside0.mk hi101_1
                        have HC101_1 := Aside0.mk hl101_1
                        clear hi101_1 hl101_1
                        replace p101 := eq_true p101
                        replace q101 := eq_true q101
                        go_wp2_with (first | ((with_reducible refine gate_dst (N := 5) rfl ?_); (try (refine gate_guard (by rfl) ?_; dsimp only)); refine box_event ?hg (N := 5) ?hd (cs := #[.int .i64 0, .slice none 0 0]) (t := 143) ?hr ?_; (case hd => rfl); (case hg => rfl); (case hr => first | (go_simp; done) | (go_simp; rfl)); intro gb102 hg w21 hbox hb; have n0_ := Aside0.mk (below_step (by repeat (first | (with_reducible first | exact HB.out | apply below_alloc | apply pw_below_drewN | apply below_drew1) | exact HB.out)) hb); have n1_ := Aside0.mk (hbox); have n2_ := Aside0.mk ((by rw [hg]; exact (below_size (by repeat (first | (with_reducible first | exact HB.out | apply below_alloc | apply pw_below_drewN | apply below_drew1) | exact HB.out))) : w.heap.size ≤ gb102)); have n3_ := Aside0.mk ((by rw [hg]; exact (below_size (by repeat (first | (with_reducible first | exact HB.out | apply below_alloc | apply pw_below_drewN | apply below_drew1) | exact HB.out))) : w.heap.size ≤ gb102)); clear HB; have HB := n0_; have BK102 := n1_; have GW102 := n2_; have GE102 := n3_; clear n0_ n1_ n2_ n3_; clear hb hbox hg; have hcz22_0 : w21.cell? ⟨gb102, 0, none⟩ = some (.int .i64 0) := (blk_cell BK102.out 0).trans rfl; have hcz22_1 : w21.cell? ⟨gb102, 1, none⟩ = some (.slice none 0 0) := (blk_cell BK102.out 1).trans rfl; have hfz22_0 := blk_frozen BK102.out 0; have hfz22_1 := blk_frozen BK102.out 1))
                        go_roundg k1
                        case measure => have := HK1.out; omega
                        case rel => exact ⟨((rd_T143 l0 x8_1).f0), (wrap64 (x8_1 + 1)), (by first | rfl | (simp; done) | (simp [*]; done)), (by first | rfl | (simp; done) | (simp [*]; done)), H', ⟨by have := HK1.out; omega⟩, ⟨by repeat (first | (with_reducible first | exact HB.out | apply below_alloc | apply pw_below_drewN | apply below_drew1 | refine below_set ?_ GE102.out) | exact HB.out)⟩⟩
                    · rw [if_neg c17] at H
                      have c17b0 : (x3_1 == 2) = false := beq_eq_false_iff_ne.mpr c17
                      have c17b1 : (x3_1 != 2) = true := bne_iff_ne.mpr c17
                      have H' := Aside0.mk H
                      clear H
                      have p101 : 0 ≤ (x8_1 : Int) := of_decide_eq_true (by first | (with_reducible assumption) | assumption)
                      have q101 : x8_1 < (l0.length : Int) := of_decide_eq_true (by first | (with_reducible assumption) | assumption)
                      obtain ⟨ad101, A101_1, c101_1, e101, hx101_0, hx101_1, hl101_1, hi101_1⟩ := at_T143 HR0.out x8_1 p101 q101
                      cases e101
                      replace hx101_0 := (HB.out.cell (World.block_lt_of_cell? w _ hx101_0)).trans hx101_0
                      replace hx101_1 := (HB.out.cell (World.block_lt_of_cell? w _ hx101_1)).trans hx101_1
                      have HR101_1 := Aside0.mk hi101_1
                      have HC101_1 := Aside0.mk hl101_1
                      clear hi101_1 hl101_1
                      replace p101 := eq_true p101
                      replace q101 := eq_true q101
                      go_wp2_with (first | ((with_reducible refine gate_dst (N := 5) rfl ?_); (try (refine gate_guard (by rfl) ?_; dsimp only)); refine box_event ?hg (N := 5) ?hd (cs := #[.int .i64 0, .slice none 0 0]) (t := 143) ?hr ?_; (case hd => rfl); (case hg => rfl); (case hr => first | (go_simp; done) | (go_simp; rfl)); intro gb102 hg w23 hbox hb; have n0_ := Aside0.mk (below_step (by repeat (first | (with_reducible first | exact HB.out | apply below_alloc | apply pw_below_drewN | apply below_drew1) | exact HB.out)) hb); have n1_ := Aside0.mk (hbox); have n2_ := Aside0.mk ((by rw [hg]; exact (below_size (by repeat (first | (with_reducible first | exact HB.out | apply below_alloc | apply pw_below_drewN | apply below_drew1) | exact HB.out))) : w.heap.size ≤ gb102)); have n3_ := Aside0.mk ((by rw [hg]; exact (below_size (by repeat (first | (with_reducible first | exact HB.out | apply below_alloc | apply pw_below_drewN | apply below_drew1) | exact HB.out))) : w.heap.size ≤ gb102)); clear HB; have HB := n0_; have BK102 := n1_; have GW102 := n2_; have GE102 := n3_; clear n0_ n1_ n2_ n3_; clear hb hbox hg; have hcz24_0 : w23.cell? ⟨gb102, 0, none⟩ = some (.int .i64 0) := (blk_cell BK102.out 0).trans rfl; have hcz24_1 : w23.cell? ⟨gb102, 1, none⟩ = some (.slice none 0 0) := (blk_cell BK102.out 1).trans rfl; have hfz24_0 := blk_frozen BK102.out 0; have hfz24_1 := blk_frozen BK102.out 1))
                      go_roundg k1
                      case measure => have := HK1.out; omega
                      case rel => exact ⟨((rd_T143 l0 x8_1).f0), (wrap64 (x8_1 + 1)), (by first | rfl | (simp; done) | (simp [*]; done)), (by first | rfl | (simp; done) | (simp [*]; done)), H', ⟨by have := HK1.out; omega⟩, ⟨by repeat (first | (with_reducible first | exact HB.out | apply below_alloc | apply pw_below_drewN | apply below_drew1 | refine below_set ?_ GE102.out) | exact HB.out)⟩⟩
          · rw [if_neg c4] at H
            exact absurd H (by simp)
        · rw [if_neg c3] at H
          exact absurd H (by simp)
      · rw [if_neg c2] at H
        have c2b0 : decide (x8_1 < (l0.length : Int)) = false := decide_eq_false c2
        clear c2
        obtain rfl := Option.some.inj H
        go_wp2
        go_ret
        exact ⟨by first | rfl | (simp [errW_none, errW_some] <;> rfl) | (simp [*, errW_none, errW_some] <;> rfl), by repeat (first | (with_reducible first | exact HB.out | apply below_alloc | apply pw_below_drewN | apply below_drew1) | exact HB.out)⟩

end Go.Proofs.Ytadafplbgophfaa.PA
end
section
/- edit.Counts, walked by hand: how many texts are kept, dropped, added. -/
namespace Go.Proofs.Ytadafplbgophfaa.PA
set_option linter.unusedSimpArgs false
set_option linter.unusedVariables false
open Go.RowKit Go.Proofs.YtadafplbgophfaaW.PrintWords Go.Proofs.YtadafplbgophfaaW.PrintLast Go.Proofs.YtadafplbgophfaaW.PrintMore

def bump (p : Int × Int × Int) (s : S143) : Int × Int × Int :=
  if s.f0 = 0 then (wrap64 (p.1 + (s.f1.length : Int)), p.2.1, p.2.2) else if s.f0 = 1 then (p.1, wrap64 (p.2.1 + (s.f1.length : Int)), p.2.2) else if s.f0 = 2 then (p.1, p.2.1, wrap64 (p.2.2 + (s.f1.length : Int))) else p
def edit_Counts.f (_k : Nat) (l0 : List S143) : Option (Int × Int × Int) := some (l0.foldl bump (0, 0, 0))
theorem edit_Counts.mono : ∀ a0 k, LeO (edit_Counts.f k a0) (edit_Counts.f (k + 1) a0) := fun _ _ => LeO.refl _
theorem rdT143_nat {l : List S143} {i : Nat} (h : i < l.length) : rd_T143 l (i : Int) = l[i] := by simp [rd_T143, List.getD_eq_getElem?_getD, h]

def edit_Counts.T6 : Bool × List (List Nat × List Nat) := (true, [([], []), ([0], [0]), ([1], [1]), ([2], [2]), ([], []), ([4], [4]), ([5], [5]), ([3, 6], [3, 6]), ([1, 0, 1, 2, 3, 4, 5, 6, 7], [1]), ([8, 7, 0, 1, 2, 3, 4, 5, 6, 7], [7, 8])])
def edit_Counts.B6 : List Nat := [0, 1, 3, 7, 0, 16, 48, 127, 255, 511]
theorem edit_Counts.tab6 : rtab .any (opsOf Try.f41 6) = edit_Counts.T6 := by kernel_rfl
theorem edit_Counts.bits6 : waitsOk edit_Counts.T6.2 edit_Counts.B6 = true := by kernel_rfl
def edit_Counts.T8 : Bool × List (List Nat × List Nat) := (true, [([], []), ([0], [0]), ([], []), ([2], [2]), ([], []), ([4], [4]), ([1, 0, 1], [1]), ([3, 6, 0, 1, 2, 3, 6], [3]), ([5, 7, 0, 1, 2, 3, 4, 5, 6, 7], [5])])
def edit_Counts.B8 : List Nat := [0, 1, 0, 4, 0, 16, 3, 79, 255]
theorem edit_Counts.tab8 : rtab .any (opsOf Try.f41 8) = edit_Counts.T8 := by kernel_rfl
theorem edit_Counts.bits8 : waitsOk edit_Counts.T8.2 edit_Counts.B8 = true := by kernel_rfl
def nth3 (p : Int × Int × Int) (k : Int) : Int := if k = 0 then p.1 else if k = 1 then p.2.1 else p.2.2
theorem take_bump {l : List S143} {i : Nat} (h : i < l.length) : (l.take (i + 1)).foldl bump (0, 0, 0) = bump ((l.take i).foldl bump (0, 0, 0)) l[i] := by
  rw [List.take_succ_eq_append_getElem h, List.foldl_append]; rfl
theorem bump_out {s : S143} (p : Int × Int × Int) (h : ¬ (0 ≤ s.f0 ∧ s.f0 ≤ 2)) : bump p s = p := by
  unfold bump; rw [if_neg (by omega), if_neg (by omega), if_neg (by omega)]
theorem bump_cells {s : S143} (p : Int × Int × Int) (h : 0 ≤ s.f0 ∧ s.f0 ≤ 2) :
    (some (Obj.cells ((#[.int .i64 p.1, .int .i64 p.2.1, .int .i64 p.2.2] : Array Value).setIfInBounds s.f0.toNat (.int .i64 (wrap64 (nth3 p s.f0 + (s.f1.length : Int))))) 65 (0, 0)) : Option Obj) = some (Obj.cells #[.int .i64 (bump p s).1, .int .i64 (bump p s).2.1, .int .i64 (bump p s).2.2] 65 (0, 0)) := by
  unfold bump nth3
  rcases (show s.f0 = 0 ∨ s.f0 = 1 ∨ s.f0 = 2 by omega) with e | e | e <;> simp [e]
set_option maxHeartbeats 4000000 in
set_option maxRecDepth 100000 in
theorem edit_Counts.calls0 (k : Nat) (A0 : Option Addr) (c0 : Nat) (l0 : List S143) (r : Int × Int × Int) (w : World) (hr0 : Kd.C k143 w A0 l0.length l0) (hc0 : l0.length ≤ c0) (h : edit_Counts.f k l0 = some r) :
    Calls Try.prog 41 #[.slice A0 l0.length c0] w fun e w' => e = .returned (.tuple #[.int .i64 r.1, .int .i64 r.2.1, .int .i64 r.2.2]) ∧ Below w.heap.size w w' := by
  unfold edit_Counts.f at h
  simp only [Option.some.injEq] at h
  have hu143 := Try.underlying143
  have hu65 := Try.underlying65
  have HR0 := Aside0.mk hr0
  have HC0 := Aside0.mk hc0
  have HN : Aside0 (l0.length ≤ 9223372036854775807) := ⟨hr0.2.1⟩
  clear hr0 hc0
  have HV := Aside0.mk h
  clear h
  go_enter Try.func41, Try.ntmps41
  go_wp2
  go_loopw [10] (fun v10 wr => ∃ i : Nat, i ≤ l0.length ∧ v10 = .int .i64 (i : Int) ∧ Aside0 (Below w.heap.size w wr) ∧ Aside0 (wr.heap[w.heap.size]? = some (.cells #[.int .i64 ((l0.take i).foldl bump (0, 0, 0)).1, .int .i64 ((l0.take i).foldl bump (0, 0, 0)).2.1, .int .i64 ((l0.take i).foldl bump (0, 0, 0)).2.2] 65 (0, 0)))) (fun v10 _ => l0.length - (intOf v10).toNat)
  case atStart => exact ⟨0, Nat.zero_le _, rfl, ⟨below_alloc (Below.refl _ _) _⟩, ⟨blk_new w _⟩⟩
  case round =>
    obtain ⟨i, hi, rfl, HB, HK⟩ := hrel
    by_cases hlt : i < l0.length
    · have HWI : Aside0 (wrap64 ((i : Int) + 1) = ((i + 1 : Nat) : Int)) := ⟨by have := HN.out; unfold wrap64; omega⟩
      have p0 : (0 : Int) ≤ (i : Int) := by omega
      have q0 : (i : Int) < (l0.length : Int) := by omega
      obtain ⟨ad, A1, c1, eA, hx0, hx1, _, _⟩ := at_T143 HR0.out (i : Int) p0 q0
      cases eA
      replace hx0 := (HB.out.cell (World.block_lt_of_cell? w _ hx0)).trans hx0
      replace hx1 := (HB.out.cell (World.block_lt_of_cell? w _ hx1)).trans hx1
      rw [rdT143_nat hlt, Int.toNat_natCast] at hx0 hx1
      obtain ⟨s, hs⟩ : ∃ s, s = l0[i] := ⟨_, rfl⟩
      rw [← hs] at hx0 hx1
      have HS := Aside0.mk hs
      clear hs
      have hcut : decide ((i : Int) < (l0.length : Int)) = true := decide_eq_true q0
      by_cases hin : 0 ≤ s.f0 ∧ s.f0 ≤ 2
      · have i0 : decide (0 ≤ s.f0) = true := decide_eq_true hin.1
        have i2 : decide (s.f0 ≤ 2) = true := decide_eq_true hin.2
        have i3 : (0 ≤ s.f0) = True := eq_true hin.1
        have i4 : (s.f0 < 3) = True := eq_true (by omega)
        obtain ⟨nj, hnj, hnc⟩ : ∃ nj, (wr.alloc (.cells #[.int .i64 s.f0, .slice A1 s.f1.length c1] 143 (0, 0))).cell? ⟨w.heap.size, s.f0.toNat, none⟩ = some (.int .i64 nj) ∧ nj = nth3 ((l0.take i).foldl bump (0, 0, 0)) s.f0 := by
          have hb := blk_alloc HK.out (.cells #[.int .i64 s.f0, .slice A1 s.f1.length c1] 143 (0, 0))
          rcases (show s.f0 = 0 ∨ s.f0 = 1 ∨ s.f0 = 2 by omega) with e | e | e
          · rw [show s.f0.toNat = 0 by omega]; exact ⟨_, (blk_cell hb 0).trans (show _ = some _ from rfl), by unfold nth3; rw [e]; rfl⟩
          · rw [show s.f0.toNat = 1 by omega]; exact ⟨_, (blk_cell hb 1).trans (show _ = some _ from rfl), by unfold nth3; rw [e]; rfl⟩
          · rw [show s.f0.toNat = 2 by omega]; exact ⟨_, (blk_cell hb 2).trans (show _ = some _ from rfl), by unfold nth3; rw [e]; rfl⟩
        have hn0 := (blk_cell (blk_new wr (.cells #[.int .i64 s.f0, .slice A1 s.f1.length c1] 143 (0, 0))) 0).trans (show _ = some _ from rfl)
        have hn1 := (blk_cell (blk_new wr (.cells #[.int .i64 s.f0, .slice A1 s.f1.length c1] 143 (0, 0))) 1).trans (show _ = some _ from rfl)
        have hfz := blk_frozen (blk_alloc HK.out (.cells #[.int .i64 s.f0, .slice A1 s.f1.length c1] 143 (0, 0))) s.f0.toNat
        have HIN := Aside0.mk hin
        have HNC := Aside0.mk hnc
        clear hin hnc
        go_wp2_with fail
        refine start_ (n := 10) (S := fun w' => w'.cell? ⟨wr.heap.size, 0, none⟩ = some (.int .i64 s.f0) ∧ w'.cell? ⟨wr.heap.size, 1, none⟩ = some (.slice A1 s.f1.length c1) ∧ w'.cell? ⟨w.heap.size, s.f0.toNat, none⟩ = some (.int .i64 nj)) (ds := [9]) #[false, false, false, false, false, false, false, false, false, false] (by kernel_rfl) rfl rfl ⟨hn0, hn1, hnj⟩ (fun hHeld => ?_); refine with_tabW edit_Counts.tab6 edit_Counts.bits6 (fun HT_ HW_ => ?_)
        refine pure_ (i := 0) (N := some 22) (v := ?_) (a' := ?_) #[true, false, false, false, false, false, false, false, false, false] rfl rfl (any_of HT_.out (by kernel_rfl)) (fun _ _ _ h => h) (Or.inl ⟨by rfl, ?_⟩) ?_ ?_
        rotate_left
        · intro w'
          go_simp
          with_reducible rfl
        rotate_left
        · simp only [Act.put, List.setIfInBounds_toArray, List.set_cons_zero, List.set_cons_succ, i64_w, i32_w]
          rfl
        refine take_ (i := 1) (N := some 23) (v := ?_) (a' := ?_) #[true, true, false, false, false, false, false, false, false, false] rfl rfl (take_ofW HT_.out HW_.out (by kernel_rfl)) (fun _ _ _ h => h) (Or.inl ⟨by rfl, ?_⟩) hHeld ?_ ?_
        rotate_left
        · rintro w' ⟨s0, s1, s2⟩
          go_simp
          with_reducible rfl
        rotate_left
        · simp only [Act.put, List.setIfInBounds_toArray, List.set_cons_zero, List.set_cons_succ, i64_w, i32_w]
          rfl
        refine pure_ (i := 2) (N := some 24) (v := ?_) (a' := ?_) #[true, true, true, false, false, false, false, false, false, false] rfl rfl (any_of HT_.out (by kernel_rfl)) (fun _ _ _ h => h) (Or.inl ⟨by rfl, ?_⟩) ?_ ?_
        rotate_left
        · intro w'
          go_simp
          with_reducible rfl
        rotate_left
        · simp only [Act.put, List.setIfInBounds_toArray, List.set_cons_zero, List.set_cons_succ, i64_w, i32_w]
          rfl
        refine pure_ (i := 4) (N := some 26) (v := ?_) (a' := ?_) #[true, true, true, false, true, false, false, false, false, false] rfl rfl (any_of HT_.out (by kernel_rfl)) (fun _ _ _ h => h) (Or.inl ⟨by rfl, ?_⟩) ?_ ?_
        rotate_left
        · intro w'
          go_simp
          with_reducible rfl
        rotate_left
        · simp only [Act.put, List.setIfInBounds_toArray, List.set_cons_zero, List.set_cons_succ, i64_w, i32_w]
          rfl
        refine take_ (i := 3) (N := some 25) (v := ?_) (a' := ?_) #[true, true, true, true, true, false, false, false, false, false] rfl rfl (take_ofW HT_.out HW_.out (by kernel_rfl)) (fun _ _ _ h => h) (Or.inl ⟨by rfl, ?_⟩) hHeld ?_ ?_
        rotate_left
        · rintro w' ⟨s0, s1, s2⟩
          go_simp
          with_reducible rfl
        rotate_left
        · simp only [Act.put, List.setIfInBounds_toArray, List.set_cons_zero, List.set_cons_succ, i64_w, i32_w]
          rfl
        refine take_ (i := 5) (N := some 27) (v := ?_) (a' := ?_) #[true, true, true, true, true, true, false, false, false, false] rfl rfl (take_ofW HT_.out HW_.out (by kernel_rfl)) (fun _ _ _ h => h) (Or.inl ⟨by rfl, ?_⟩) hHeld ?_ ?_
        rotate_left
        · rintro w' ⟨s0, s1, s2⟩
          go_simp
          with_reducible rfl
        rotate_left
        · simp only [Act.put, List.setIfInBounds_toArray, List.set_cons_zero, List.set_cons_succ, i64_w, i32_w]
          rfl
        refine pure_ (i := 6) (N := some 28) (v := ?_) (a' := ?_) #[true, true, true, true, true, true, true, false, false, false] rfl rfl (any_of HT_.out (by kernel_rfl)) (fun _ _ _ h => h) (Or.inl ⟨by rfl, ?_⟩) ?_ ?_
        rotate_left
        · intro w'
          go_simp
          with_reducible rfl
        rotate_left
        · simp only [Act.put, List.setIfInBounds_toArray, List.set_cons_zero, List.set_cons_succ, i64_w, i32_w]
          rfl
        refine pure_ (i := 7) (N := some 29) (v := ?_) (a' := ?_) #[true, true, true, true, true, true, true, true, false, false] rfl rfl (any_of HT_.out (by kernel_rfl)) (fun _ _ _ h => h) (Or.inl ⟨by rfl, ?_⟩) ?_ ?_
        rotate_left
        · intro w'
          go_simp
          with_reducible rfl
        rotate_left
        · simp only [Act.put, List.setIfInBounds_toArray, List.set_cons_zero, List.set_cons_succ, i64_w, i32_w]
          rfl
        refine pure_ (i := 8) (N := some 30) (v := ?_) (a' := ?_) #[true, true, true, true, true, true, true, true, true, false] rfl rfl (any_of HT_.out (by kernel_rfl)) (fun _ _ _ h => h) (Or.inl ⟨by rfl, ?_⟩) ?_ ?_
        rotate_left
        · intro w'
          go_simp
          with_reducible rfl
        rotate_left
        · simp only [Act.put, List.setIfInBounds_toArray, List.set_cons_zero, List.set_cons_succ, i64_w, i32_w]
          rfl
        refine last_ (i := 9) (N := none) #[true, true, true, true, true, true, true, true, true, true] rfl rfl (one_of HT_.out (by kernel_rfl)) (by decide) (fun K hK => ?_)
        refine skip_ (w1 := ?_) (by rfl) rfl ?_ ?_
        rotate_left
        · go_simp
          rfl
        refine hK.out _ _ ?_
        clear hK K
        refine done_ (done_of HT_.out (by kernel_rfl)) ?_
        go_wp2
        go_roundw
        case rel => exact ⟨i + 1, hlt, by rw [HWI.out], ⟨below_drew1 ((below_alloc HB.out _).setCell (Nat.le_refl _) _)⟩, ⟨(blk_set (blk_alloc HK.out _) s.f0.toNat (.int .i64 (wrap64 (nj + (s.f1.length : Int))))).trans (by rw [HNC.out, take_bump hlt, ← HS.out, bump_cells _ HIN.out])⟩⟩
        case measure => rw [HWI.out]; simp only [intOf, Int.toNat_natCast]; omega
      · have hd : (decide (0 ≤ s.f0) && decide (s.f0 ≤ 2)) = false := by
          rw [Bool.and_eq_false_iff, decide_eq_false_iff_not, decide_eq_false_iff_not]; omega
        by_cases hin0 : 0 ≤ s.f0
        · have i0 : decide (0 ≤ s.f0) = true := decide_eq_true hin0
          have i2 : decide (s.f0 ≤ 2) = false := decide_eq_false (by omega)
          go_wp2
          go_roundw
          case rel => exact ⟨i + 1, hlt, by rw [HWI.out], ⟨below_alloc HB.out _⟩, ⟨(blk_alloc HK.out _).trans (by rw [take_bump hlt, ← HS.out, bump_out _ hin])⟩⟩
          case measure => rw [HWI.out]; simp only [intOf, Int.toNat_natCast]; omega
        · have i0 : decide (0 ≤ s.f0) = false := decide_eq_false hin0
          go_wp2
          go_roundw
          case rel => exact ⟨i + 1, hlt, by rw [HWI.out], ⟨below_alloc HB.out _⟩, ⟨(blk_alloc HK.out _).trans (by rw [take_bump hlt, ← HS.out, bump_out _ hin])⟩⟩
          case measure => rw [HWI.out]; simp only [intOf, Int.toNat_natCast]; omega
    · have hcut : decide ((i : Int) < (l0.length : Int)) = false := decide_eq_false (by omega)
      obtain rfl : i = l0.length := by omega
      have hk0 := (blk_cell HK.out 0).trans (show _ = some _ from rfl)
      have hk1 := (blk_cell HK.out 1).trans (show _ = some _ from rfl)
      have hk2 := (blk_cell HK.out 2).trans (show _ = some _ from rfl)
      go_wp2
      refine start_ (n := 9) (S := fun w' => w'.cell? ⟨w.heap.size, 0, none⟩ = some (.int .i64 ((l0.take l0.length).foldl bump (0, 0, 0)).1) ∧ w'.cell? ⟨w.heap.size, 1, none⟩ = some (.int .i64 ((l0.take l0.length).foldl bump (0, 0, 0)).2.1) ∧ w'.cell? ⟨w.heap.size, 2, none⟩ = some (.int .i64 ((l0.take l0.length).foldl bump (0, 0, 0)).2.2)) (ds := []) #[false, false, false, false, false, false, false, false, false] (by kernel_rfl) rfl rfl ⟨hk0, hk1, hk2⟩ (fun hHeld => ?_); refine with_tabW edit_Counts.tab8 edit_Counts.bits8 (fun HT_ HW_ => ?_)
      refine pure_ (i := 0) (N := some 32) (v := ?_) (a' := ?_) #[true, false, false, false, false, false, false, false, false] rfl rfl (any_of HT_.out (by kernel_rfl)) (fun _ _ _ h => h) (Or.inl ⟨by rfl, ?_⟩) ?_ ?_
      rotate_left
      · intro w'
        go_simp
        with_reducible rfl
      rotate_left
      · simp only [Act.put, List.setIfInBounds_toArray, List.set_cons_zero, List.set_cons_succ, i64_w, i32_w]
        rfl
      refine pure_ (i := 2) (N := some 34) (v := ?_) (a' := ?_) #[true, false, true, false, false, false, false, false, false] rfl rfl (any_of HT_.out (by kernel_rfl)) (fun _ _ _ h => h) (Or.inl ⟨by rfl, ?_⟩) ?_ ?_
      rotate_left
      · intro w'
        go_simp
        with_reducible rfl
      rotate_left
      · simp only [Act.put, List.setIfInBounds_toArray, List.set_cons_zero, List.set_cons_succ, i64_w, i32_w]
        rfl
      refine pure_ (i := 4) (N := some 36) (v := ?_) (a' := ?_) #[true, false, true, false, true, false, false, false, false] rfl rfl (any_of HT_.out (by kernel_rfl)) (fun _ _ _ h => h) (Or.inl ⟨by rfl, ?_⟩) ?_ ?_
      rotate_left
      · intro w'
        go_simp
        with_reducible rfl
      rotate_left
      · simp only [Act.put, List.setIfInBounds_toArray, List.set_cons_zero, List.set_cons_succ, i64_w, i32_w]
        rfl
      refine take_ (i := 1) (N := some 33) (v := ?_) (a' := ?_) #[true, true, true, false, true, false, false, false, false] rfl rfl (take_ofW HT_.out HW_.out (by kernel_rfl)) (fun _ _ _ h => h) (Or.inl ⟨by rfl, ?_⟩) hHeld ?_ ?_
      rotate_left
      · rintro w' ⟨s0, s1, s2⟩
        go_simp
        with_reducible rfl
      rotate_left
      · simp only [Act.put, List.setIfInBounds_toArray, List.set_cons_zero, List.set_cons_succ, i64_w, i32_w]
        rfl
      refine take_ (i := 3) (N := some 35) (v := ?_) (a' := ?_) #[true, true, true, true, true, false, false, false, false] rfl rfl (take_ofW HT_.out HW_.out (by kernel_rfl)) (fun _ _ _ h => h) (Or.inl ⟨by rfl, ?_⟩) hHeld ?_ ?_
      rotate_left
      · rintro w' ⟨s0, s1, s2⟩
        go_simp
        with_reducible rfl
      rotate_left
      · simp only [Act.put, List.setIfInBounds_toArray, List.set_cons_zero, List.set_cons_succ, i64_w, i32_w]
        rfl
      refine take_ (i := 5) (N := some 37) (v := ?_) (a' := ?_) #[true, true, true, true, true, true, false, false, false] rfl rfl (take_ofW HT_.out HW_.out (by kernel_rfl)) (fun _ _ _ h => h) (Or.inl ⟨by rfl, ?_⟩) hHeld ?_ ?_
      rotate_left
      · rintro w' ⟨s0, s1, s2⟩
        go_simp
        with_reducible rfl
      rotate_left
      · simp only [Act.put, List.setIfInBounds_toArray, List.set_cons_zero, List.set_cons_succ, i64_w, i32_w]
        rfl
      refine pure_ (i := 6) (N := some 2) (v := ?_) (a' := ?_) #[true, true, true, true, true, true, true, false, false] rfl rfl (any_of HT_.out (by kernel_rfl)) (fun _ _ _ h => h) (Or.inl ⟨by rfl, ?_⟩) ?_ ?_
      rotate_left
      · intro w'
        go_simp
        with_reducible rfl
      rotate_left
      · simp only [Act.put, List.setIfInBounds_toArray, List.set_cons_zero, List.set_cons_succ, i64_w, i32_w]
        rfl
      refine pure_ (i := 7) (N := some 3) (v := ?_) (a' := ?_) #[true, true, true, true, true, true, true, true, false] rfl rfl (any_of HT_.out (by kernel_rfl)) (fun _ _ _ h => h) (Or.inl ⟨by rfl, ?_⟩) ?_ ?_
      rotate_left
      · intro w'
        go_simp
        with_reducible rfl
      rotate_left
      · simp only [Act.put, List.setIfInBounds_toArray, List.set_cons_zero, List.set_cons_succ, i64_w, i32_w]
        rfl
      refine pure_ (i := 8) (N := some 4) (v := ?_) (a' := ?_) #[true, true, true, true, true, true, true, true, true] rfl rfl (any_of HT_.out (by kernel_rfl)) (fun _ _ _ h => h) (Or.inl ⟨by rfl, ?_⟩) ?_ ?_
      rotate_left
      · intro w'
        go_simp
        with_reducible rfl
      rotate_left
      · simp only [Act.put, List.setIfInBounds_toArray, List.set_cons_zero, List.set_cons_succ, i64_w, i32_w]
        rfl
      refine done_ (done_of HT_.out (by kernel_rfl)) ?_
      go_wp2
      go_ret3
      rw [← HV.out]
      exact ⟨rfl, below_drew1 HB.out⟩
theorem edit_Counts.calls (k : Nat) (A0 : Option Addr) (c0 : Nat) (l0 : List S143) (r1 r2 r3 : Int) (w : World) (hr0 : Kd.C k143 w A0 l0.length l0) (hc0 : l0.length ≤ c0) (h : edit_Counts.f k l0 = some (r1, r2, r3)) :
    Calls Try.prog 41 #[.slice A0 l0.length c0] w fun e w' => e = .returned (.tuple #[.int .i64 r1, .int .i64 r2, .int .i64 r3]) ∧ Below w.heap.size w w' := edit_Counts.calls0 k A0 c0 l0 (r1, r2, r3) w hr0 hc0 h
end Go.Proofs.Ytadafplbgophfaa.PA
end
section
-- Written by a program of this seat out of the translation. Not trusted: Lean checks it.
namespace Go.Proofs.Ytadafplbgophfaa.PA
open Go.RowKit Go.Proofs.YtadafplbgophfaaW.PrintWords Go.Proofs.YtadafplbgophfaaW.PrintLast Go.Proofs.YtadafplbgophfaaW.PrintMore
attribute [local go_sem] max2_int min2_int max_two min_two max_three min_three max_four min_four   -- for this text's walks alone
set_option linter.unusedVariables false
set_option linter.unusedSimpArgs false

/-! ### tripartitelaw04_told: function 36 -/
def tripartitelaw04_told.j0 : Nat → List (S143) → Bool → Option (Bool)
  | 0, _, _ => none
  | k + 1, x1, x52 => if x52 = true then (some false) else ((edit_Apply.f k x1 (([(⟨#[97]⟩ : ByteArray), (⟨#[98]⟩ : ByteArray)] : List ByteArray))).bind fun bt124 => ((edit_Counts.f k x1).bind fun bt128 => (if bt124.2 = 0 then (if (bt124.1.length : Int) = 2 then (if 1 < (bt124.1.length : Int) then (if (rdOf ByteArray.empty bt124.1 1).toList = ([99] : List UInt8) then (if bt128.1 = 1 then (if bt128.2.1 = 1 then (if bt128.2.2 = 1 then ((edit_Right.f k x1).bind fun t132 => (some t132)) else (some false)) else (some false)) else (some false)) else (some false)) else (none)) else (some false)) else (some false))))
def tripartitelaw04_told.f (k : Nat)  : Option (Bool) := (tripartitelaw03_To.f k (([(⟨1, 0⟩ : S37)] : List (S37)))).bind fun t110 => ((edit_Of.f k (([(⟨#[97]⟩ : ByteArray), (⟨#[98]⟩ : ByteArray)] : List ByteArray)) (([(⟨#[98]⟩ : ByteArray), (⟨#[99]⟩ : ByteArray)] : List ByteArray)) t110).bind fun bt113 => (if bt113.2 = 0 then (if (bt113.1.length : Int) = 3 then (if 0 < (bt113.1.length : Int) then (if ((rd_T143 bt113.1 0).f0) = 1 then (if 1 < (bt113.1.length : Int) then (if ((rd_T143 bt113.1 1).f0) = 0 then (if 2 < (bt113.1.length : Int) then (if ((rd_T143 bt113.1 2).f0) = 2 then (tripartitelaw04_told.j0 k bt113.1 ((((rd_T143 bt113.1 0).f1).length : Int) != 1)) else (tripartitelaw04_told.j0 k bt113.1 true)) else (none)) else (tripartitelaw04_told.j0 k bt113.1 true)) else (none)) else (tripartitelaw04_told.j0 k bt113.1 true)) else (none)) else (tripartitelaw04_told.j0 k bt113.1 true)) else (tripartitelaw04_told.j0 k bt113.1 true)))
theorem tripartitelaw04_told.mono_l : ∀ k, (∀ y0 y1, LeO (tripartitelaw04_told.j0 k y0 y1) (tripartitelaw04_told.j0 (k + 1) y0 y1))
  | 0 => fun _ _ r h => by simp [tripartitelaw04_told.j0] at h
  | k + 1 => by
    have ih0 := tripartitelaw04_told.mono_l k
    · intro y0 y1
      unfold tripartitelaw04_told.j0
      repeat' first
      | (with_reducible exact ih0 _ _)
      | (with_reducible exact edit_Apply.mono _ _ _)
      | (with_reducible exact edit_Counts.mono _ _)
      | (with_reducible exact edit_Of.mono _ _ _ _)
      | (with_reducible exact edit_Right.mono _ _)
      | (with_reducible exact tripartitelaw03_To.mono _ _)
      | (with_reducible exact LeO.refl _)
      | (with_reducible exact LeO.none _)
      | (with_reducible refine LeO.ite ?_ ?_)
      | (with_reducible refine LeO.bind ?_ (fun _ => ?_))
      | exact ih0 _ _
      | exact edit_Apply.mono _ _ _
      | exact edit_Counts.mono _ _
      | exact edit_Of.mono _ _ _ _
      | exact edit_Right.mono _ _
      | exact tripartitelaw03_To.mono _ _
      | exact LeO.none _
      | refine LeO.ite ?_ ?_
      | refine LeO.bind ?_ (fun _ => ?_)
theorem tripartitelaw04_told.mono : ∀ k, LeO (tripartitelaw04_told.f k ) (tripartitelaw04_told.f (k + 1) ) := by
  intro  k
  have ih0 := tripartitelaw04_told.mono_l k
  unfold tripartitelaw04_told.f
  repeat' first
      | (with_reducible exact ih0 _ _)
      | (with_reducible exact edit_Apply.mono _ _ _)
      | (with_reducible exact edit_Counts.mono _ _)
      | (with_reducible exact edit_Of.mono _ _ _ _)
      | (with_reducible exact edit_Right.mono _ _)
      | (with_reducible exact tripartitelaw03_To.mono _ _)
      | (with_reducible exact LeO.refl _)
      | (with_reducible exact LeO.none _)
      | (with_reducible refine LeO.ite ?_ ?_)
      | (with_reducible refine LeO.bind ?_ (fun _ => ?_))
      | exact ih0 _ _
      | exact edit_Apply.mono _ _ _
      | exact edit_Counts.mono _ _
      | exact edit_Of.mono _ _ _ _
      | exact edit_Right.mono _ _
      | exact tripartitelaw03_To.mono _ _
      | exact LeO.none _
      | refine LeO.ite ?_ ?_
      | refine LeO.bind ?_ (fun _ => ?_)
set_option maxHeartbeats 8000000 in
set_option maxRecDepth 100000 in
theorem tripartitelaw04_told.calls (k : Nat)  (r : Bool) (w : World) (h : tripartitelaw04_told.f k  = some r) :
    Calls Try.prog 36 #[] w fun e w' => e = .returned (.bool r) ∧ Below w.heap.size w w' := by
  have hu37 := Try.underlying37
  have HB := Aside0.mk (Below.refl w.heap.size w)
  have H : ((tripartitelaw03_To.f k (([(⟨1, 0⟩ : S37)] : List (S37)))).bind fun t110 => ((edit_Of.f k (([(⟨#[97]⟩ : ByteArray), (⟨#[98]⟩ : ByteArray)] : List ByteArray)) (([(⟨#[98]⟩ : ByteArray), (⟨#[99]⟩ : ByteArray)] : List ByteArray)) t110).bind fun bt113 => (if bt113.2 = 0 then (if (bt113.1.length : Int) = 3 then (if 0 < (bt113.1.length : Int) then (if ((rd_T143 bt113.1 0).f0) = 1 then (if 1 < (bt113.1.length : Int) then (if ((rd_T143 bt113.1 1).f0) = 0 then (if 2 < (bt113.1.length : Int) then (if ((rd_T143 bt113.1 2).f0) = 2 then (tripartitelaw04_told.j0 k bt113.1 ((((rd_T143 bt113.1 0).f1).length : Int) != 1)) else (tripartitelaw04_told.j0 k bt113.1 true)) else (none)) else (tripartitelaw04_told.j0 k bt113.1 true)) else (none)) else (tripartitelaw04_told.j0 k bt113.1 true)) else (none)) else (tripartitelaw04_told.j0 k bt113.1 true)) else (tripartitelaw04_told.j0 k bt113.1 true)))) = some r := h
  clear h
  obtain ⟨y101, hy101⟩ : ∃ y_ : List ByteArray, y_ = (([(⟨#[97]⟩ : ByteArray), (⟨#[98]⟩ : ByteArray)] : List ByteArray)) := ⟨_, rfl⟩
  replace H : ((tripartitelaw03_To.f k (([(⟨1, 0⟩ : S37)] : List (S37)))).bind fun t110 => ((edit_Of.f k y101 (([(⟨#[98]⟩ : ByteArray), (⟨#[99]⟩ : ByteArray)] : List ByteArray)) t110).bind fun bt113 => (if bt113.2 = 0 then (if (bt113.1.length : Int) = 3 then (if 0 < (bt113.1.length : Int) then (if ((rd_T143 bt113.1 0).f0) = 1 then (if 1 < (bt113.1.length : Int) then (if ((rd_T143 bt113.1 1).f0) = 0 then (if 2 < (bt113.1.length : Int) then (if ((rd_T143 bt113.1 2).f0) = 2 then (tripartitelaw04_told.j0 k bt113.1 ((((rd_T143 bt113.1 0).f1).length : Int) != 1)) else (tripartitelaw04_told.j0 k bt113.1 true)) else (none)) else (tripartitelaw04_told.j0 k bt113.1 true)) else (none)) else (tripartitelaw04_told.j0 k bt113.1 true)) else (none)) else (tripartitelaw04_told.j0 k bt113.1 true)) else (tripartitelaw04_told.j0 k bt113.1 true)))) = some r := by first | (rw [hy101]; with_reducible exact H) | (have H2_ := (Option.bind_some _ _).symm.trans H; rw [hy101]; with_reducible exact H2_) | (have H2_ := (Option.bind_some _ _).symm.trans H; with_reducible exact H2_) | with_reducible exact H | (rw [hy101]; exact H) | exact H
  have Ny101 := Aside0.mk hy101
  clear hy101
  obtain ⟨y104, hy104⟩ : ∃ y_ : List ByteArray, y_ = (([(⟨#[98]⟩ : ByteArray), (⟨#[99]⟩ : ByteArray)] : List ByteArray)) := ⟨_, rfl⟩
  replace H : ((tripartitelaw03_To.f k (([(⟨1, 0⟩ : S37)] : List (S37)))).bind fun t110 => ((edit_Of.f k y101 y104 t110).bind fun bt113 => (if bt113.2 = 0 then (if (bt113.1.length : Int) = 3 then (if 0 < (bt113.1.length : Int) then (if ((rd_T143 bt113.1 0).f0) = 1 then (if 1 < (bt113.1.length : Int) then (if ((rd_T143 bt113.1 1).f0) = 0 then (if 2 < (bt113.1.length : Int) then (if ((rd_T143 bt113.1 2).f0) = 2 then (tripartitelaw04_told.j0 k bt113.1 ((((rd_T143 bt113.1 0).f1).length : Int) != 1)) else (tripartitelaw04_told.j0 k bt113.1 true)) else (none)) else (tripartitelaw04_told.j0 k bt113.1 true)) else (none)) else (tripartitelaw04_told.j0 k bt113.1 true)) else (none)) else (tripartitelaw04_told.j0 k bt113.1 true)) else (tripartitelaw04_told.j0 k bt113.1 true)))) = some r := by first | (rw [hy104]; with_reducible exact H) | (have H2_ := (Option.bind_some _ _).symm.trans H; rw [hy104]; with_reducible exact H2_) | (have H2_ := (Option.bind_some _ _).symm.trans H; with_reducible exact H2_) | with_reducible exact H | (rw [hy104]; exact H) | exact H
  have Ny104 := Aside0.mk hy104
  clear hy104
  obtain ⟨y107, hy107⟩ : ∃ y_ : List (S37), y_ = (([(⟨1, 0⟩ : S37)] : List (S37))) := ⟨_, rfl⟩
  replace H : ((tripartitelaw03_To.f k y107).bind fun t110 => ((edit_Of.f k y101 y104 t110).bind fun bt113 => (if bt113.2 = 0 then (if (bt113.1.length : Int) = 3 then (if 0 < (bt113.1.length : Int) then (if ((rd_T143 bt113.1 0).f0) = 1 then (if 1 < (bt113.1.length : Int) then (if ((rd_T143 bt113.1 1).f0) = 0 then (if 2 < (bt113.1.length : Int) then (if ((rd_T143 bt113.1 2).f0) = 2 then (tripartitelaw04_told.j0 k bt113.1 ((((rd_T143 bt113.1 0).f1).length : Int) != 1)) else (tripartitelaw04_told.j0 k bt113.1 true)) else (none)) else (tripartitelaw04_told.j0 k bt113.1 true)) else (none)) else (tripartitelaw04_told.j0 k bt113.1 true)) else (none)) else (tripartitelaw04_told.j0 k bt113.1 true)) else (tripartitelaw04_told.j0 k bt113.1 true)))) = some r := by first | (rw [hy107]; with_reducible exact H) | (have H2_ := (Option.bind_some _ _).symm.trans H; rw [hy107]; with_reducible exact H2_) | (have H2_ := (Option.bind_some _ _).symm.trans H; with_reducible exact H2_) | with_reducible exact H | (rw [hy107]; exact H) | exact H
  have Ny107 := Aside0.mk hy107
  clear hy107
  replace H := Option.bind_eq_some_iff.mp H
  obtain ⟨t110, A10, H⟩ := H
  replace H : ((edit_Of.f k y101 y104 t110).bind fun bt113 => (if bt113.2 = 0 then (if (bt113.1.length : Int) = 3 then (if 0 < (bt113.1.length : Int) then (if ((rd_T143 bt113.1 0).f0) = 1 then (if 1 < (bt113.1.length : Int) then (if ((rd_T143 bt113.1 1).f0) = 0 then (if 2 < (bt113.1.length : Int) then (if ((rd_T143 bt113.1 2).f0) = 2 then (tripartitelaw04_told.j0 k bt113.1 ((((rd_T143 bt113.1 0).f1).length : Int) != 1)) else (tripartitelaw04_told.j0 k bt113.1 true)) else (none)) else (tripartitelaw04_told.j0 k bt113.1 true)) else (none)) else (tripartitelaw04_told.j0 k bt113.1 true)) else (none)) else (tripartitelaw04_told.j0 k bt113.1 true)) else (tripartitelaw04_told.j0 k bt113.1 true))) = some r := H
  have A1 := Aside0.mk A10
  clear A10
  replace H := Option.bind_eq_some_iff.mp H
  obtain ⟨⟨t113, t114⟩, A20, H⟩ := H
  replace H : (if t114 = 0 then (if (t113.length : Int) = 3 then (if 0 < (t113.length : Int) then (if ((rd_T143 t113 0).f0) = 1 then (if 1 < (t113.length : Int) then (if ((rd_T143 t113 1).f0) = 0 then (if 2 < (t113.length : Int) then (if ((rd_T143 t113 2).f0) = 2 then (tripartitelaw04_told.j0 k t113 ((((rd_T143 t113 0).f1).length : Int) != 1)) else (tripartitelaw04_told.j0 k t113 true)) else (none)) else (tripartitelaw04_told.j0 k t113 true)) else (none)) else (tripartitelaw04_told.j0 k t113 true)) else (none)) else (tripartitelaw04_told.j0 k t113 true)) else (tripartitelaw04_told.j0 k t113 true)) = some r := H
  have A2 := Aside0.mk A20
  clear A20
  have HC3 := Aside0.mk H
  clear H
  go_enter Try.func36, Try.ntmps36
  go_upto_region 2 with (first | ((with_reducible refine gate_dst (N := 9) rfl ?_); (try (refine gate_guard (by rfl) ?_; dsimp only)); refine Kd.R_lit Kd.string _ 9 ?hg (N := 9) ?hd (xs := ([(⟨#[97]⟩ : ByteArray), (⟨#[98]⟩ : ByteArray)] : List ByteArray)) (inner := [.string (⟨#[97]⟩ : ByteArray), .string (⟨#[98]⟩ : ByteArray)]) (ok := fun _ => True) (okp := fun _ => True) ?hr ?hp (fun _ hk => hk) trivial (Below.refl _ _) (Nat.le_refl _) (by simp) ?_; (case hd => rfl); (case hg => rfl); (case hr => first | (go_simp; done) | (go_simp; rfl)); (case hp => exact (Reps.one (show Kd.M Kd.string _ _ _ (⟨#[97]⟩ : ByteArray) [.string (⟨#[97]⟩ : ByteArray)] from rfl) (Reps.one (show Kd.M Kd.string _ _ _ (⟨#[98]⟩ : ByteArray) [.string (⟨#[98]⟩ : ByteArray)] from rfl) (Reps.none _ _)))); intro v102 w4 ho5 hb hg_ hnew_; clear hg_ hnew_; (first | rw [← Ny101.out] at ho5 | (simp only [Int.reduceToNat] at ho5; rw [← Ny101.out] at ho5)); have n0_ := Aside0.mk (Kd.R_lower ho5 (below_size (by repeat (first | (with_reducible first | exact HB.out | apply below_alloc | apply pw_below_drewN | apply below_drew1) | exact HB.out)))); have n1_ := Aside0.mk (below_step (by repeat (first | (with_reducible first | exact HB.out | apply below_alloc | apply pw_below_drewN | apply below_drew1) | exact HB.out)) hb); clear HB; have HO103 := n0_; have HB := n1_; clear n0_ n1_; clear hb ho5) | ((with_reducible refine gate_dst (N := 10) rfl ?_); (try (refine gate_guard (by rfl) ?_; dsimp only)); refine Kd.R_lit Kd.string _ 9 ?hg (N := 10) ?hd (xs := ([(⟨#[98]⟩ : ByteArray), (⟨#[99]⟩ : ByteArray)] : List ByteArray)) (inner := [.string (⟨#[98]⟩ : ByteArray), .string (⟨#[99]⟩ : ByteArray)]) (ok := fun _ => True) (okp := fun _ => True) ?hr ?hp (fun _ hk => hk) trivial (Below.refl _ _) (Nat.le_refl _) (by simp) ?_; (case hd => rfl); (case hg => rfl); (case hr => first | (go_simp; done) | (go_simp; rfl)); (case hp => exact (Reps.one (show Kd.M Kd.string _ _ _ (⟨#[98]⟩ : ByteArray) [.string (⟨#[98]⟩ : ByteArray)] from rfl) (Reps.one (show Kd.M Kd.string _ _ _ (⟨#[99]⟩ : ByteArray) [.string (⟨#[99]⟩ : ByteArray)] from rfl) (Reps.none _ _)))); intro v105 w6 ho7 hb hg_ hnew_; clear hg_ hnew_; (first | rw [← Ny104.out] at ho7 | (simp only [Int.reduceToNat] at ho7; rw [← Ny104.out] at ho7)); have n0_ := Aside0.mk (Kd.R_elder' (by (with_reducible repeat (first | apply Kd.R_alloc | apply Kd.R_drewN | apply Kd.R_drew)); exact HO103.out) (Kd.R_base ho7) hb); have n1_ := Aside0.mk (Kd.R_lower (Kd.R_new' ho7 (Kd.R_lt (by (with_reducible repeat (first | apply Kd.R_alloc | apply Kd.R_drewN | apply Kd.R_drew)); exact HO103.out))) (below_size (by repeat (first | (with_reducible first | exact HB.out | apply below_alloc | apply pw_below_drewN | apply below_drew1) | exact HB.out)))); have n2_ := Aside0.mk (below_step (by repeat (first | (with_reducible first | exact HB.out | apply below_alloc | apply pw_below_drewN | apply below_drew1) | exact HB.out)) hb); clear HO103; clear HB; have HO103 := n0_; have HO106 := n1_; have HB := n2_; clear n0_ n1_ n2_; clear hb ho7) | ((with_reducible refine gate_dst (N := 12) rfl ?_); (try (refine gate_guard (by rfl) ?_; dsimp only)); refine Kd.R_lit k37 _ 37 ?hg (N := 12) ?hd (xs := ([(⟨1, 0⟩ : S37)] : List (S37))) (inner := [.int .i64 1, .int .i64 0]) (ok := fun _ => True) (okp := fun _ => True) ?hr ?hp (fun _ hk => hk) trivial (Below.refl _ _) (Nat.le_refl _) (by simp) ?_; (case hd => rfl); (case hg => rfl); (case hr => first | (go_simp; done) | (go_simp; rfl)); (case hp => exact (Reps.c2 (show Kd.M k37 _ _ _ (⟨1, 0⟩ : S37) [.int .i64 1, .int .i64 0] from (k37_mkM _ _ _ (⟨1, 0⟩ : S37) )) (Reps.none _ _))); intro v108 w8 ho9 hb hg_ hnew_; clear hg_ hnew_; (first | rw [← Ny107.out] at ho9 | (simp only [Int.reduceToNat] at ho9; rw [← Ny107.out] at ho9)); have n0_ := Aside0.mk (Kd.R_below (by (with_reducible repeat (first | apply Kd.R_alloc | apply Kd.R_drewN | apply Kd.R_drew)); exact HO103.out) hb); have n1_ := Aside0.mk (Kd.R_below (by (with_reducible repeat (first | apply Kd.R_alloc | apply Kd.R_drewN | apply Kd.R_drew)); exact HO106.out) hb); have n2_ := Aside0.mk (Kd.R_lower ho9 (below_size (by repeat (first | (with_reducible first | exact HB.out | apply below_alloc | apply pw_below_drewN | apply below_drew1) | exact HB.out)))); have n3_ := Aside0.mk (below_step (by repeat (first | (with_reducible first | exact HB.out | apply below_alloc | apply pw_below_drewN | apply below_drew1) | exact HB.out)) hb); clear HO103; clear HO106; clear HB; have HO103 := n0_; have HO106 := n1_; have HO109 := n2_; have HB := n3_; clear n0_ n1_ n2_ n3_; clear hb ho9; obtain ⟨Ao10, co10, eo10⟩ := Kd.R_slice HO109.out; subst eo10) | ((with_reducible refine gate_callee (f := 32) rfl ?_); refine goesL_ (some 13) rfl rfl Try.func32 (by kernel_rfl) rfl #[.slice Ao10 y107.length co10] rfl (by (try simp only [List.map_toArray, List.map_cons, List.map_nil]); first | done | rfl | (simp only [List.length_drop, List.length_take]; rfl)) ?_; (with_reducible refine (tripartitelaw03_To.calls k _ _ y107 t110 _ ?side1 ?side2 A1.out).mono ?_); (case side1 => repeat (first | exact (Kd.R_reads' HO109.out).2.2 | (with_reducible refine Kd.C_alloc ?_ _) | (with_reducible refine Kd.C_drewN ?_ _) | (with_reducible refine Kd.C_drew ?_))); (case side2 => exact (Kd.R_reads' HO109.out).2.1); rintro e w11 ⟨v111, rfl, ho0, hb⟩; refine ⟨_, rfl, ?_⟩; have n0_ := Aside0.mk (Kd.R_below (by (with_reducible repeat (first | apply Kd.R_alloc | apply Kd.R_drewN | apply Kd.R_drew)); exact HO103.out) hb); have n1_ := Aside0.mk (Kd.R_below (by (with_reducible repeat (first | apply Kd.R_alloc | apply Kd.R_drewN | apply Kd.R_drew)); exact HO106.out) hb); have n2_ := Aside0.mk (Kd.R_below (by (with_reducible repeat (first | apply Kd.R_alloc | apply Kd.R_drewN | apply Kd.R_drew)); exact HO109.out) hb); have n3_ := Aside0.mk (Kd.R_lower ho0 (below_size (by repeat (first | (with_reducible first | exact HB.out | apply below_alloc | apply pw_below_drewN | apply below_drew1) | exact HB.out)))); have n4_ := Aside0.mk (below_step (by repeat (first | (with_reducible first | exact HB.out | apply below_alloc | apply pw_below_drewN | apply below_drew1) | exact HB.out)) hb); clear HO103; clear HO106; clear HO109; clear HB; have HO103 := n0_; have HO106 := n1_; have HO109 := n2_; have HO112 := n3_; have HB := n4_; clear n0_ n1_ n2_ n3_ n4_; (try clear hb); (try clear hb2); (try clear hk); (try clear hi); (try clear ho0); obtain ⟨Ao12, co12, eo12⟩ := Kd.R_slice HO103.out; subst eo12; obtain ⟨Ao13, co13, eo13⟩ := Kd.R_slice HO106.out; subst eo13; obtain ⟨Ao14, co14, eo14⟩ := Kd.R_slice HO112.out; subst eo14) | ((with_reducible refine gate_callee (f := 34) rfl ?_); refine goesL_ (some 14) rfl rfl Try.func34 (by kernel_rfl) rfl #[.slice Ao12 y101.length co12, .slice Ao13 y104.length co13, .slice Ao14 t110.length co14] rfl (by (try simp only [List.map_toArray, List.map_cons, List.map_nil]); first | done | rfl | (simp only [List.length_drop, List.length_take]; rfl)) ?_; (with_reducible refine (edit_Of.calls k _ _ y101 _ _ y104 _ _ t110 t113 t114 _ ?side1 ?side2 ?side3 ?side4 ?side5 ?side6 A2.out).mono ?_); (case side1 => repeat (first | exact (Kd.R_reads' HO103.out).2.2 | (with_reducible refine Kd.C_alloc ?_ _) | (with_reducible refine Kd.C_drewN ?_ _) | (with_reducible refine Kd.C_drew ?_))); (case side2 => exact (Kd.R_reads' HO103.out).2.1); (case side3 => repeat (first | exact (Kd.R_reads' HO106.out).2.2 | (with_reducible refine Kd.C_alloc ?_ _) | (with_reducible refine Kd.C_drewN ?_ _) | (with_reducible refine Kd.C_drew ?_))); (case side4 => exact (Kd.R_reads' HO106.out).2.1); (case side5 => repeat (first | exact (Kd.R_reads' HO112.out).2.2 | (with_reducible refine Kd.C_alloc ?_ _) | (with_reducible refine Kd.C_drewN ?_ _) | (with_reducible refine Kd.C_drew ?_))); (case side6 => exact (Kd.R_reads' HO112.out).2.1); rintro e w15 ⟨v115, rfl, ho0, hb⟩; refine ⟨_, rfl, ?_⟩; have n0_ := Aside0.mk (Kd.R_below (by (with_reducible repeat (first | apply Kd.R_alloc | apply Kd.R_drewN | apply Kd.R_drew)); exact HO103.out) hb); have n1_ := Aside0.mk (Kd.R_below (by (with_reducible repeat (first | apply Kd.R_alloc | apply Kd.R_drewN | apply Kd.R_drew)); exact HO106.out) hb); have n2_ := Aside0.mk (Kd.R_below (by (with_reducible repeat (first | apply Kd.R_alloc | apply Kd.R_drewN | apply Kd.R_drew)); exact HO109.out) hb); have n3_ := Aside0.mk (Kd.R_below (by (with_reducible repeat (first | apply Kd.R_alloc | apply Kd.R_drewN | apply Kd.R_drew)); exact HO112.out) hb); have n4_ := Aside0.mk (Kd.S_lower (Kd.S_new' (Kd.S_new' ho0 (Kd.R_lt (by (with_reducible repeat (first | apply Kd.R_alloc | apply Kd.R_drewN | apply Kd.R_drew)); exact HO103.out))) (Kd.R_lt (by (with_reducible repeat (first | apply Kd.R_alloc | apply Kd.R_drewN | apply Kd.R_drew)); exact HO106.out))) (below_size (by repeat (first | (with_reducible first | exact HB.out | apply below_alloc | apply pw_below_drewN | apply below_drew1) | exact HB.out)))); have n5_ := Aside0.mk (below_step (by repeat (first | (with_reducible first | exact HB.out | apply below_alloc | apply pw_below_drewN | apply below_drew1) | exact HB.out)) hb); clear HO103; clear HO106; clear HO109; clear HO112; clear HB; have HO103 := n0_; have HO106 := n1_; have HO109 := n2_; have HO112 := n3_; have HO116 := n4_; have HB := n5_; clear n0_ n1_ n2_ n3_ n4_ n5_; (try clear hb); (try clear hb2); (try clear hk); (try clear hi); (try clear ho0)))
  (try simp only [Act.put, List.setIfInBounds_toArray, List.set_cons_zero, List.set_cons_succ])
  go_cut [52] (fun v52 wc => ∃ (kq : Nat) (x52_2 : Bool), v52 = .bool x52_2 ∧ Aside0 (tripartitelaw04_told.j0 kq t113 x52_2 = some r) ∧ Aside0 (kq ≤ k) ∧ Aside0 (Kd.S k143 143 wc w.heap.size (fun _ => True) v115 t113) ∧ Aside0 (Below w.heap.size w wc))
  case first =>
    have H := HC3.out
    clear HC3
    by_cases c16 : t114 = 0
    · rw [if_pos c16] at H
      have c16b0 : (t114 == 0) = true := beq_iff_eq.mpr c16
      have c16b1 : (t114 != 0) = false := bne_eq_false_iff_eq.mpr c16
      clear c16
      (first | rw [c16b0] | (simp only [i64_w, i32_w]; rw [c16b0]) | skip)
      by_cases c17 : (t113.length : Int) = 3
      · rw [if_pos c17] at H
        have c17b0 : ((t113.length : Int) == 3) = true := beq_iff_eq.mpr c17
        have c17b1 : ((t113.length : Int) != 3) = false := bne_eq_false_iff_eq.mpr c17
        clear c17
        by_cases c18 : 0 < (t113.length : Int)
        · rw [if_pos c18] at H
          have c18b0 : decide (0 < (t113.length : Int)) = true := decide_eq_true c18
          have c18b1 : decide (0 < t113.length) = true := decide_eq_true (by omega)
          clear c18
          by_cases c19 : ((rd_T143 t113 0).f0) = 1
          · rw [if_pos c19] at H
            have c19b0 : (((rd_T143 t113 0).f0) == 1) = true := beq_iff_eq.mpr c19
            have c19b1 : (((rd_T143 t113 0).f0) != 1) = false := bne_eq_false_iff_eq.mpr c19
            clear c19
            by_cases c20 : 1 < (t113.length : Int)
            · rw [if_pos c20] at H
              have c20b0 : decide (1 < (t113.length : Int)) = true := decide_eq_true c20
              have c20b1 : decide (1 < t113.length) = true := decide_eq_true (by omega)
              clear c20
              by_cases c21 : ((rd_T143 t113 1).f0) = 0
              · rw [if_pos c21] at H
                have c21b0 : (((rd_T143 t113 1).f0) == 0) = true := beq_iff_eq.mpr c21
                have c21b1 : (((rd_T143 t113 1).f0) != 0) = false := bne_eq_false_iff_eq.mpr c21
                clear c21
                by_cases c22 : 2 < (t113.length : Int)
                · rw [if_pos c22] at H
                  have c22b0 : decide (2 < (t113.length : Int)) = true := decide_eq_true c22
                  have c22b1 : decide (2 < t113.length) = true := decide_eq_true (by omega)
                  clear c22
                  by_cases c23 : ((rd_T143 t113 2).f0) = 2
                  · rw [if_pos c23] at H
                    have c23b0 : (((rd_T143 t113 2).f0) == 2) = true := beq_iff_eq.mpr c23
                    have c23b1 : (((rd_T143 t113 2).f0) != 2) = false := bne_eq_false_iff_eq.mpr c23
                    clear c23
                    have H' := Aside0.mk H
                    clear H
                    obtain ⟨Ao24, co24, eo24⟩ := Kd.S_slice HO116.out
                    subst eo24
                    have p117 : 0 ≤ (0 : Int) := (by omega)
                    have q117 : 0 < (t113.length : Int) := of_decide_eq_true (by first | (with_reducible assumption) | assumption)
                    obtain ⟨ad117, A117_1, c117_1, e117, hx117_0, hx117_1, hl117_1, hi117_1⟩ := at_T143 (Kd.S_reads' HO116.out).2.2 0 p117 q117
                    cases e117
                    obtain ⟨ce117, hce117, hMe117, hcc117⟩ := Kd.S_get HO116.out z143 0 p117 (by first | exact q117 | exact of_decide_eq_true (by first | (with_reducible assumption) | assumption) | (have e_ := (Kd.S_reads' HO116.out).1; omega))
                    obtain ⟨ve117_1, rfl, ge117_1⟩ := k143_openM hMe117
                    have hv117_1 := hcc117 1 _ rfl
                    rw [add_field _ _ 1 (by omega)] at hv117_1
                    replace hv117_1 := Option.some.inj (hv117_1.symm.trans hx117_1)
                    rw [hv117_1] at ge117_1
                    have HL117_1 := Aside0.mk (show Kd.R Kd.string 9 _ _ _ _ ((rd_T143 t113 0).f1) from ge117_1)
                    clear hv117_1 ge117_1
                    clear hcc117 hce117
                    have qi117 : (0 < t113.length) = True := eq_true (by omega)
                    (try rw [show ((0 : Int)).toNat = 0 from rfl] at hx117_0)
                    (try rw [show 0 * 2 = 0 from rfl] at hx117_0)
                    (try rw [Addr.add_zero'] at hx117_0)
                    (try rw [show ((0 : Int)).toNat = 0 from rfl] at hx117_1)
                    (try rw [show 0 * 2 = 0 from rfl] at hx117_1)
                    (try rw [Addr.add_zero'] at hx117_1)
                    have HR117_1 := Aside0.mk hi117_1
                    have HC117_1 := Aside0.mk hl117_1
                    clear hi117_1 hl117_1
                    replace p117 := eq_true p117
                    replace q117 := eq_true q117
                    have p118 : 0 ≤ (1 : Int) := (by omega)
                    have q118 : 1 < (t113.length : Int) := of_decide_eq_true (by first | (with_reducible assumption) | assumption)
                    obtain ⟨ad118, A118_1, c118_1, e118, hx118_0, hx118_1, hl118_1, hi118_1⟩ := at_T143 (Kd.S_reads' HO116.out).2.2 1 p118 q118
                    obtain rfl : ad117 = ad118 := (by injection e118)
                    obtain ⟨ce118, hce118, hMe118, hcc118⟩ := Kd.S_get HO116.out z143 1 p118 (by first | exact q118 | exact of_decide_eq_true (by first | (with_reducible assumption) | assumption) | (have e_ := (Kd.S_reads' HO116.out).1; omega))
                    obtain ⟨ve118_1, rfl, ge118_1⟩ := k143_openM hMe118
                    have hv118_1 := hcc118 1 _ rfl
                    rw [add_field _ _ 1 (by omega)] at hv118_1
                    replace hv118_1 := Option.some.inj (hv118_1.symm.trans hx118_1)
                    rw [hv118_1] at ge118_1
                    have HL118_1 := Aside0.mk (show Kd.R Kd.string 9 _ _ _ _ ((rd_T143 t113 1).f1) from ge118_1)
                    clear hv118_1 ge118_1
                    clear hcc118 hce118
                    (try simp only [show (1 : Int).toNat = 1 from rfl, Nat.reduceMul, Nat.reduceEqDiff, Go.Addr.add, ↓reduceIte] at hx118_0)
                    (try simp only [show (1 : Int).toNat = 1 from rfl, Nat.reduceMul, Nat.reduceEqDiff, Go.Addr.add, ↓reduceIte] at hx118_1)
                    have qi118 : (1 < t113.length) = True := eq_true (by omega)
                    (try rw [show ((1 : Int)).toNat = 1 from rfl] at hx118_0)
                    (try rw [show 1 * 2 = 2 from rfl] at hx118_0)
                    (try rw [show ((1 : Int)).toNat = 1 from rfl] at hx118_1)
                    (try rw [show 1 * 2 = 2 from rfl] at hx118_1)
                    have HR118_1 := Aside0.mk hi118_1
                    have HC118_1 := Aside0.mk hl118_1
                    clear hi118_1 hl118_1
                    replace p118 := eq_true p118
                    replace q118 := eq_true q118
                    have p119 : 0 ≤ (2 : Int) := (by omega)
                    have q119 : 2 < (t113.length : Int) := of_decide_eq_true (by first | (with_reducible assumption) | assumption)
                    obtain ⟨ad119, A119_1, c119_1, e119, hx119_0, hx119_1, hl119_1, hi119_1⟩ := at_T143 (Kd.S_reads' HO116.out).2.2 2 p119 q119
                    obtain rfl : ad117 = ad119 := (by injection e119)
                    obtain ⟨ce119, hce119, hMe119, hcc119⟩ := Kd.S_get HO116.out z143 2 p119 (by first | exact q119 | exact of_decide_eq_true (by first | (with_reducible assumption) | assumption) | (have e_ := (Kd.S_reads' HO116.out).1; omega))
                    obtain ⟨ve119_1, rfl, ge119_1⟩ := k143_openM hMe119
                    have hv119_1 := hcc119 1 _ rfl
                    rw [add_field _ _ 1 (by omega)] at hv119_1
                    replace hv119_1 := Option.some.inj (hv119_1.symm.trans hx119_1)
                    rw [hv119_1] at ge119_1
                    have HL119_1 := Aside0.mk (show Kd.R Kd.string 9 _ _ _ _ ((rd_T143 t113 2).f1) from ge119_1)
                    clear hv119_1 ge119_1
                    clear hcc119 hce119
                    (try simp only [show (2 : Int).toNat = 2 from rfl, Nat.reduceMul, Nat.reduceEqDiff, Go.Addr.add, ↓reduceIte] at hx119_0)
                    (try simp only [show (2 : Int).toNat = 2 from rfl, Nat.reduceMul, Nat.reduceEqDiff, Go.Addr.add, ↓reduceIte] at hx119_1)
                    have qi119 : (2 < t113.length) = True := eq_true (by omega)
                    (try rw [show ((2 : Int)).toNat = 2 from rfl] at hx119_0)
                    (try rw [show 2 * 2 = 4 from rfl] at hx119_0)
                    (try rw [show ((2 : Int)).toNat = 2 from rfl] at hx119_1)
                    (try rw [show 2 * 2 = 4 from rfl] at hx119_1)
                    have HR119_1 := Aside0.mk hi119_1
                    have HC119_1 := Aside0.mk hl119_1
                    clear hi119_1 hl119_1
                    replace p119 := eq_true p119
                    replace q119 := eq_true q119
                    have p120 : 0 ≤ (0 : Int) := (by omega)
                    have q120 : 0 < (t113.length : Int) := of_decide_eq_true (by first | (with_reducible assumption) | assumption)
                    obtain ⟨ad120, A120_1, c120_1, e120, hx120_0, hx120_1, hl120_1, hi120_1⟩ := at_T143 (Kd.S_reads' HO116.out).2.2 0 p120 q120
                    obtain rfl : ad117 = ad120 := (by injection e120)
                    obtain ⟨ce120, hce120, hMe120, hcc120⟩ := Kd.S_get HO116.out z143 0 p120 (by first | exact q120 | exact of_decide_eq_true (by first | (with_reducible assumption) | assumption) | (have e_ := (Kd.S_reads' HO116.out).1; omega))
                    obtain ⟨ve120_1, rfl, ge120_1⟩ := k143_openM hMe120
                    have hv120_1 := hcc120 1 _ rfl
                    rw [add_field _ _ 1 (by omega)] at hv120_1
                    replace hv120_1 := Option.some.inj (hv120_1.symm.trans hx120_1)
                    rw [hv120_1] at ge120_1
                    have HL120_1 := Aside0.mk (show Kd.R Kd.string 9 _ _ _ _ ((rd_T143 t113 0).f1) from ge120_1)
                    clear hv120_1 ge120_1
                    clear hcc120 hce120
                    have qi120 : (0 < t113.length) = True := eq_true (by omega)
                    (try rw [show ((0 : Int)).toNat = 0 from rfl] at hx120_0)
                    (try rw [show 0 * 2 = 0 from rfl] at hx120_0)
                    (try rw [Addr.add_zero'] at hx120_0)
                    (try rw [show ((0 : Int)).toNat = 0 from rfl] at hx120_1)
                    (try rw [show 0 * 2 = 0 from rfl] at hx120_1)
                    (try rw [Addr.add_zero'] at hx120_1)
                    have HR120_1 := Aside0.mk hi120_1
                    have HC120_1 := Aside0.mk hl120_1
                    clear hi120_1 hl120_1
                    replace p120 := eq_true p120
                    replace q120 := eq_true q120
                    have ea_ := Option.some.inj (hx117_1.symm.trans hx120_1)
                    injection ea_ with ea_ en_ ec_
                    subst ea_
                    subst ec_
                    clear en_
                    go_wp2
                    go_meet
                    case rel => exact ⟨_, (((((rd_T143 t113 0).f1).length : Int) != 1)), (by first | rfl | (simp; done) | (simp [*]; done)), H', ⟨by first | omega | exact Nat.le_refl _⟩, ⟨by (with_reducible repeat (first | apply Kd.S_alloc | apply Kd.S_drewN | apply Kd.S_drew)); exact Kd.S_mono HO116.out (fun _ hk => trivial)⟩, ⟨by repeat (first | (with_reducible first | exact HB.out | apply below_alloc | apply pw_below_drewN | apply below_drew1) | exact HB.out)⟩⟩
                  · rw [if_neg c23] at H
                    have c23b0 : (((rd_T143 t113 2).f0) == 2) = false := beq_eq_false_iff_ne.mpr c23
                    have c23b1 : (((rd_T143 t113 2).f0) != 2) = true := bne_iff_ne.mpr c23
                    have H' := Aside0.mk H
                    clear H
                    obtain ⟨Ao25, co25, eo25⟩ := Kd.S_slice HO116.out
                    subst eo25
                    have p117 : 0 ≤ (0 : Int) := (by omega)
                    have q117 : 0 < (t113.length : Int) := of_decide_eq_true (by first | (with_reducible assumption) | assumption)
                    obtain ⟨ad117, A117_1, c117_1, e117, hx117_0, hx117_1, hl117_1, hi117_1⟩ := at_T143 (Kd.S_reads' HO116.out).2.2 0 p117 q117
                    cases e117
                    obtain ⟨ce117, hce117, hMe117, hcc117⟩ := Kd.S_get HO116.out z143 0 p117 (by first | exact q117 | exact of_decide_eq_true (by first | (with_reducible assumption) | assumption) | (have e_ := (Kd.S_reads' HO116.out).1; omega))
                    obtain ⟨ve117_1, rfl, ge117_1⟩ := k143_openM hMe117
                    have hv117_1 := hcc117 1 _ rfl
                    rw [add_field _ _ 1 (by omega)] at hv117_1
                    replace hv117_1 := Option.some.inj (hv117_1.symm.trans hx117_1)
                    rw [hv117_1] at ge117_1
                    have HL117_1 := Aside0.mk (show Kd.R Kd.string 9 _ _ _ _ ((rd_T143 t113 0).f1) from ge117_1)
                    clear hv117_1 ge117_1
                    clear hcc117 hce117
                    have qi117 : (0 < t113.length) = True := eq_true (by omega)
                    (try rw [show ((0 : Int)).toNat = 0 from rfl] at hx117_0)
                    (try rw [show 0 * 2 = 0 from rfl] at hx117_0)
                    (try rw [Addr.add_zero'] at hx117_0)
                    (try rw [show ((0 : Int)).toNat = 0 from rfl] at hx117_1)
                    (try rw [show 0 * 2 = 0 from rfl] at hx117_1)
                    (try rw [Addr.add_zero'] at hx117_1)
                    have HR117_1 := Aside0.mk hi117_1
                    have HC117_1 := Aside0.mk hl117_1
                    clear hi117_1 hl117_1
                    replace p117 := eq_true p117
                    replace q117 := eq_true q117
                    have p118 : 0 ≤ (1 : Int) := (by omega)
                    have q118 : 1 < (t113.length : Int) := of_decide_eq_true (by first | (with_reducible assumption) | assumption)
                    obtain ⟨ad118, A118_1, c118_1, e118, hx118_0, hx118_1, hl118_1, hi118_1⟩ := at_T143 (Kd.S_reads' HO116.out).2.2 1 p118 q118
                    obtain rfl : ad117 = ad118 := (by injection e118)
                    obtain ⟨ce118, hce118, hMe118, hcc118⟩ := Kd.S_get HO116.out z143 1 p118 (by first | exact q118 | exact of_decide_eq_true (by first | (with_reducible assumption) | assumption) | (have e_ := (Kd.S_reads' HO116.out).1; omega))
                    obtain ⟨ve118_1, rfl, ge118_1⟩ := k143_openM hMe118
                    have hv118_1 := hcc118 1 _ rfl
                    rw [add_field _ _ 1 (by omega)] at hv118_1
                    replace hv118_1 := Option.some.inj (hv118_1.symm.trans hx118_1)
                    rw [hv118_1] at ge118_1
                    have HL118_1 := Aside0.mk (show Kd.R Kd.string 9 _ _ _ _ ((rd_T143 t113 1).f1) from ge118_1)
                    clear hv118_1 ge118_1
                    clear hcc118 hce118
                    (try simp only [show (1 : Int).toNat = 1 from rfl, Nat.reduceMul, Nat.reduceEqDiff, Go.Addr.add, ↓reduceIte] at hx118_0)
                    (try simp only [show (1 : Int).toNat = 1 from rfl, Nat.reduceMul, Nat.reduceEqDiff, Go.Addr.add, ↓reduceIte] at hx118_1)
                    have qi118 : (1 < t113.length) = True := eq_true (by omega)
                    (try rw [show ((1 : Int)).toNat = 1 from rfl] at hx118_0)
                    (try rw [show 1 * 2 = 2 from rfl] at hx118_0)
                    (try rw [show ((1 : Int)).toNat = 1 from rfl] at hx118_1)
                    (try rw [show 1 * 2 = 2 from rfl] at hx118_1)
                    have HR118_1 := Aside0.mk hi118_1
                    have HC118_1 := Aside0.mk hl118_1
                    clear hi118_1 hl118_1
                    replace p118 := eq_true p118
                    replace q118 := eq_true q118
                    have p119 : 0 ≤ (2 : Int) := (by omega)
                    have q119 : 2 < (t113.length : Int) := of_decide_eq_true (by first | (with_reducible assumption) | assumption)
                    obtain ⟨ad119, A119_1, c119_1, e119, hx119_0, hx119_1, hl119_1, hi119_1⟩ := at_T143 (Kd.S_reads' HO116.out).2.2 2 p119 q119
                    obtain rfl : ad117 = ad119 := (by injection e119)
                    obtain ⟨ce119, hce119, hMe119, hcc119⟩ := Kd.S_get HO116.out z143 2 p119 (by first | exact q119 | exact of_decide_eq_true (by first | (with_reducible assumption) | assumption) | (have e_ := (Kd.S_reads' HO116.out).1; omega))
                    obtain ⟨ve119_1, rfl, ge119_1⟩ := k143_openM hMe119
                    have hv119_1 := hcc119 1 _ rfl
                    rw [add_field _ _ 1 (by omega)] at hv119_1
                    replace hv119_1 := Option.some.inj (hv119_1.symm.trans hx119_1)
                    rw [hv119_1] at ge119_1
                    have HL119_1 := Aside0.mk (show Kd.R Kd.string 9 _ _ _ _ ((rd_T143 t113 2).f1) from ge119_1)
                    clear hv119_1 ge119_1
                    clear hcc119 hce119
                    (try simp only [show (2 : Int).toNat = 2 from rfl, Nat.reduceMul, Nat.reduceEqDiff, Go.Addr.add, ↓reduceIte] at hx119_0)
                    (try simp only [show (2 : Int).toNat = 2 from rfl, Nat.reduceMul, Nat.reduceEqDiff, Go.Addr.add, ↓reduceIte] at hx119_1)
                    have qi119 : (2 < t113.length) = True := eq_true (by omega)
                    (try rw [show ((2 : Int)).toNat = 2 from rfl] at hx119_0)
                    (try rw [show 2 * 2 = 4 from rfl] at hx119_0)
                    (try rw [show ((2 : Int)).toNat = 2 from rfl] at hx119_1)
                    (try rw [show 2 * 2 = 4 from rfl] at hx119_1)
                    have HR119_1 := Aside0.mk hi119_1
                    have HC119_1 := Aside0.mk hl119_1
                    clear hi119_1 hl119_1
                    replace p119 := eq_true p119
                    replace q119 := eq_true q119
                    go_wp2
                    go_meet
                    case rel => exact ⟨_, (true), (by first | rfl | (simp; done) | (simp [*]; done)), H', ⟨by first | omega | exact Nat.le_refl _⟩, ⟨by (with_reducible repeat (first | apply Kd.S_alloc | apply Kd.S_drewN | apply Kd.S_drew)); exact Kd.S_mono HO116.out (fun _ hk => trivial)⟩, ⟨by repeat (first | (with_reducible first | exact HB.out | apply below_alloc | apply pw_below_drewN | apply below_drew1) | exact HB.out)⟩⟩
                · rw [if_neg c22] at H
                  exact absurd H (by simp)
              · rw [if_neg c21] at H
                have c21b0 : (((rd_T143 t113 1).f0) == 0) = false := beq_eq_false_iff_ne.mpr c21
                have c21b1 : (((rd_T143 t113 1).f0) != 0) = true := bne_iff_ne.mpr c21
                have H' := Aside0.mk H
                clear H
                obtain ⟨Ao26, co26, eo26⟩ := Kd.S_slice HO116.out
                subst eo26
                have p117 : 0 ≤ (0 : Int) := (by omega)
                have q117 : 0 < (t113.length : Int) := of_decide_eq_true (by first | (with_reducible assumption) | assumption)
                obtain ⟨ad117, A117_1, c117_1, e117, hx117_0, hx117_1, hl117_1, hi117_1⟩ := at_T143 (Kd.S_reads' HO116.out).2.2 0 p117 q117
                cases e117
                obtain ⟨ce117, hce117, hMe117, hcc117⟩ := Kd.S_get HO116.out z143 0 p117 (by first | exact q117 | exact of_decide_eq_true (by first | (with_reducible assumption) | assumption) | (have e_ := (Kd.S_reads' HO116.out).1; omega))
                obtain ⟨ve117_1, rfl, ge117_1⟩ := k143_openM hMe117
                have hv117_1 := hcc117 1 _ rfl
                rw [add_field _ _ 1 (by omega)] at hv117_1
                replace hv117_1 := Option.some.inj (hv117_1.symm.trans hx117_1)
                rw [hv117_1] at ge117_1
                have HL117_1 := Aside0.mk (show Kd.R Kd.string 9 _ _ _ _ ((rd_T143 t113 0).f1) from ge117_1)
                clear hv117_1 ge117_1
                clear hcc117 hce117
                have qi117 : (0 < t113.length) = True := eq_true (by omega)
                (try rw [show ((0 : Int)).toNat = 0 from rfl] at hx117_0)
                (try rw [show 0 * 2 = 0 from rfl] at hx117_0)
                (try rw [Addr.add_zero'] at hx117_0)
                (try rw [show ((0 : Int)).toNat = 0 from rfl] at hx117_1)
                (try rw [show 0 * 2 = 0 from rfl] at hx117_1)
                (try rw [Addr.add_zero'] at hx117_1)
                have HR117_1 := Aside0.mk hi117_1
                have HC117_1 := Aside0.mk hl117_1
                clear hi117_1 hl117_1
                replace p117 := eq_true p117
                replace q117 := eq_true q117
                have p118 : 0 ≤ (1 : Int) := (by omega)
                have q118 : 1 < (t113.length : Int) := of_decide_eq_true (by first | (with_reducible assumption) | assumption)
                obtain ⟨ad118, A118_1, c118_1, e118, hx118_0, hx118_1, hl118_1, hi118_1⟩ := at_T143 (Kd.S_reads' HO116.out).2.2 1 p118 q118
                obtain rfl : ad117 = ad118 := (by injection e118)
                obtain ⟨ce118, hce118, hMe118, hcc118⟩ := Kd.S_get HO116.out z143 1 p118 (by first | exact q118 | exact of_decide_eq_true (by first | (with_reducible assumption) | assumption) | (have e_ := (Kd.S_reads' HO116.out).1; omega))
                obtain ⟨ve118_1, rfl, ge118_1⟩ := k143_openM hMe118
                have hv118_1 := hcc118 1 _ rfl
                rw [add_field _ _ 1 (by omega)] at hv118_1
                replace hv118_1 := Option.some.inj (hv118_1.symm.trans hx118_1)
                rw [hv118_1] at ge118_1
                have HL118_1 := Aside0.mk (show Kd.R Kd.string 9 _ _ _ _ ((rd_T143 t113 1).f1) from ge118_1)
                clear hv118_1 ge118_1
                clear hcc118 hce118
                (try simp only [show (1 : Int).toNat = 1 from rfl, Nat.reduceMul, Nat.reduceEqDiff, Go.Addr.add, ↓reduceIte] at hx118_0)
                (try simp only [show (1 : Int).toNat = 1 from rfl, Nat.reduceMul, Nat.reduceEqDiff, Go.Addr.add, ↓reduceIte] at hx118_1)
                have qi118 : (1 < t113.length) = True := eq_true (by omega)
                (try rw [show ((1 : Int)).toNat = 1 from rfl] at hx118_0)
                (try rw [show 1 * 2 = 2 from rfl] at hx118_0)
                (try rw [show ((1 : Int)).toNat = 1 from rfl] at hx118_1)
                (try rw [show 1 * 2 = 2 from rfl] at hx118_1)
                have HR118_1 := Aside0.mk hi118_1
                have HC118_1 := Aside0.mk hl118_1
                clear hi118_1 hl118_1
                replace p118 := eq_true p118
                replace q118 := eq_true q118
                go_wp2
                go_meet
                case rel => exact ⟨_, (true), (by first | rfl | (simp; done) | (simp [*]; done)), H', ⟨by first | omega | exact Nat.le_refl _⟩, ⟨by (with_reducible repeat (first | apply Kd.S_alloc | apply Kd.S_drewN | apply Kd.S_drew)); exact Kd.S_mono HO116.out (fun _ hk => trivial)⟩, ⟨by repeat (first | (with_reducible first | exact HB.out | apply below_alloc | apply pw_below_drewN | apply below_drew1) | exact HB.out)⟩⟩
            · rw [if_neg c20] at H
              exact absurd H (by simp)
          · rw [if_neg c19] at H
            have c19b0 : (((rd_T143 t113 0).f0) == 1) = false := beq_eq_false_iff_ne.mpr c19
            have c19b1 : (((rd_T143 t113 0).f0) != 1) = true := bne_iff_ne.mpr c19
            have H' := Aside0.mk H
            clear H
            obtain ⟨Ao27, co27, eo27⟩ := Kd.S_slice HO116.out
            subst eo27
            have p117 : 0 ≤ (0 : Int) := (by omega)
            have q117 : 0 < (t113.length : Int) := of_decide_eq_true (by first | (with_reducible assumption) | assumption)
            obtain ⟨ad117, A117_1, c117_1, e117, hx117_0, hx117_1, hl117_1, hi117_1⟩ := at_T143 (Kd.S_reads' HO116.out).2.2 0 p117 q117
            cases e117
            obtain ⟨ce117, hce117, hMe117, hcc117⟩ := Kd.S_get HO116.out z143 0 p117 (by first | exact q117 | exact of_decide_eq_true (by first | (with_reducible assumption) | assumption) | (have e_ := (Kd.S_reads' HO116.out).1; omega))
            obtain ⟨ve117_1, rfl, ge117_1⟩ := k143_openM hMe117
            have hv117_1 := hcc117 1 _ rfl
            rw [add_field _ _ 1 (by omega)] at hv117_1
            replace hv117_1 := Option.some.inj (hv117_1.symm.trans hx117_1)
            rw [hv117_1] at ge117_1
            have HL117_1 := Aside0.mk (show Kd.R Kd.string 9 _ _ _ _ ((rd_T143 t113 0).f1) from ge117_1)
            clear hv117_1 ge117_1
            clear hcc117 hce117
            have qi117 : (0 < t113.length) = True := eq_true (by omega)
            (try rw [show ((0 : Int)).toNat = 0 from rfl] at hx117_0)
            (try rw [show 0 * 2 = 0 from rfl] at hx117_0)
            (try rw [Addr.add_zero'] at hx117_0)
            (try rw [show ((0 : Int)).toNat = 0 from rfl] at hx117_1)
            (try rw [show 0 * 2 = 0 from rfl] at hx117_1)
            (try rw [Addr.add_zero'] at hx117_1)
            have HR117_1 := Aside0.mk hi117_1
            have HC117_1 := Aside0.mk hl117_1
            clear hi117_1 hl117_1
            replace p117 := eq_true p117
            replace q117 := eq_true q117
            go_wp2
            go_meet
            case rel => exact ⟨_, (true), (by first | rfl | (simp; done) | (simp [*]; done)), H', ⟨by first | omega | exact Nat.le_refl _⟩, ⟨by (with_reducible repeat (first | apply Kd.S_alloc | apply Kd.S_drewN | apply Kd.S_drew)); exact Kd.S_mono HO116.out (fun _ hk => trivial)⟩, ⟨by repeat (first | (with_reducible first | exact HB.out | apply below_alloc | apply pw_below_drewN | apply below_drew1) | exact HB.out)⟩⟩
        · rw [if_neg c18] at H
          exact absurd H (by simp)
      · rw [if_neg c17] at H
        have c17b0 : ((t113.length : Int) == 3) = false := beq_eq_false_iff_ne.mpr c17
        have c17b1 : ((t113.length : Int) != 3) = true := bne_iff_ne.mpr c17
        have H' := Aside0.mk H
        clear H
        obtain ⟨Ao28, co28, eo28⟩ := Kd.S_slice HO116.out
        subst eo28
        go_wp2
        go_meet
        case rel => exact ⟨_, (true), (by first | rfl | (simp; done) | (simp [*]; done)), H', ⟨by first | omega | exact Nat.le_refl _⟩, ⟨by (with_reducible repeat (first | apply Kd.S_alloc | apply Kd.S_drewN | apply Kd.S_drew)); exact Kd.S_mono HO116.out (fun _ hk => trivial)⟩, ⟨by repeat (first | (with_reducible first | exact HB.out | apply below_alloc | apply pw_below_drewN | apply below_drew1) | exact HB.out)⟩⟩
    · rw [if_neg c16] at H
      have c16b0 : (t114 == 0) = false := beq_eq_false_iff_ne.mpr c16
      have c16b1 : (t114 != 0) = true := bne_iff_ne.mpr c16
      (first | rw [c16b0] | (simp only [i64_w, i32_w]; rw [c16b0]) | skip)
      have H' := Aside0.mk H
      clear H
      go_wp2
      go_meet
      case rel => exact ⟨_, (true), (by first | rfl | (simp; done) | (simp [*]; done)), H', ⟨by first | omega | exact Nat.le_refl _⟩, ⟨by (with_reducible repeat (first | apply Kd.S_alloc | apply Kd.S_drewN | apply Kd.S_drew)); exact Kd.S_mono HO116.out (fun _ hk => trivial)⟩, ⟨by repeat (first | (with_reducible first | exact HB.out | apply below_alloc | apply pw_below_drewN | apply below_drew1) | exact HB.out)⟩⟩
  case rest =>
    clear HC3
    try clear c1
    try clear p1
    try clear q1
    try clear hx1
    try clear qi1
    try clear c2
    try clear p2
    try clear c3
    try clear c11
    try clear p11
    try clear q11
    try clear hx11
    try clear qi11
    try clear c12
    try clear p12
    try clear q12
    try clear hx12
    try clear qi12
    try clear c16
    try clear c16b0
    try clear c16b1
    try clear c17
    try clear c17b0
    try clear c17b1
    try clear c18
    try clear c18b0
    try clear c18b1
    try clear c19
    try clear c19b0
    try clear c19b1
    try clear c20
    try clear c20b0
    try clear c20b1
    try clear c21
    try clear c21b0
    try clear c21b1
    try clear c22
    try clear c22b0
    try clear c22b1
    try clear c23
    try clear c23b0
    try clear c23b1
    try clear hx117_0
    try clear hx117_1
    try clear hx118_0
    try clear hx118_1
    try clear hx119_0
    try clear hx119_1
    try clear hx120_0
    try clear hx120_1
    try clear p117
    try clear p118
    try clear p119
    try clear p120
    try clear q117
    try clear q118
    try clear q119
    try clear q120
    obtain ⟨kq, x52_2, rfl, HA, HJ2, HO_1, HB⟩ := hcut
    cases kq with
    | zero => exact absurd HA.out (by simp [tripartitelaw04_told.j0])
    | succ kj2 =>
      have H := HA.out
      clear HA
      simp only [tripartitelaw04_told.j0] at H
      by_cases c29 : x52_2 = true
      · subst c29
        have H1 : (some false) = some r := by rw [if_pos rfl] at H; exact H
        clear H
        have H := H1
        clear H1
        obtain rfl := Option.some.inj H
        go_wp2
        go_ret
        exact ⟨by first | rfl | (simp [errW_none, errW_some] <;> rfl) | (simp [*, errW_none, errW_some] <;> rfl), by repeat (first | (with_reducible first | exact HB.out | apply below_alloc | apply pw_below_drewN | apply below_drew1) | exact HB.out)⟩
      · replace c29 := Bool.eq_false_iff.mpr c29
        subst c29
        have H1 : ((edit_Apply.f kj2 t113 (([(⟨#[97]⟩ : ByteArray), (⟨#[98]⟩ : ByteArray)] : List ByteArray))).bind fun bt124 => ((edit_Counts.f kj2 t113).bind fun bt128 => (if bt124.2 = 0 then (if (bt124.1.length : Int) = 2 then (if 1 < (bt124.1.length : Int) then (if (rdOf ByteArray.empty bt124.1 1).toList = ([99] : List UInt8) then (if bt128.1 = 1 then (if bt128.2.1 = 1 then (if bt128.2.2 = 1 then ((edit_Right.f kj2 t113).bind fun t132 => (some t132)) else (some false)) else (some false)) else (some false)) else (some false)) else (none)) else (some false)) else (some false)))) = some r := by rw [if_neg (show ¬ (false = true) by decide)] at H; exact H
        clear H
        have H := H1
        clear H1
        obtain ⟨y121, hy121⟩ : ∃ y_ : List ByteArray, y_ = (([(⟨#[97]⟩ : ByteArray), (⟨#[98]⟩ : ByteArray)] : List ByteArray)) := ⟨_, rfl⟩
        replace H : ((edit_Apply.f kj2 t113 y121).bind fun bt124 => ((edit_Counts.f kj2 t113).bind fun bt128 => (if bt124.2 = 0 then (if (bt124.1.length : Int) = 2 then (if 1 < (bt124.1.length : Int) then (if (rdOf ByteArray.empty bt124.1 1).toList = ([99] : List UInt8) then (if bt128.1 = 1 then (if bt128.2.1 = 1 then (if bt128.2.2 = 1 then ((edit_Right.f kj2 t113).bind fun t132 => (some t132)) else (some false)) else (some false)) else (some false)) else (some false)) else (none)) else (some false)) else (some false)))) = some r := by first | (rw [hy121]; with_reducible exact H) | (have H2_ := (Option.bind_some _ _).symm.trans H; rw [hy121]; with_reducible exact H2_) | (have H2_ := (Option.bind_some _ _).symm.trans H; with_reducible exact H2_) | with_reducible exact H | (rw [hy121]; exact H) | exact H
        have Ny121 := Aside0.mk hy121
        clear hy121
        replace H := Option.bind_eq_some_iff.mp H
        obtain ⟨⟨t124, t125⟩, A300, H⟩ := H
        replace H : ((edit_Counts.f kj2 t113).bind fun bt128 => (if t125 = 0 then (if (t124.length : Int) = 2 then (if 1 < (t124.length : Int) then (if (rdOf ByteArray.empty t124 1).toList = ([99] : List UInt8) then (if bt128.1 = 1 then (if bt128.2.1 = 1 then (if bt128.2.2 = 1 then ((edit_Right.f kj2 t113).bind fun t132 => (some t132)) else (some false)) else (some false)) else (some false)) else (some false)) else (none)) else (some false)) else (some false))) = some r := H
        have A30 := Aside0.mk A300
        clear A300
        replace H := Option.bind_eq_some_iff.mp H
        obtain ⟨⟨t128, t129, t130⟩, A310, H⟩ := H
        replace H : (if t125 = 0 then (if (t124.length : Int) = 2 then (if 1 < (t124.length : Int) then (if (rdOf ByteArray.empty t124 1).toList = ([99] : List UInt8) then (if t128 = 1 then (if t129 = 1 then (if t130 = 1 then ((edit_Right.f kj2 t113).bind fun t132 => (some t132)) else (some false)) else (some false)) else (some false)) else (some false)) else (none)) else (some false)) else (some false)) = some r := H
        have A31 := Aside0.mk A310
        clear A310
        by_cases c32 : t125 = 0
        · rw [if_pos c32] at H
          have c32b0 : (t125 == 0) = true := beq_iff_eq.mpr c32
          have c32b1 : (t125 != 0) = false := bne_eq_false_iff_eq.mpr c32
          clear c32
          by_cases c33 : (t124.length : Int) = 2
          · rw [if_pos c33] at H
            have c33b0 : ((t124.length : Int) == 2) = true := beq_iff_eq.mpr c33
            have c33b1 : ((t124.length : Int) != 2) = false := bne_eq_false_iff_eq.mpr c33
            clear c33
            by_cases c34 : 1 < (t124.length : Int)
            · rw [if_pos c34] at H
              have c34b0 : decide (1 < (t124.length : Int)) = true := decide_eq_true c34
              have c34b1 : decide (1 < t124.length) = true := decide_eq_true (by omega)
              clear c34
              by_cases c35 : (rdOf ByteArray.empty t124 1).toList = ([99] : List UInt8)
              · rw [if_pos c35] at H
                have c35b0 : ((rdOf ByteArray.empty t124 1).toList == ([99] : List UInt8)) = true := beq_iff_eq.mpr c35
                have c35b1 : ((rdOf ByteArray.empty t124 1).toList != ([99] : List UInt8)) = false := bne_eq_false_iff_eq.mpr c35
                clear c35
                by_cases c36 : t128 = 1
                · rw [if_pos c36] at H
                  have c36b0 : (t128 == 1) = true := beq_iff_eq.mpr c36
                  have c36b1 : (t128 != 1) = false := bne_eq_false_iff_eq.mpr c36
                  clear c36
                  by_cases c37 : t129 = 1
                  · rw [if_pos c37] at H
                    have c37b0 : (t129 == 1) = true := beq_iff_eq.mpr c37
                    have c37b1 : (t129 != 1) = false := bne_eq_false_iff_eq.mpr c37
                    clear c37
                    by_cases c38 : t130 = 1
                    · rw [if_pos c38] at H
                      have c38b0 : (t130 == 1) = true := beq_iff_eq.mpr c38
                      have c38b1 : (t130 != 1) = false := bne_eq_false_iff_eq.mpr c38
                      clear c38
                      replace H := Option.bind_eq_some_iff.mp H
                      obtain ⟨t132, A390, H⟩ := H
                      replace H : (some t132) = some r := H
                      have A39 := Aside0.mk A390
                      clear A390
                      obtain rfl := Option.some.inj H
                      go_wp2_with (first | ((with_reducible refine gate_dst (N := 55) rfl ?_); (try (refine gate_guard (by rfl) ?_; dsimp only)); refine Kd.R_lit Kd.string _ 9 ?hg (N := 55) ?hd (xs := ([(⟨#[97]⟩ : ByteArray), (⟨#[98]⟩ : ByteArray)] : List ByteArray)) (inner := [.string (⟨#[97]⟩ : ByteArray), .string (⟨#[98]⟩ : ByteArray)]) (ok := fun _ => True) (okp := fun _ => True) ?hr ?hp (fun _ hk => hk) trivial (Below.refl _ _) (Nat.le_refl _) (by simp) ?_; (case hd => rfl); (case hg => rfl); (case hr => first | (go_simp; done) | (go_simp; rfl)); (case hp => exact (Reps.one (show Kd.M Kd.string _ _ _ (⟨#[97]⟩ : ByteArray) [.string (⟨#[97]⟩ : ByteArray)] from rfl) (Reps.one (show Kd.M Kd.string _ _ _ (⟨#[98]⟩ : ByteArray) [.string (⟨#[98]⟩ : ByteArray)] from rfl) (Reps.none _ _)))); intro v122 w40 ho41 hb hg_ hnew_; clear hg_ hnew_; (first | rw [← Ny121.out] at ho41 | (simp only [Int.reduceToNat] at ho41; rw [← Ny121.out] at ho41)); have n0_ := Aside0.mk (Kd.S_elder' (by (with_reducible repeat (first | apply Kd.S_alloc | apply Kd.S_drewN | apply Kd.S_drew)); exact HO_1.out) (Kd.R_base ho41) hb); have n1_ := Aside0.mk (Kd.R_lower ho41 (below_size (by repeat (first | (with_reducible first | exact HB.out | apply below_alloc | apply pw_below_drewN | apply below_drew1) | exact HB.out)))); have n2_ := Aside0.mk (below_step (by repeat (first | (with_reducible first | exact HB.out | apply below_alloc | apply pw_below_drewN | apply below_drew1) | exact HB.out)) hb); clear HO_1; clear HB; have HO_1 := n0_; have HO123 := n1_; have HB := n2_; clear n0_ n1_ n2_; clear hb ho41; obtain ⟨Ao42, co42, eo42⟩ := Kd.S_slice HO_1.out; subst eo42; obtain ⟨Ao43, co43, eo43⟩ := Kd.R_slice HO123.out; subst eo43) | ((with_reducible refine gate_callee (f := 39) rfl ?_); refine goesL_ (some 56) rfl rfl Try.func39 (by kernel_rfl) rfl #[.slice Ao42 t113.length co42, .slice Ao43 y121.length co43] rfl (by (try simp only [List.map_toArray, List.map_cons, List.map_nil]); first | done | rfl | (simp only [List.length_drop, List.length_take]; rfl)) ?_; (with_reducible refine (edit_Apply.calls kj2 _ _ t113 _ _ y121 t124 t125 _ ?side1 ?side2 ?side3 ?side4 A30.out).mono ?_); (case side1 => repeat (first | exact (Kd.S_reads' HO_1.out).2.2 | (with_reducible refine Kd.C_alloc ?_ _) | (with_reducible refine Kd.C_drewN ?_ _) | (with_reducible refine Kd.C_drew ?_))); (case side2 => exact (Kd.S_reads' HO_1.out).2.1); (case side3 => repeat (first | exact (Kd.R_reads' HO123.out).2.2 | (with_reducible refine Kd.C_alloc ?_ _) | (with_reducible refine Kd.C_drewN ?_ _) | (with_reducible refine Kd.C_drew ?_))); (case side4 => exact (Kd.R_reads' HO123.out).2.1); rintro e w44 ⟨v126, rfl, ho0, hb⟩; refine ⟨_, rfl, ?_⟩; have n0_ := Aside0.mk (Kd.S_elder' (by (with_reducible repeat (first | apply Kd.S_alloc | apply Kd.S_drewN | apply Kd.S_drew)); exact HO_1.out) (Kd.R_base ho0) hb); have n1_ := Aside0.mk (Kd.R_elder' (by (with_reducible repeat (first | apply Kd.R_alloc | apply Kd.R_drewN | apply Kd.R_drew)); exact HO123.out) (Kd.R_base ho0) hb); have n2_ := Aside0.mk (Kd.R_lower (Kd.R_new' ho0 (Kd.R_lt (by (with_reducible repeat (first | apply Kd.R_alloc | apply Kd.R_drewN | apply Kd.R_drew)); exact HO123.out))) (below_size (by repeat (first | (with_reducible first | exact HB.out | apply below_alloc | apply pw_below_drewN | apply below_drew1) | exact HB.out)))); have n3_ := Aside0.mk (below_step (by repeat (first | (with_reducible first | exact HB.out | apply below_alloc | apply pw_below_drewN | apply below_drew1) | exact HB.out)) hb); clear HO_1; clear HO123; clear HB; have HO_1 := n0_; have HO123 := n1_; have HO127 := n2_; have HB := n3_; clear n0_ n1_ n2_ n3_; (try clear hb); (try clear hb2); (try clear hk); (try clear hi); (try clear ho0)) | ((with_reducible refine gate_callee (f := 41) rfl ?_); refine goesL_ (some 61) rfl rfl Try.func41 (by kernel_rfl) rfl #[.slice Ao42 t113.length co42] rfl (by (try simp only [List.map_toArray, List.map_cons, List.map_nil]); first | done | rfl | (simp only [List.length_drop, List.length_take]; rfl)) ?_; (with_reducible refine (edit_Counts.calls kj2 _ _ t113 t128 t129 t130 _ ?side1 ?side2 A31.out).mono ?_); (case side1 => repeat (first | exact (Kd.S_reads' HO_1.out).2.2 | (with_reducible refine Kd.C_alloc ?_ _) | (with_reducible refine Kd.C_drewN ?_ _) | (with_reducible refine Kd.C_drew ?_))); (case side2 => exact (Kd.S_reads' HO_1.out).2.1); rintro e w45 ⟨rfl, hb⟩; refine ⟨_, rfl, ?_⟩; have n0_ := Aside0.mk (Kd.S_below (by (with_reducible repeat (first | apply Kd.S_alloc | apply Kd.S_drewN | apply Kd.S_drew)); exact HO_1.out) hb); have n1_ := Aside0.mk (Kd.R_below (by (with_reducible repeat (first | apply Kd.R_alloc | apply Kd.R_drewN | apply Kd.R_drew)); exact HO123.out) hb); have n2_ := Aside0.mk (Kd.R_below (by (with_reducible repeat (first | apply Kd.R_alloc | apply Kd.R_drewN | apply Kd.R_drew)); exact HO127.out) hb); have n3_ := Aside0.mk (below_step (by repeat (first | (with_reducible first | exact HB.out | apply below_alloc | apply pw_below_drewN | apply below_drew1) | exact HB.out)) hb); clear HO_1; clear HO123; clear HO127; clear HB; have HO_1 := n0_; have HO123 := n1_; have HO127 := n2_; have HB := n3_; clear n0_ n1_ n2_ n3_; (try clear hb); (try clear hb2); (try clear hk); (try clear hi); obtain ⟨Ao46, co46, eo46⟩ := Kd.R_slice HO127.out; subst eo46; have p131 : 0 ≤ (1 : Int) := (by omega); have q131 : 1 < (t124.length : Int) := of_decide_eq_true (by first | (with_reducible assumption) | assumption); obtain ⟨ad131, e131, hx131_0⟩ := Kd.at_string (Kd.R_reads' HO127.out).2.2 1 p131 q131; cases e131; (try simp only [show (1 : Int).toNat = 1 from rfl, Nat.reduceMul, Nat.reduceEqDiff, Go.Addr.add, ↓reduceIte] at hx131_0); have qi131 : (1 < t124.length) = True := eq_true (by omega); (try rw [show ((1 : Int)).toNat = 1 from rfl] at hx131_0); replace p131 := eq_true p131; replace q131 := eq_true q131) | (go_at_call 44; (with_reducible refine (edit_Right.calls kj2 _ _ t113 t132 _ ?side1 ?side2 A39.out).mono ?_); (case side1 => repeat (first | exact (Kd.S_reads' HO_1.out).2.2 | (with_reducible refine Kd.C_alloc ?_ _) | (with_reducible refine Kd.C_drewN ?_ _) | (with_reducible refine Kd.C_drew ?_))); (case side2 => exact (Kd.S_reads' HO_1.out).2.1); rintro e w47 ⟨rfl, hb⟩; have n0_ := Aside0.mk (Kd.S_below (by (with_reducible repeat (first | apply Kd.S_alloc | apply Kd.S_drewN | apply Kd.S_drew)); exact HO_1.out) hb); have n1_ := Aside0.mk (Kd.R_below (by (with_reducible repeat (first | apply Kd.R_alloc | apply Kd.R_drewN | apply Kd.R_drew)); exact HO123.out) hb); have n2_ := Aside0.mk (Kd.R_below (by (with_reducible repeat (first | apply Kd.R_alloc | apply Kd.R_drewN | apply Kd.R_drew)); exact HO127.out) hb); have n3_ := Aside0.mk (below_step (by repeat (first | (with_reducible first | exact HB.out | apply below_alloc | apply pw_below_drewN | apply below_drew1) | exact HB.out)) hb); clear HO_1; clear HO123; clear HO127; clear HB; have HO_1 := n0_; have HO123 := n1_; have HO127 := n2_; have HB := n3_; clear n0_ n1_ n2_ n3_; (try clear hb); (try clear hb2); (try clear hk); (try clear hi)))
                      go_ret
                      exact ⟨by first | rfl | (simp [errW_none, errW_some] <;> rfl) | (simp [*, errW_none, errW_some] <;> rfl), by repeat (first | (with_reducible first | exact HB.out | apply below_alloc | apply pw_below_drewN | apply below_drew1) | exact HB.out)⟩
                    · rw [if_neg c38] at H
                      have c38b0 : (t130 == 1) = false := beq_eq_false_iff_ne.mpr c38
                      have c38b1 : (t130 != 1) = true := bne_iff_ne.mpr c38
                      obtain rfl := Option.some.inj H
                      go_wp2_with (first | ((with_reducible refine gate_dst (N := 55) rfl ?_); (try (refine gate_guard (by rfl) ?_; dsimp only)); refine Kd.R_lit Kd.string _ 9 ?hg (N := 55) ?hd (xs := ([(⟨#[97]⟩ : ByteArray), (⟨#[98]⟩ : ByteArray)] : List ByteArray)) (inner := [.string (⟨#[97]⟩ : ByteArray), .string (⟨#[98]⟩ : ByteArray)]) (ok := fun _ => True) (okp := fun _ => True) ?hr ?hp (fun _ hk => hk) trivial (Below.refl _ _) (Nat.le_refl _) (by simp) ?_; (case hd => rfl); (case hg => rfl); (case hr => first | (go_simp; done) | (go_simp; rfl)); (case hp => exact (Reps.one (show Kd.M Kd.string _ _ _ (⟨#[97]⟩ : ByteArray) [.string (⟨#[97]⟩ : ByteArray)] from rfl) (Reps.one (show Kd.M Kd.string _ _ _ (⟨#[98]⟩ : ByteArray) [.string (⟨#[98]⟩ : ByteArray)] from rfl) (Reps.none _ _)))); intro v122 w48 ho49 hb hg_ hnew_; clear hg_ hnew_; (first | rw [← Ny121.out] at ho49 | (simp only [Int.reduceToNat] at ho49; rw [← Ny121.out] at ho49)); have n0_ := Aside0.mk (Kd.S_elder' (by (with_reducible repeat (first | apply Kd.S_alloc | apply Kd.S_drewN | apply Kd.S_drew)); exact HO_1.out) (Kd.R_base ho49) hb); have n1_ := Aside0.mk (Kd.R_lower ho49 (below_size (by repeat (first | (with_reducible first | exact HB.out | apply below_alloc | apply pw_below_drewN | apply below_drew1) | exact HB.out)))); have n2_ := Aside0.mk (below_step (by repeat (first | (with_reducible first | exact HB.out | apply below_alloc | apply pw_below_drewN | apply below_drew1) | exact HB.out)) hb); clear HO_1; clear HB; have HO_1 := n0_; have HO123 := n1_; have HB := n2_; clear n0_ n1_ n2_; clear hb ho49; obtain ⟨Ao50, co50, eo50⟩ := Kd.S_slice HO_1.out; subst eo50; obtain ⟨Ao51, co51, eo51⟩ := Kd.R_slice HO123.out; subst eo51) | ((with_reducible refine gate_callee (f := 39) rfl ?_); refine goesL_ (some 56) rfl rfl Try.func39 (by kernel_rfl) rfl #[.slice Ao50 t113.length co50, .slice Ao51 y121.length co51] rfl (by (try simp only [List.map_toArray, List.map_cons, List.map_nil]); first | done | rfl | (simp only [List.length_drop, List.length_take]; rfl)) ?_; (with_reducible refine (edit_Apply.calls kj2 _ _ t113 _ _ y121 t124 t125 _ ?side1 ?side2 ?side3 ?side4 A30.out).mono ?_); (case side1 => repeat (first | exact (Kd.S_reads' HO_1.out).2.2 | (with_reducible refine Kd.C_alloc ?_ _) | (with_reducible refine Kd.C_drewN ?_ _) | (with_reducible refine Kd.C_drew ?_))); (case side2 => exact (Kd.S_reads' HO_1.out).2.1); (case side3 => repeat (first | exact (Kd.R_reads' HO123.out).2.2 | (with_reducible refine Kd.C_alloc ?_ _) | (with_reducible refine Kd.C_drewN ?_ _) | (with_reducible refine Kd.C_drew ?_))); (case side4 => exact (Kd.R_reads' HO123.out).2.1); rintro e w52 ⟨v126, rfl, ho0, hb⟩; refine ⟨_, rfl, ?_⟩; have n0_ := Aside0.mk (Kd.S_elder' (by (with_reducible repeat (first | apply Kd.S_alloc | apply Kd.S_drewN | apply Kd.S_drew)); exact HO_1.out) (Kd.R_base ho0) hb); have n1_ := Aside0.mk (Kd.R_elder' (by (with_reducible repeat (first | apply Kd.R_alloc | apply Kd.R_drewN | apply Kd.R_drew)); exact HO123.out) (Kd.R_base ho0) hb); have n2_ := Aside0.mk (Kd.R_lower (Kd.R_new' ho0 (Kd.R_lt (by (with_reducible repeat (first | apply Kd.R_alloc | apply Kd.R_drewN | apply Kd.R_drew)); exact HO123.out))) (below_size (by repeat (first | (with_reducible first | exact HB.out | apply below_alloc | apply pw_below_drewN | apply below_drew1) | exact HB.out)))); have n3_ := Aside0.mk (below_step (by repeat (first | (with_reducible first | exact HB.out | apply below_alloc | apply pw_below_drewN | apply below_drew1) | exact HB.out)) hb); clear HO_1; clear HO123; clear HB; have HO_1 := n0_; have HO123 := n1_; have HO127 := n2_; have HB := n3_; clear n0_ n1_ n2_ n3_; (try clear hb); (try clear hb2); (try clear hk); (try clear hi); (try clear ho0)) | ((with_reducible refine gate_callee (f := 41) rfl ?_); refine goesL_ (some 61) rfl rfl Try.func41 (by kernel_rfl) rfl #[.slice Ao50 t113.length co50] rfl (by (try simp only [List.map_toArray, List.map_cons, List.map_nil]); first | done | rfl | (simp only [List.length_drop, List.length_take]; rfl)) ?_; (with_reducible refine (edit_Counts.calls kj2 _ _ t113 t128 t129 t130 _ ?side1 ?side2 A31.out).mono ?_); (case side1 => repeat (first | exact (Kd.S_reads' HO_1.out).2.2 | (with_reducible refine Kd.C_alloc ?_ _) | (with_reducible refine Kd.C_drewN ?_ _) | (with_reducible refine Kd.C_drew ?_))); (case side2 => exact (Kd.S_reads' HO_1.out).2.1); rintro e w53 ⟨rfl, hb⟩; refine ⟨_, rfl, ?_⟩; have n0_ := Aside0.mk (Kd.S_below (by (with_reducible repeat (first | apply Kd.S_alloc | apply Kd.S_drewN | apply Kd.S_drew)); exact HO_1.out) hb); have n1_ := Aside0.mk (Kd.R_below (by (with_reducible repeat (first | apply Kd.R_alloc | apply Kd.R_drewN | apply Kd.R_drew)); exact HO123.out) hb); have n2_ := Aside0.mk (Kd.R_below (by (with_reducible repeat (first | apply Kd.R_alloc | apply Kd.R_drewN | apply Kd.R_drew)); exact HO127.out) hb); have n3_ := Aside0.mk (below_step (by repeat (first | (with_reducible first | exact HB.out | apply below_alloc | apply pw_below_drewN | apply below_drew1) | exact HB.out)) hb); clear HO_1; clear HO123; clear HO127; clear HB; have HO_1 := n0_; have HO123 := n1_; have HO127 := n2_; have HB := n3_; clear n0_ n1_ n2_ n3_; (try clear hb); (try clear hb2); (try clear hk); (try clear hi); obtain ⟨Ao54, co54, eo54⟩ := Kd.R_slice HO127.out; subst eo54; have p131 : 0 ≤ (1 : Int) := (by omega); have q131 : 1 < (t124.length : Int) := of_decide_eq_true (by first | (with_reducible assumption) | assumption); obtain ⟨ad131, e131, hx131_0⟩ := Kd.at_string (Kd.R_reads' HO127.out).2.2 1 p131 q131; cases e131; (try simp only [show (1 : Int).toNat = 1 from rfl, Nat.reduceMul, Nat.reduceEqDiff, Go.Addr.add, ↓reduceIte] at hx131_0); have qi131 : (1 < t124.length) = True := eq_true (by omega); (try rw [show ((1 : Int)).toNat = 1 from rfl] at hx131_0); replace p131 := eq_true p131; replace q131 := eq_true q131))
                      go_ret
                      exact ⟨by first | rfl | (simp [errW_none, errW_some] <;> rfl) | (simp [*, errW_none, errW_some] <;> rfl), by repeat (first | (with_reducible first | exact HB.out | apply below_alloc | apply pw_below_drewN | apply below_drew1) | exact HB.out)⟩
                  · rw [if_neg c37] at H
                    have c37b0 : (t129 == 1) = false := beq_eq_false_iff_ne.mpr c37
                    have c37b1 : (t129 != 1) = true := bne_iff_ne.mpr c37
                    obtain rfl := Option.some.inj H
                    go_wp2_with (first | ((with_reducible refine gate_dst (N := 55) rfl ?_); (try (refine gate_guard (by rfl) ?_; dsimp only)); refine Kd.R_lit Kd.string _ 9 ?hg (N := 55) ?hd (xs := ([(⟨#[97]⟩ : ByteArray), (⟨#[98]⟩ : ByteArray)] : List ByteArray)) (inner := [.string (⟨#[97]⟩ : ByteArray), .string (⟨#[98]⟩ : ByteArray)]) (ok := fun _ => True) (okp := fun _ => True) ?hr ?hp (fun _ hk => hk) trivial (Below.refl _ _) (Nat.le_refl _) (by simp) ?_; (case hd => rfl); (case hg => rfl); (case hr => first | (go_simp; done) | (go_simp; rfl)); (case hp => exact (Reps.one (show Kd.M Kd.string _ _ _ (⟨#[97]⟩ : ByteArray) [.string (⟨#[97]⟩ : ByteArray)] from rfl) (Reps.one (show Kd.M Kd.string _ _ _ (⟨#[98]⟩ : ByteArray) [.string (⟨#[98]⟩ : ByteArray)] from rfl) (Reps.none _ _)))); intro v122 w55 ho56 hb hg_ hnew_; clear hg_ hnew_; (first | rw [← Ny121.out] at ho56 | (simp only [Int.reduceToNat] at ho56; rw [← Ny121.out] at ho56)); have n0_ := Aside0.mk (Kd.S_elder' (by (with_reducible repeat (first | apply Kd.S_alloc | apply Kd.S_drewN | apply Kd.S_drew)); exact HO_1.out) (Kd.R_base ho56) hb); have n1_ := Aside0.mk (Kd.R_lower ho56 (below_size (by repeat (first | (with_reducible first | exact HB.out | apply below_alloc | apply pw_below_drewN | apply below_drew1) | exact HB.out)))); have n2_ := Aside0.mk (below_step (by repeat (first | (with_reducible first | exact HB.out | apply below_alloc | apply pw_below_drewN | apply below_drew1) | exact HB.out)) hb); clear HO_1; clear HB; have HO_1 := n0_; have HO123 := n1_; have HB := n2_; clear n0_ n1_ n2_; clear hb ho56; obtain ⟨Ao57, co57, eo57⟩ := Kd.S_slice HO_1.out; subst eo57; obtain ⟨Ao58, co58, eo58⟩ := Kd.R_slice HO123.out; subst eo58) | ((with_reducible refine gate_callee (f := 39) rfl ?_); refine goesL_ (some 56) rfl rfl Try.func39 (by kernel_rfl) rfl #[.slice Ao57 t113.length co57, .slice Ao58 y121.length co58] rfl (by (try simp only [List.map_toArray, List.map_cons, List.map_nil]); first | done | rfl | (simp only [List.length_drop, List.length_take]; rfl)) ?_; (with_reducible refine (edit_Apply.calls kj2 _ _ t113 _ _ y121 t124 t125 _ ?side1 ?side2 ?side3 ?side4 A30.out).mono ?_); (case side1 => repeat (first | exact (Kd.S_reads' HO_1.out).2.2 | (with_reducible refine Kd.C_alloc ?_ _) | (with_reducible refine Kd.C_drewN ?_ _) | (with_reducible refine Kd.C_drew ?_))); (case side2 => exact (Kd.S_reads' HO_1.out).2.1); (case side3 => repeat (first | exact (Kd.R_reads' HO123.out).2.2 | (with_reducible refine Kd.C_alloc ?_ _) | (with_reducible refine Kd.C_drewN ?_ _) | (with_reducible refine Kd.C_drew ?_))); (case side4 => exact (Kd.R_reads' HO123.out).2.1); rintro e w59 ⟨v126, rfl, ho0, hb⟩; refine ⟨_, rfl, ?_⟩; have n0_ := Aside0.mk (Kd.S_elder' (by (with_reducible repeat (first | apply Kd.S_alloc | apply Kd.S_drewN | apply Kd.S_drew)); exact HO_1.out) (Kd.R_base ho0) hb); have n1_ := Aside0.mk (Kd.R_elder' (by (with_reducible repeat (first | apply Kd.R_alloc | apply Kd.R_drewN | apply Kd.R_drew)); exact HO123.out) (Kd.R_base ho0) hb); have n2_ := Aside0.mk (Kd.R_lower (Kd.R_new' ho0 (Kd.R_lt (by (with_reducible repeat (first | apply Kd.R_alloc | apply Kd.R_drewN | apply Kd.R_drew)); exact HO123.out))) (below_size (by repeat (first | (with_reducible first | exact HB.out | apply below_alloc | apply pw_below_drewN | apply below_drew1) | exact HB.out)))); have n3_ := Aside0.mk (below_step (by repeat (first | (with_reducible first | exact HB.out | apply below_alloc | apply pw_below_drewN | apply below_drew1) | exact HB.out)) hb); clear HO_1; clear HO123; clear HB; have HO_1 := n0_; have HO123 := n1_; have HO127 := n2_; have HB := n3_; clear n0_ n1_ n2_ n3_; (try clear hb); (try clear hb2); (try clear hk); (try clear hi); (try clear ho0)) | ((with_reducible refine gate_callee (f := 41) rfl ?_); refine goesL_ (some 61) rfl rfl Try.func41 (by kernel_rfl) rfl #[.slice Ao57 t113.length co57] rfl (by (try simp only [List.map_toArray, List.map_cons, List.map_nil]); first | done | rfl | (simp only [List.length_drop, List.length_take]; rfl)) ?_; (with_reducible refine (edit_Counts.calls kj2 _ _ t113 t128 t129 t130 _ ?side1 ?side2 A31.out).mono ?_); (case side1 => repeat (first | exact (Kd.S_reads' HO_1.out).2.2 | (with_reducible refine Kd.C_alloc ?_ _) | (with_reducible refine Kd.C_drewN ?_ _) | (with_reducible refine Kd.C_drew ?_))); (case side2 => exact (Kd.S_reads' HO_1.out).2.1); rintro e w60 ⟨rfl, hb⟩; refine ⟨_, rfl, ?_⟩; have n0_ := Aside0.mk (Kd.S_below (by (with_reducible repeat (first | apply Kd.S_alloc | apply Kd.S_drewN | apply Kd.S_drew)); exact HO_1.out) hb); have n1_ := Aside0.mk (Kd.R_below (by (with_reducible repeat (first | apply Kd.R_alloc | apply Kd.R_drewN | apply Kd.R_drew)); exact HO123.out) hb); have n2_ := Aside0.mk (Kd.R_below (by (with_reducible repeat (first | apply Kd.R_alloc | apply Kd.R_drewN | apply Kd.R_drew)); exact HO127.out) hb); have n3_ := Aside0.mk (below_step (by repeat (first | (with_reducible first | exact HB.out | apply below_alloc | apply pw_below_drewN | apply below_drew1) | exact HB.out)) hb); clear HO_1; clear HO123; clear HO127; clear HB; have HO_1 := n0_; have HO123 := n1_; have HO127 := n2_; have HB := n3_; clear n0_ n1_ n2_ n3_; (try clear hb); (try clear hb2); (try clear hk); (try clear hi); obtain ⟨Ao61, co61, eo61⟩ := Kd.R_slice HO127.out; subst eo61; have p131 : 0 ≤ (1 : Int) := (by omega); have q131 : 1 < (t124.length : Int) := of_decide_eq_true (by first | (with_reducible assumption) | assumption); obtain ⟨ad131, e131, hx131_0⟩ := Kd.at_string (Kd.R_reads' HO127.out).2.2 1 p131 q131; cases e131; (try simp only [show (1 : Int).toNat = 1 from rfl, Nat.reduceMul, Nat.reduceEqDiff, Go.Addr.add, ↓reduceIte] at hx131_0); have qi131 : (1 < t124.length) = True := eq_true (by omega); (try rw [show ((1 : Int)).toNat = 1 from rfl] at hx131_0); replace p131 := eq_true p131; replace q131 := eq_true q131))
                    go_ret
                    exact ⟨by first | rfl | (simp [errW_none, errW_some] <;> rfl) | (simp [*, errW_none, errW_some] <;> rfl), by repeat (first | (with_reducible first | exact HB.out | apply below_alloc | apply pw_below_drewN | apply below_drew1) | exact HB.out)⟩
                · rw [if_neg c36] at H
                  have c36b0 : (t128 == 1) = false := beq_eq_false_iff_ne.mpr c36
                  have c36b1 : (t128 != 1) = true := bne_iff_ne.mpr c36
                  obtain rfl := Option.some.inj H
                  go_wp2_with (first | ((with_reducible refine gate_dst (N := 55) rfl ?_); (try (refine gate_guard (by rfl) ?_; dsimp only)); refine Kd.R_lit Kd.string _ 9 ?hg (N := 55) ?hd (xs := ([(⟨#[97]⟩ : ByteArray), (⟨#[98]⟩ : ByteArray)] : List ByteArray)) (inner := [.string (⟨#[97]⟩ : ByteArray), .string (⟨#[98]⟩ : ByteArray)]) (ok := fun _ => True) (okp := fun _ => True) ?hr ?hp (fun _ hk => hk) trivial (Below.refl _ _) (Nat.le_refl _) (by simp) ?_; (case hd => rfl); (case hg => rfl); (case hr => first | (go_simp; done) | (go_simp; rfl)); (case hp => exact (Reps.one (show Kd.M Kd.string _ _ _ (⟨#[97]⟩ : ByteArray) [.string (⟨#[97]⟩ : ByteArray)] from rfl) (Reps.one (show Kd.M Kd.string _ _ _ (⟨#[98]⟩ : ByteArray) [.string (⟨#[98]⟩ : ByteArray)] from rfl) (Reps.none _ _)))); intro v122 w62 ho63 hb hg_ hnew_; clear hg_ hnew_; (first | rw [← Ny121.out] at ho63 | (simp only [Int.reduceToNat] at ho63; rw [← Ny121.out] at ho63)); have n0_ := Aside0.mk (Kd.S_elder' (by (with_reducible repeat (first | apply Kd.S_alloc | apply Kd.S_drewN | apply Kd.S_drew)); exact HO_1.out) (Kd.R_base ho63) hb); have n1_ := Aside0.mk (Kd.R_lower ho63 (below_size (by repeat (first | (with_reducible first | exact HB.out | apply below_alloc | apply pw_below_drewN | apply below_drew1) | exact HB.out)))); have n2_ := Aside0.mk (below_step (by repeat (first | (with_reducible first | exact HB.out | apply below_alloc | apply pw_below_drewN | apply below_drew1) | exact HB.out)) hb); clear HO_1; clear HB; have HO_1 := n0_; have HO123 := n1_; have HB := n2_; clear n0_ n1_ n2_; clear hb ho63; obtain ⟨Ao64, co64, eo64⟩ := Kd.S_slice HO_1.out; subst eo64; obtain ⟨Ao65, co65, eo65⟩ := Kd.R_slice HO123.out; subst eo65) | ((with_reducible refine gate_callee (f := 39) rfl ?_); refine goesL_ (some 56) rfl rfl Try.func39 (by kernel_rfl) rfl #[.slice Ao64 t113.length co64, .slice Ao65 y121.length co65] rfl (by (try simp only [List.map_toArray, List.map_cons, List.map_nil]); first | done | rfl | (simp only [List.length_drop, List.length_take]; rfl)) ?_; (with_reducible refine (edit_Apply.calls kj2 _ _ t113 _ _ y121 t124 t125 _ ?side1 ?side2 ?side3 ?side4 A30.out).mono ?_); (case side1 => repeat (first | exact (Kd.S_reads' HO_1.out).2.2 | (with_reducible refine Kd.C_alloc ?_ _) | (with_reducible refine Kd.C_drewN ?_ _) | (with_reducible refine Kd.C_drew ?_))); (case side2 => exact (Kd.S_reads' HO_1.out).2.1); (case side3 => repeat (first | exact (Kd.R_reads' HO123.out).2.2 | (with_reducible refine Kd.C_alloc ?_ _) | (with_reducible refine Kd.C_drewN ?_ _) | (with_reducible refine Kd.C_drew ?_))); (case side4 => exact (Kd.R_reads' HO123.out).2.1); rintro e w66 ⟨v126, rfl, ho0, hb⟩; refine ⟨_, rfl, ?_⟩; have n0_ := Aside0.mk (Kd.S_elder' (by (with_reducible repeat (first | apply Kd.S_alloc | apply Kd.S_drewN | apply Kd.S_drew)); exact HO_1.out) (Kd.R_base ho0) hb); have n1_ := Aside0.mk (Kd.R_elder' (by (with_reducible repeat (first | apply Kd.R_alloc | apply Kd.R_drewN | apply Kd.R_drew)); exact HO123.out) (Kd.R_base ho0) hb); have n2_ := Aside0.mk (Kd.R_lower (Kd.R_new' ho0 (Kd.R_lt (by (with_reducible repeat (first | apply Kd.R_alloc | apply Kd.R_drewN | apply Kd.R_drew)); exact HO123.out))) (below_size (by repeat (first | (with_reducible first | exact HB.out | apply below_alloc | apply pw_below_drewN | apply below_drew1) | exact HB.out)))); have n3_ := Aside0.mk (below_step (by repeat (first | (with_reducible first | exact HB.out | apply below_alloc | apply pw_below_drewN | apply below_drew1) | exact HB.out)) hb); clear HO_1; clear HO123; clear HB; have HO_1 := n0_; have HO123 := n1_; have HO127 := n2_; have HB := n3_; clear n0_ n1_ n2_ n3_; (try clear hb); (try clear hb2); (try clear hk); (try clear hi); (try clear ho0)) | ((with_reducible refine gate_callee (f := 41) rfl ?_); refine goesL_ (some 61) rfl rfl Try.func41 (by kernel_rfl) rfl #[.slice Ao64 t113.length co64] rfl (by (try simp only [List.map_toArray, List.map_cons, List.map_nil]); first | done | rfl | (simp only [List.length_drop, List.length_take]; rfl)) ?_; (with_reducible refine (edit_Counts.calls kj2 _ _ t113 t128 t129 t130 _ ?side1 ?side2 A31.out).mono ?_); (case side1 => repeat (first | exact (Kd.S_reads' HO_1.out).2.2 | (with_reducible refine Kd.C_alloc ?_ _) | (with_reducible refine Kd.C_drewN ?_ _) | (with_reducible refine Kd.C_drew ?_))); (case side2 => exact (Kd.S_reads' HO_1.out).2.1); rintro e w67 ⟨rfl, hb⟩; refine ⟨_, rfl, ?_⟩; have n0_ := Aside0.mk (Kd.S_below (by (with_reducible repeat (first | apply Kd.S_alloc | apply Kd.S_drewN | apply Kd.S_drew)); exact HO_1.out) hb); have n1_ := Aside0.mk (Kd.R_below (by (with_reducible repeat (first | apply Kd.R_alloc | apply Kd.R_drewN | apply Kd.R_drew)); exact HO123.out) hb); have n2_ := Aside0.mk (Kd.R_below (by (with_reducible repeat (first | apply Kd.R_alloc | apply Kd.R_drewN | apply Kd.R_drew)); exact HO127.out) hb); have n3_ := Aside0.mk (below_step (by repeat (first | (with_reducible first | exact HB.out | apply below_alloc | apply pw_below_drewN | apply below_drew1) | exact HB.out)) hb); clear HO_1; clear HO123; clear HO127; clear HB; have HO_1 := n0_; have HO123 := n1_; have HO127 := n2_; have HB := n3_; clear n0_ n1_ n2_ n3_; (try clear hb); (try clear hb2); (try clear hk); (try clear hi); obtain ⟨Ao68, co68, eo68⟩ := Kd.R_slice HO127.out; subst eo68; have p131 : 0 ≤ (1 : Int) := (by omega); have q131 : 1 < (t124.length : Int) := of_decide_eq_true (by first | (with_reducible assumption) | assumption); obtain ⟨ad131, e131, hx131_0⟩ := Kd.at_string (Kd.R_reads' HO127.out).2.2 1 p131 q131; cases e131; (try simp only [show (1 : Int).toNat = 1 from rfl, Nat.reduceMul, Nat.reduceEqDiff, Go.Addr.add, ↓reduceIte] at hx131_0); have qi131 : (1 < t124.length) = True := eq_true (by omega); (try rw [show ((1 : Int)).toNat = 1 from rfl] at hx131_0); replace p131 := eq_true p131; replace q131 := eq_true q131))
                  go_ret
                  exact ⟨by first | rfl | (simp [errW_none, errW_some] <;> rfl) | (simp [*, errW_none, errW_some] <;> rfl), by repeat (first | (with_reducible first | exact HB.out | apply below_alloc | apply pw_below_drewN | apply below_drew1) | exact HB.out)⟩
              · rw [if_neg c35] at H
                have c35b0 : ((rdOf ByteArray.empty t124 1).toList == ([99] : List UInt8)) = false := beq_eq_false_iff_ne.mpr c35
                have c35b1 : ((rdOf ByteArray.empty t124 1).toList != ([99] : List UInt8)) = true := bne_iff_ne.mpr c35
                obtain rfl := Option.some.inj H
                go_wp2_with (first | ((with_reducible refine gate_dst (N := 55) rfl ?_); (try (refine gate_guard (by rfl) ?_; dsimp only)); refine Kd.R_lit Kd.string _ 9 ?hg (N := 55) ?hd (xs := ([(⟨#[97]⟩ : ByteArray), (⟨#[98]⟩ : ByteArray)] : List ByteArray)) (inner := [.string (⟨#[97]⟩ : ByteArray), .string (⟨#[98]⟩ : ByteArray)]) (ok := fun _ => True) (okp := fun _ => True) ?hr ?hp (fun _ hk => hk) trivial (Below.refl _ _) (Nat.le_refl _) (by simp) ?_; (case hd => rfl); (case hg => rfl); (case hr => first | (go_simp; done) | (go_simp; rfl)); (case hp => exact (Reps.one (show Kd.M Kd.string _ _ _ (⟨#[97]⟩ : ByteArray) [.string (⟨#[97]⟩ : ByteArray)] from rfl) (Reps.one (show Kd.M Kd.string _ _ _ (⟨#[98]⟩ : ByteArray) [.string (⟨#[98]⟩ : ByteArray)] from rfl) (Reps.none _ _)))); intro v122 w69 ho70 hb hg_ hnew_; clear hg_ hnew_; (first | rw [← Ny121.out] at ho70 | (simp only [Int.reduceToNat] at ho70; rw [← Ny121.out] at ho70)); have n0_ := Aside0.mk (Kd.S_elder' (by (with_reducible repeat (first | apply Kd.S_alloc | apply Kd.S_drewN | apply Kd.S_drew)); exact HO_1.out) (Kd.R_base ho70) hb); have n1_ := Aside0.mk (Kd.R_lower ho70 (below_size (by repeat (first | (with_reducible first | exact HB.out | apply below_alloc | apply pw_below_drewN | apply below_drew1) | exact HB.out)))); have n2_ := Aside0.mk (below_step (by repeat (first | (with_reducible first | exact HB.out | apply below_alloc | apply pw_below_drewN | apply below_drew1) | exact HB.out)) hb); clear HO_1; clear HB; have HO_1 := n0_; have HO123 := n1_; have HB := n2_; clear n0_ n1_ n2_; clear hb ho70; obtain ⟨Ao71, co71, eo71⟩ := Kd.S_slice HO_1.out; subst eo71; obtain ⟨Ao72, co72, eo72⟩ := Kd.R_slice HO123.out; subst eo72) | ((with_reducible refine gate_callee (f := 39) rfl ?_); refine goesL_ (some 56) rfl rfl Try.func39 (by kernel_rfl) rfl #[.slice Ao71 t113.length co71, .slice Ao72 y121.length co72] rfl (by (try simp only [List.map_toArray, List.map_cons, List.map_nil]); first | done | rfl | (simp only [List.length_drop, List.length_take]; rfl)) ?_; (with_reducible refine (edit_Apply.calls kj2 _ _ t113 _ _ y121 t124 t125 _ ?side1 ?side2 ?side3 ?side4 A30.out).mono ?_); (case side1 => repeat (first | exact (Kd.S_reads' HO_1.out).2.2 | (with_reducible refine Kd.C_alloc ?_ _) | (with_reducible refine Kd.C_drewN ?_ _) | (with_reducible refine Kd.C_drew ?_))); (case side2 => exact (Kd.S_reads' HO_1.out).2.1); (case side3 => repeat (first | exact (Kd.R_reads' HO123.out).2.2 | (with_reducible refine Kd.C_alloc ?_ _) | (with_reducible refine Kd.C_drewN ?_ _) | (with_reducible refine Kd.C_drew ?_))); (case side4 => exact (Kd.R_reads' HO123.out).2.1); rintro e w73 ⟨v126, rfl, ho0, hb⟩; refine ⟨_, rfl, ?_⟩; have n0_ := Aside0.mk (Kd.S_elder' (by (with_reducible repeat (first | apply Kd.S_alloc | apply Kd.S_drewN | apply Kd.S_drew)); exact HO_1.out) (Kd.R_base ho0) hb); have n1_ := Aside0.mk (Kd.R_elder' (by (with_reducible repeat (first | apply Kd.R_alloc | apply Kd.R_drewN | apply Kd.R_drew)); exact HO123.out) (Kd.R_base ho0) hb); have n2_ := Aside0.mk (Kd.R_lower (Kd.R_new' ho0 (Kd.R_lt (by (with_reducible repeat (first | apply Kd.R_alloc | apply Kd.R_drewN | apply Kd.R_drew)); exact HO123.out))) (below_size (by repeat (first | (with_reducible first | exact HB.out | apply below_alloc | apply pw_below_drewN | apply below_drew1) | exact HB.out)))); have n3_ := Aside0.mk (below_step (by repeat (first | (with_reducible first | exact HB.out | apply below_alloc | apply pw_below_drewN | apply below_drew1) | exact HB.out)) hb); clear HO_1; clear HO123; clear HB; have HO_1 := n0_; have HO123 := n1_; have HO127 := n2_; have HB := n3_; clear n0_ n1_ n2_ n3_; (try clear hb); (try clear hb2); (try clear hk); (try clear hi); (try clear ho0)) | ((with_reducible refine gate_callee (f := 41) rfl ?_); refine goesL_ (some 61) rfl rfl Try.func41 (by kernel_rfl) rfl #[.slice Ao71 t113.length co71] rfl (by (try simp only [List.map_toArray, List.map_cons, List.map_nil]); first | done | rfl | (simp only [List.length_drop, List.length_take]; rfl)) ?_; (with_reducible refine (edit_Counts.calls kj2 _ _ t113 t128 t129 t130 _ ?side1 ?side2 A31.out).mono ?_); (case side1 => repeat (first | exact (Kd.S_reads' HO_1.out).2.2 | (with_reducible refine Kd.C_alloc ?_ _) | (with_reducible refine Kd.C_drewN ?_ _) | (with_reducible refine Kd.C_drew ?_))); (case side2 => exact (Kd.S_reads' HO_1.out).2.1); rintro e w74 ⟨rfl, hb⟩; refine ⟨_, rfl, ?_⟩; have n0_ := Aside0.mk (Kd.S_below (by (with_reducible repeat (first | apply Kd.S_alloc | apply Kd.S_drewN | apply Kd.S_drew)); exact HO_1.out) hb); have n1_ := Aside0.mk (Kd.R_below (by (with_reducible repeat (first | apply Kd.R_alloc | apply Kd.R_drewN | apply Kd.R_drew)); exact HO123.out) hb); have n2_ := Aside0.mk (Kd.R_below (by (with_reducible repeat (first | apply Kd.R_alloc | apply Kd.R_drewN | apply Kd.R_drew)); exact HO127.out) hb); have n3_ := Aside0.mk (below_step (by repeat (first | (with_reducible first | exact HB.out | apply below_alloc | apply pw_below_drewN | apply below_drew1) | exact HB.out)) hb); clear HO_1; clear HO123; clear HO127; clear HB; have HO_1 := n0_; have HO123 := n1_; have HO127 := n2_; have HB := n3_; clear n0_ n1_ n2_ n3_; (try clear hb); (try clear hb2); (try clear hk); (try clear hi); obtain ⟨Ao75, co75, eo75⟩ := Kd.R_slice HO127.out; subst eo75; have p131 : 0 ≤ (1 : Int) := (by omega); have q131 : 1 < (t124.length : Int) := of_decide_eq_true (by first | (with_reducible assumption) | assumption); obtain ⟨ad131, e131, hx131_0⟩ := Kd.at_string (Kd.R_reads' HO127.out).2.2 1 p131 q131; cases e131; (try simp only [show (1 : Int).toNat = 1 from rfl, Nat.reduceMul, Nat.reduceEqDiff, Go.Addr.add, ↓reduceIte] at hx131_0); have qi131 : (1 < t124.length) = True := eq_true (by omega); (try rw [show ((1 : Int)).toNat = 1 from rfl] at hx131_0); replace p131 := eq_true p131; replace q131 := eq_true q131))
                go_ret
                exact ⟨by first | rfl | (simp [errW_none, errW_some] <;> rfl) | (simp [*, errW_none, errW_some] <;> rfl), by repeat (first | (with_reducible first | exact HB.out | apply below_alloc | apply pw_below_drewN | apply below_drew1) | exact HB.out)⟩
            · rw [if_neg c34] at H
              exact absurd H (by simp)
          · rw [if_neg c33] at H
            have c33b0 : ((t124.length : Int) == 2) = false := beq_eq_false_iff_ne.mpr c33
            have c33b1 : ((t124.length : Int) != 2) = true := bne_iff_ne.mpr c33
            obtain rfl := Option.some.inj H
            go_wp2_with (first | ((with_reducible refine gate_dst (N := 55) rfl ?_); (try (refine gate_guard (by rfl) ?_; dsimp only)); refine Kd.R_lit Kd.string _ 9 ?hg (N := 55) ?hd (xs := ([(⟨#[97]⟩ : ByteArray), (⟨#[98]⟩ : ByteArray)] : List ByteArray)) (inner := [.string (⟨#[97]⟩ : ByteArray), .string (⟨#[98]⟩ : ByteArray)]) (ok := fun _ => True) (okp := fun _ => True) ?hr ?hp (fun _ hk => hk) trivial (Below.refl _ _) (Nat.le_refl _) (by simp) ?_; (case hd => rfl); (case hg => rfl); (case hr => first | (go_simp; done) | (go_simp; rfl)); (case hp => exact (Reps.one (show Kd.M Kd.string _ _ _ (⟨#[97]⟩ : ByteArray) [.string (⟨#[97]⟩ : ByteArray)] from rfl) (Reps.one (show Kd.M Kd.string _ _ _ (⟨#[98]⟩ : ByteArray) [.string (⟨#[98]⟩ : ByteArray)] from rfl) (Reps.none _ _)))); intro v122 w76 ho77 hb hg_ hnew_; clear hg_ hnew_; (first | rw [← Ny121.out] at ho77 | (simp only [Int.reduceToNat] at ho77; rw [← Ny121.out] at ho77)); have n0_ := Aside0.mk (Kd.S_elder' (by (with_reducible repeat (first | apply Kd.S_alloc | apply Kd.S_drewN | apply Kd.S_drew)); exact HO_1.out) (Kd.R_base ho77) hb); have n1_ := Aside0.mk (Kd.R_lower ho77 (below_size (by repeat (first | (with_reducible first | exact HB.out | apply below_alloc | apply pw_below_drewN | apply below_drew1) | exact HB.out)))); have n2_ := Aside0.mk (below_step (by repeat (first | (with_reducible first | exact HB.out | apply below_alloc | apply pw_below_drewN | apply below_drew1) | exact HB.out)) hb); clear HO_1; clear HB; have HO_1 := n0_; have HO123 := n1_; have HB := n2_; clear n0_ n1_ n2_; clear hb ho77; obtain ⟨Ao78, co78, eo78⟩ := Kd.S_slice HO_1.out; subst eo78; obtain ⟨Ao79, co79, eo79⟩ := Kd.R_slice HO123.out; subst eo79) | ((with_reducible refine gate_callee (f := 39) rfl ?_); refine goesL_ (some 56) rfl rfl Try.func39 (by kernel_rfl) rfl #[.slice Ao78 t113.length co78, .slice Ao79 y121.length co79] rfl (by (try simp only [List.map_toArray, List.map_cons, List.map_nil]); first | done | rfl | (simp only [List.length_drop, List.length_take]; rfl)) ?_; (with_reducible refine (edit_Apply.calls kj2 _ _ t113 _ _ y121 t124 t125 _ ?side1 ?side2 ?side3 ?side4 A30.out).mono ?_); (case side1 => repeat (first | exact (Kd.S_reads' HO_1.out).2.2 | (with_reducible refine Kd.C_alloc ?_ _) | (with_reducible refine Kd.C_drewN ?_ _) | (with_reducible refine Kd.C_drew ?_))); (case side2 => exact (Kd.S_reads' HO_1.out).2.1); (case side3 => repeat (first | exact (Kd.R_reads' HO123.out).2.2 | (with_reducible refine Kd.C_alloc ?_ _) | (with_reducible refine Kd.C_drewN ?_ _) | (with_reducible refine Kd.C_drew ?_))); (case side4 => exact (Kd.R_reads' HO123.out).2.1); rintro e w80 ⟨v126, rfl, ho0, hb⟩; refine ⟨_, rfl, ?_⟩; have n0_ := Aside0.mk (Kd.S_elder' (by (with_reducible repeat (first | apply Kd.S_alloc | apply Kd.S_drewN | apply Kd.S_drew)); exact HO_1.out) (Kd.R_base ho0) hb); have n1_ := Aside0.mk (Kd.R_elder' (by (with_reducible repeat (first | apply Kd.R_alloc | apply Kd.R_drewN | apply Kd.R_drew)); exact HO123.out) (Kd.R_base ho0) hb); have n2_ := Aside0.mk (Kd.R_lower (Kd.R_new' ho0 (Kd.R_lt (by (with_reducible repeat (first | apply Kd.R_alloc | apply Kd.R_drewN | apply Kd.R_drew)); exact HO123.out))) (below_size (by repeat (first | (with_reducible first | exact HB.out | apply below_alloc | apply pw_below_drewN | apply below_drew1) | exact HB.out)))); have n3_ := Aside0.mk (below_step (by repeat (first | (with_reducible first | exact HB.out | apply below_alloc | apply pw_below_drewN | apply below_drew1) | exact HB.out)) hb); clear HO_1; clear HO123; clear HB; have HO_1 := n0_; have HO123 := n1_; have HO127 := n2_; have HB := n3_; clear n0_ n1_ n2_ n3_; (try clear hb); (try clear hb2); (try clear hk); (try clear hi); (try clear ho0)) | ((with_reducible refine gate_callee (f := 41) rfl ?_); refine goesL_ (some 61) rfl rfl Try.func41 (by kernel_rfl) rfl #[.slice Ao78 t113.length co78] rfl (by (try simp only [List.map_toArray, List.map_cons, List.map_nil]); first | done | rfl | (simp only [List.length_drop, List.length_take]; rfl)) ?_; (with_reducible refine (edit_Counts.calls kj2 _ _ t113 t128 t129 t130 _ ?side1 ?side2 A31.out).mono ?_); (case side1 => repeat (first | exact (Kd.S_reads' HO_1.out).2.2 | (with_reducible refine Kd.C_alloc ?_ _) | (with_reducible refine Kd.C_drewN ?_ _) | (with_reducible refine Kd.C_drew ?_))); (case side2 => exact (Kd.S_reads' HO_1.out).2.1); rintro e w81 ⟨rfl, hb⟩; refine ⟨_, rfl, ?_⟩; have n0_ := Aside0.mk (Kd.S_below (by (with_reducible repeat (first | apply Kd.S_alloc | apply Kd.S_drewN | apply Kd.S_drew)); exact HO_1.out) hb); have n1_ := Aside0.mk (Kd.R_below (by (with_reducible repeat (first | apply Kd.R_alloc | apply Kd.R_drewN | apply Kd.R_drew)); exact HO123.out) hb); have n2_ := Aside0.mk (Kd.R_below (by (with_reducible repeat (first | apply Kd.R_alloc | apply Kd.R_drewN | apply Kd.R_drew)); exact HO127.out) hb); have n3_ := Aside0.mk (below_step (by repeat (first | (with_reducible first | exact HB.out | apply below_alloc | apply pw_below_drewN | apply below_drew1) | exact HB.out)) hb); clear HO_1; clear HO123; clear HO127; clear HB; have HO_1 := n0_; have HO123 := n1_; have HO127 := n2_; have HB := n3_; clear n0_ n1_ n2_ n3_; (try clear hb); (try clear hb2); (try clear hk); (try clear hi); obtain ⟨Ao82, co82, eo82⟩ := Kd.R_slice HO127.out; subst eo82))
            go_ret
            exact ⟨by first | rfl | (simp [errW_none, errW_some] <;> rfl) | (simp [*, errW_none, errW_some] <;> rfl), by repeat (first | (with_reducible first | exact HB.out | apply below_alloc | apply pw_below_drewN | apply below_drew1) | exact HB.out)⟩
        · rw [if_neg c32] at H
          have c32b0 : (t125 == 0) = false := beq_eq_false_iff_ne.mpr c32
          have c32b1 : (t125 != 0) = true := bne_iff_ne.mpr c32
          obtain rfl := Option.some.inj H
          go_wp2_with (first | ((with_reducible refine gate_dst (N := 55) rfl ?_); (try (refine gate_guard (by rfl) ?_; dsimp only)); refine Kd.R_lit Kd.string _ 9 ?hg (N := 55) ?hd (xs := ([(⟨#[97]⟩ : ByteArray), (⟨#[98]⟩ : ByteArray)] : List ByteArray)) (inner := [.string (⟨#[97]⟩ : ByteArray), .string (⟨#[98]⟩ : ByteArray)]) (ok := fun _ => True) (okp := fun _ => True) ?hr ?hp (fun _ hk => hk) trivial (Below.refl _ _) (Nat.le_refl _) (by simp) ?_; (case hd => rfl); (case hg => rfl); (case hr => first | (go_simp; done) | (go_simp; rfl)); (case hp => exact (Reps.one (show Kd.M Kd.string _ _ _ (⟨#[97]⟩ : ByteArray) [.string (⟨#[97]⟩ : ByteArray)] from rfl) (Reps.one (show Kd.M Kd.string _ _ _ (⟨#[98]⟩ : ByteArray) [.string (⟨#[98]⟩ : ByteArray)] from rfl) (Reps.none _ _)))); intro v122 w83 ho84 hb hg_ hnew_; clear hg_ hnew_; (first | rw [← Ny121.out] at ho84 | (simp only [Int.reduceToNat] at ho84; rw [← Ny121.out] at ho84)); have n0_ := Aside0.mk (Kd.S_elder' (by (with_reducible repeat (first | apply Kd.S_alloc | apply Kd.S_drewN | apply Kd.S_drew)); exact HO_1.out) (Kd.R_base ho84) hb); have n1_ := Aside0.mk (Kd.R_lower ho84 (below_size (by repeat (first | (with_reducible first | exact HB.out | apply below_alloc | apply pw_below_drewN | apply below_drew1) | exact HB.out)))); have n2_ := Aside0.mk (below_step (by repeat (first | (with_reducible first | exact HB.out | apply below_alloc | apply pw_below_drewN | apply below_drew1) | exact HB.out)) hb); clear HO_1; clear HB; have HO_1 := n0_; have HO123 := n1_; have HB := n2_; clear n0_ n1_ n2_; clear hb ho84; obtain ⟨Ao85, co85, eo85⟩ := Kd.S_slice HO_1.out; subst eo85; obtain ⟨Ao86, co86, eo86⟩ := Kd.R_slice HO123.out; subst eo86) | ((with_reducible refine gate_callee (f := 39) rfl ?_); refine goesL_ (some 56) rfl rfl Try.func39 (by kernel_rfl) rfl #[.slice Ao85 t113.length co85, .slice Ao86 y121.length co86] rfl (by (try simp only [List.map_toArray, List.map_cons, List.map_nil]); first | done | rfl | (simp only [List.length_drop, List.length_take]; rfl)) ?_; (with_reducible refine (edit_Apply.calls kj2 _ _ t113 _ _ y121 t124 t125 _ ?side1 ?side2 ?side3 ?side4 A30.out).mono ?_); (case side1 => repeat (first | exact (Kd.S_reads' HO_1.out).2.2 | (with_reducible refine Kd.C_alloc ?_ _) | (with_reducible refine Kd.C_drewN ?_ _) | (with_reducible refine Kd.C_drew ?_))); (case side2 => exact (Kd.S_reads' HO_1.out).2.1); (case side3 => repeat (first | exact (Kd.R_reads' HO123.out).2.2 | (with_reducible refine Kd.C_alloc ?_ _) | (with_reducible refine Kd.C_drewN ?_ _) | (with_reducible refine Kd.C_drew ?_))); (case side4 => exact (Kd.R_reads' HO123.out).2.1); rintro e w87 ⟨v126, rfl, ho0, hb⟩; refine ⟨_, rfl, ?_⟩; have n0_ := Aside0.mk (Kd.S_elder' (by (with_reducible repeat (first | apply Kd.S_alloc | apply Kd.S_drewN | apply Kd.S_drew)); exact HO_1.out) (Kd.R_base ho0) hb); have n1_ := Aside0.mk (Kd.R_elder' (by (with_reducible repeat (first | apply Kd.R_alloc | apply Kd.R_drewN | apply Kd.R_drew)); exact HO123.out) (Kd.R_base ho0) hb); have n2_ := Aside0.mk (Kd.R_lower (Kd.R_new' ho0 (Kd.R_lt (by (with_reducible repeat (first | apply Kd.R_alloc | apply Kd.R_drewN | apply Kd.R_drew)); exact HO123.out))) (below_size (by repeat (first | (with_reducible first | exact HB.out | apply below_alloc | apply pw_below_drewN | apply below_drew1) | exact HB.out)))); have n3_ := Aside0.mk (below_step (by repeat (first | (with_reducible first | exact HB.out | apply below_alloc | apply pw_below_drewN | apply below_drew1) | exact HB.out)) hb); clear HO_1; clear HO123; clear HB; have HO_1 := n0_; have HO123 := n1_; have HO127 := n2_; have HB := n3_; clear n0_ n1_ n2_ n3_; (try clear hb); (try clear hb2); (try clear hk); (try clear hi); (try clear ho0)) | ((with_reducible refine gate_callee (f := 41) rfl ?_); refine goesL_ (some 61) rfl rfl Try.func41 (by kernel_rfl) rfl #[.slice Ao85 t113.length co85] rfl (by (try simp only [List.map_toArray, List.map_cons, List.map_nil]); first | done | rfl | (simp only [List.length_drop, List.length_take]; rfl)) ?_; (with_reducible refine (edit_Counts.calls kj2 _ _ t113 t128 t129 t130 _ ?side1 ?side2 A31.out).mono ?_); (case side1 => repeat (first | exact (Kd.S_reads' HO_1.out).2.2 | (with_reducible refine Kd.C_alloc ?_ _) | (with_reducible refine Kd.C_drewN ?_ _) | (with_reducible refine Kd.C_drew ?_))); (case side2 => exact (Kd.S_reads' HO_1.out).2.1); rintro e w88 ⟨rfl, hb⟩; refine ⟨_, rfl, ?_⟩; have n0_ := Aside0.mk (Kd.S_below (by (with_reducible repeat (first | apply Kd.S_alloc | apply Kd.S_drewN | apply Kd.S_drew)); exact HO_1.out) hb); have n1_ := Aside0.mk (Kd.R_below (by (with_reducible repeat (first | apply Kd.R_alloc | apply Kd.R_drewN | apply Kd.R_drew)); exact HO123.out) hb); have n2_ := Aside0.mk (Kd.R_below (by (with_reducible repeat (first | apply Kd.R_alloc | apply Kd.R_drewN | apply Kd.R_drew)); exact HO127.out) hb); have n3_ := Aside0.mk (below_step (by repeat (first | (with_reducible first | exact HB.out | apply below_alloc | apply pw_below_drewN | apply below_drew1) | exact HB.out)) hb); clear HO_1; clear HO123; clear HO127; clear HB; have HO_1 := n0_; have HO123 := n1_; have HO127 := n2_; have HB := n3_; clear n0_ n1_ n2_ n3_; (try clear hb); (try clear hb2); (try clear hk); (try clear hi)))
          go_ret
          exact ⟨by first | rfl | (simp [errW_none, errW_some] <;> rfl) | (simp [*, errW_none, errW_some] <;> rfl), by repeat (first | (with_reducible first | exact HB.out | apply below_alloc | apply pw_below_drewN | apply below_drew1) | exact HB.out)⟩

end Go.Proofs.Ytadafplbgophfaa.PA
end
section
-- Written by a program of this seat out of the translation. Not trusted: Lean checks it.
namespace Go.Proofs.Ytadafplbgophfaa.PA
open Go.RowKit Go.Proofs.YtadafplbgophfaaW.PrintWords Go.Proofs.YtadafplbgophfaaW.PrintLast Go.Proofs.YtadafplbgophfaaW.PrintMore
attribute [local go_sem] max2_int min2_int max_two min_two max_three min_three max_four min_four   -- for this text's walks alone
set_option linter.unusedVariables false
set_option linter.unusedSimpArgs false

/-! ### tripartiteref01_Same: function 25 -/
def tripartiteref01_Same.l0 : Nat → List ByteArray → List ByteArray → Int → Option (Bool)
  | 0, _, _, _ => none
  | k + 1, x0, x1, x5 => if x5 < (x0.length : Int) then (if 0 ≤ x5 then (if x5 < (x1.length : Int) then (if (rdOf ByteArray.empty x0 x5).toList = (rdOf ByteArray.empty x1 x5).toList then (tripartiteref01_Same.l0 k x0 x1 (wrap64 (x5 + 1))) else (some false)) else (none)) else (none)) else (some true)
def tripartiteref01_Same.f (k : Nat) (l0 : List ByteArray) (l1 : List ByteArray) : Option (Bool) := if (l0.length : Int) = (l1.length : Int) then (tripartiteref01_Same.l0 k l0 l1 0) else (some false)
theorem tripartiteref01_Same.mono_l : ∀ k, (∀ y0 y1 y2, LeO (tripartiteref01_Same.l0 k y0 y1 y2) (tripartiteref01_Same.l0 (k + 1) y0 y1 y2))
  | 0 => fun _ _ _ r h => by simp [tripartiteref01_Same.l0] at h
  | k + 1 => by
    have ih0 := tripartiteref01_Same.mono_l k
    · intro y0 y1 y2
      unfold tripartiteref01_Same.l0
      repeat' first
      | (with_reducible exact ih0 _ _ _)
      | (with_reducible exact LeO.refl _)
      | (with_reducible exact LeO.none _)
      | (with_reducible refine LeO.ite ?_ ?_)
      | (with_reducible refine LeO.bind ?_ (fun _ => ?_))
      | exact ih0 _ _ _
      | exact LeO.none _
      | refine LeO.ite ?_ ?_
      | refine LeO.bind ?_ (fun _ => ?_)
theorem tripartiteref01_Same.mono : ∀ a0 a1 k, LeO (tripartiteref01_Same.f k a0 a1) (tripartiteref01_Same.f (k + 1) a0 a1) := by
  intro a0 a1 k
  have ih0 := tripartiteref01_Same.mono_l k
  unfold tripartiteref01_Same.f
  repeat' first
      | (with_reducible exact ih0 _ _ _)
      | (with_reducible exact LeO.refl _)
      | (with_reducible exact LeO.none _)
      | (with_reducible refine LeO.ite ?_ ?_)
      | (with_reducible refine LeO.bind ?_ (fun _ => ?_))
      | exact ih0 _ _ _
      | exact LeO.none _
      | refine LeO.ite ?_ ?_
      | refine LeO.bind ?_ (fun _ => ?_)
set_option maxHeartbeats 8000000 in
set_option maxRecDepth 100000 in
theorem tripartiteref01_Same.calls (k : Nat) (A0 : Option Addr) (c0 : Nat) (l0 : List ByteArray) (A1 : Option Addr) (c1 : Nat) (l1 : List ByteArray) (r : Bool) (w : World) (hr0 : Kd.C Kd.string w A0 l0.length l0) (hc0 : l0.length ≤ c0) (hr1 : Kd.C Kd.string w A1 l1.length l1) (hc1 : l1.length ≤ c1) (h : tripartiteref01_Same.f k l0 l1 = some r) :
    Calls Try.prog 25 #[.slice A0 l0.length c0, .slice A1 l1.length c1] w fun e w' => e = .returned (.bool r) ∧ Drawn0 w w' := by
  have HR0 := Aside0.mk hr0
  have HC0 := Aside0.mk hc0
  clear hr0 hc0
  have HR1 := Aside0.mk hr1
  have HC1 := Aside0.mk hc1
  clear hr1 hc1
  have H : (if (l0.length : Int) = (l1.length : Int) then (tripartiteref01_Same.l0 k l0 l1 0) else (some false)) = some r := h
  clear h
  by_cases c3 : (l0.length : Int) = (l1.length : Int)
  · rw [if_pos c3] at H
    have c3b0 : ((l0.length : Int) == (l1.length : Int)) = true := beq_iff_eq.mpr c3
    have c3b1 : ((l0.length : Int) != (l1.length : Int)) = false := bne_eq_false_iff_eq.mpr c3
    have c3b2 : (l0.length == l1.length) = true := by first | simpa using c3 | (simp at c3 ⊢; omega)
    clear c3
    have H' := Aside0.mk H
    clear H
    go_enter Try.func25, Try.ntmps25
    go_wp2
    repeat (go_quiet (fail); try go_wp2)
    go_loopg [5] k (fun kq v5 w' => ∃ (x5_1 : Int), v5 = .int .i64 x5_1 ∧ Aside0 (tripartiteref01_Same.l0 kq l0 l1 x5_1 = some r) ∧ Aside0 (kq ≤ k) ∧ Drawn0 w w')
    case atStart => exact ⟨(0), (by first | rfl | (simp; done) | (simp [*]; done)), H', ⟨Nat.le_refl _⟩, by repeat (first | exact Drawn0.refl _ | apply Drawn0.step)⟩
    case round =>
      clear H'
      try clear c1
      try clear c2
      try clear p2
      try clear c3
      try clear c3b0
      try clear c3b1
      try clear c3b2
      obtain ⟨x5_1, rfl, HA, HK1, ⟨m1, rfl⟩⟩ := hrel
      cases gk with
      | zero => exact absurd HA.out (by simp [tripartiteref01_Same.l0])
      | succ k1 =>
        have H := HA.out
        clear HA
        simp only [tripartiteref01_Same.l0] at H
        by_cases c4 : x5_1 < (l0.length : Int)
        · rw [if_pos c4] at H
          have c4b0 : decide (x5_1 < (l0.length : Int)) = true := decide_eq_true c4
          clear c4
          by_cases c5 : 0 ≤ x5_1
          · rw [if_pos c5] at H
            have c5b0 : decide (0 ≤ x5_1) = true := decide_eq_true c5
            clear c5
            by_cases c6 : x5_1 < (l1.length : Int)
            · rw [if_pos c6] at H
              have c6b0 : decide (x5_1 < (l1.length : Int)) = true := decide_eq_true c6
              clear c6
              by_cases c7 : (rdOf ByteArray.empty l0 x5_1).toList = (rdOf ByteArray.empty l1 x5_1).toList
              · rw [if_pos c7] at H
                have c7b0 : ((rdOf ByteArray.empty l0 x5_1).toList == (rdOf ByteArray.empty l1 x5_1).toList) = true := beq_iff_eq.mpr c7
                have c7b1 : ((rdOf ByteArray.empty l0 x5_1).toList != (rdOf ByteArray.empty l1 x5_1).toList) = false := bne_eq_false_iff_eq.mpr c7
                clear c7
                have H' := Aside0.mk H
                clear H
                have p101 : 0 ≤ (x5_1 : Int) := of_decide_eq_true (by first | (with_reducible assumption) | assumption)
                have q101 : x5_1 < (l0.length : Int) := of_decide_eq_true (by first | (with_reducible assumption) | assumption)
                obtain ⟨ad101, e101, hx101_0⟩ := Kd.at_string HR0.out x5_1 p101 q101
                cases e101
                replace p101 := eq_true p101
                replace q101 := eq_true q101
                have p102 : 0 ≤ (x5_1 : Int) := of_decide_eq_true (by first | (with_reducible assumption) | assumption)
                have q102 : x5_1 < (l1.length : Int) := of_decide_eq_true (by first | (with_reducible assumption) | assumption)
                obtain ⟨ad102, e102, hx102_0⟩ := Kd.at_string HR1.out x5_1 p102 q102
                cases e102
                replace p102 := eq_true p102
                replace q102 := eq_true q102
                go_wp2
                repeat (go_quiet (fail); try go_wp2)
                go_roundg k1
                case measure => have := HK1.out; omega
                case rel => exact ⟨(wrap64 (x5_1 + 1)), (by first | rfl | (simp; done) | (simp [*]; done)), H', ⟨by have := HK1.out; omega⟩, by repeat (first | exact Drawn0.refl _ | apply Drawn0.step)⟩
              · rw [if_neg c7] at H
                have c7b0 : ((rdOf ByteArray.empty l0 x5_1).toList == (rdOf ByteArray.empty l1 x5_1).toList) = false := beq_eq_false_iff_ne.mpr c7
                have c7b1 : ((rdOf ByteArray.empty l0 x5_1).toList != (rdOf ByteArray.empty l1 x5_1).toList) = true := bne_iff_ne.mpr c7
                obtain rfl := Option.some.inj H
                have p101 : 0 ≤ (x5_1 : Int) := of_decide_eq_true (by first | (with_reducible assumption) | assumption)
                have q101 : x5_1 < (l0.length : Int) := of_decide_eq_true (by first | (with_reducible assumption) | assumption)
                obtain ⟨ad101, e101, hx101_0⟩ := Kd.at_string HR0.out x5_1 p101 q101
                cases e101
                replace p101 := eq_true p101
                replace q101 := eq_true q101
                have p102 : 0 ≤ (x5_1 : Int) := of_decide_eq_true (by first | (with_reducible assumption) | assumption)
                have q102 : x5_1 < (l1.length : Int) := of_decide_eq_true (by first | (with_reducible assumption) | assumption)
                obtain ⟨ad102, e102, hx102_0⟩ := Kd.at_string HR1.out x5_1 p102 q102
                cases e102
                replace p102 := eq_true p102
                replace q102 := eq_true q102
                go_wp2
                repeat (go_quiet (fail); try go_wp2)
                go_ret
                exact ⟨by first | rfl | (simp; done) | (simp [*]; done), by repeat (first | exact Drawn0.refl _ | apply Drawn0.step)⟩
            · rw [if_neg c6] at H
              exact absurd H (by simp)
          · rw [if_neg c5] at H
            exact absurd H (by simp)
        · rw [if_neg c4] at H
          have c4b0 : decide (x5_1 < (l0.length : Int)) = false := decide_eq_false c4
          clear c4
          obtain rfl := Option.some.inj H
          go_wp2
          repeat (go_quiet (fail); try go_wp2)
          go_ret
          exact ⟨by first | rfl | (simp; done) | (simp [*]; done), by repeat (first | exact Drawn0.refl _ | apply Drawn0.step)⟩
  · rw [if_neg c3] at H
    have c3b0 : ((l0.length : Int) == (l1.length : Int)) = false := beq_eq_false_iff_ne.mpr c3
    have c3b1 : ((l0.length : Int) != (l1.length : Int)) = true := bne_iff_ne.mpr c3
    have c3b2 : (l0.length == l1.length) = false := by first | simpa using c3 | (simp at c3 ⊢; omega)
    obtain rfl := Option.some.inj H
    go_enter Try.func25, Try.ntmps25
    go_wp2
    repeat (go_quiet (fail); try go_wp2)
    go_ret
    exact ⟨by first | rfl | (simp; done) | (simp [*]; done), by repeat (first | exact Drawn0.refl _ | apply Drawn0.step)⟩

end Go.Proofs.Ytadafplbgophfaa.PA
end
section
-- Written by a program of this seat out of the translation. Not trusted: Lean checks it.
namespace Go.Proofs.Ytadafplbgophfaa.PA
open Go.RowKit Go.Proofs.YtadafplbgophfaaW.PrintWords Go.Proofs.YtadafplbgophfaaW.PrintLast Go.Proofs.YtadafplbgophfaaW.PrintMore
attribute [local go_sem] max2_int min2_int max_two min_two max_three min_three max_four min_four   -- for this text's walks alone
set_option linter.unusedVariables false
set_option linter.unusedSimpArgs false

/-! ### tripartiteref04_Same: function 37 -/
def tripartiteref04_Same.l0 : Nat → List (S144) → List (S144) → Int → Option (Bool)
  | 0, _, _, _ => none
  | k + 1, x0, x1, x5 => if x5 < (x0.length : Int) then (if 0 ≤ x5 then (if x5 < (x1.length : Int) then (if ((rd_T144 x0 x5).f0) = ((rd_T144 x1 x5).f0) then ((tripartiteref01_Same.f k ((rd_T144 x0 x5).f1) ((rd_T144 x1 x5).f1)).bind fun t105 => (if t105 = true then (tripartiteref04_Same.l0 k x0 x1 (wrap64 (x5 + 1))) else (some false))) else (some false)) else (none)) else (none)) else (some true)
def tripartiteref04_Same.f (k : Nat) (l0 : List (S144)) (l1 : List (S144)) : Option (Bool) := if (l0.length : Int) = (l1.length : Int) then (tripartiteref04_Same.l0 k l0 l1 0) else (some false)
theorem tripartiteref04_Same.mono_l : ∀ k, (∀ y0 y1 y2, LeO (tripartiteref04_Same.l0 k y0 y1 y2) (tripartiteref04_Same.l0 (k + 1) y0 y1 y2))
  | 0 => fun _ _ _ r h => by simp [tripartiteref04_Same.l0] at h
  | k + 1 => by
    have ih0 := tripartiteref04_Same.mono_l k
    · intro y0 y1 y2
      unfold tripartiteref04_Same.l0
      repeat' first
      | (with_reducible exact ih0 _ _ _)
      | (with_reducible exact tripartiteref01_Same.mono _ _ _)
      | (with_reducible exact LeO.refl _)
      | (with_reducible exact LeO.none _)
      | (with_reducible refine LeO.ite ?_ ?_)
      | (with_reducible refine LeO.bind ?_ (fun _ => ?_))
      | exact ih0 _ _ _
      | exact tripartiteref01_Same.mono _ _ _
      | exact LeO.none _
      | refine LeO.ite ?_ ?_
      | refine LeO.bind ?_ (fun _ => ?_)
theorem tripartiteref04_Same.mono : ∀ a0 a1 k, LeO (tripartiteref04_Same.f k a0 a1) (tripartiteref04_Same.f (k + 1) a0 a1) := by
  intro a0 a1 k
  have ih0 := tripartiteref04_Same.mono_l k
  unfold tripartiteref04_Same.f
  repeat' first
      | (with_reducible exact ih0 _ _ _)
      | (with_reducible exact tripartiteref01_Same.mono _ _ _)
      | (with_reducible exact LeO.refl _)
      | (with_reducible exact LeO.none _)
      | (with_reducible refine LeO.ite ?_ ?_)
      | (with_reducible refine LeO.bind ?_ (fun _ => ?_))
      | exact ih0 _ _ _
      | exact tripartiteref01_Same.mono _ _ _
      | exact LeO.none _
      | refine LeO.ite ?_ ?_
      | refine LeO.bind ?_ (fun _ => ?_)
set_option maxHeartbeats 8000000 in
set_option maxRecDepth 100000 in
theorem tripartiteref04_Same.calls (k : Nat) (A0 : Option Addr) (c0 : Nat) (l0 : List (S144)) (A1 : Option Addr) (c1 : Nat) (l1 : List (S144)) (r : Bool) (w : World) (hr0 : Kd.C k144 w A0 l0.length l0) (hc0 : l0.length ≤ c0) (hr1 : Kd.C k144 w A1 l1.length l1) (hc1 : l1.length ≤ c1) (h : tripartiteref04_Same.f k l0 l1 = some r) :
    Calls Try.prog 37 #[.slice A0 l0.length c0, .slice A1 l1.length c1] w fun e w' => e = .returned (.bool r) ∧ Drawn0 w w' := by
  have HR0 := Aside0.mk hr0
  have HC0 := Aside0.mk hc0
  clear hr0 hc0
  have HR1 := Aside0.mk hr1
  have HC1 := Aside0.mk hc1
  clear hr1 hc1
  have H : (if (l0.length : Int) = (l1.length : Int) then (tripartiteref04_Same.l0 k l0 l1 0) else (some false)) = some r := h
  clear h
  by_cases c3 : (l0.length : Int) = (l1.length : Int)
  · rw [if_pos c3] at H
    have c3b0 : ((l0.length : Int) == (l1.length : Int)) = true := beq_iff_eq.mpr c3
    have c3b1 : ((l0.length : Int) != (l1.length : Int)) = false := bne_eq_false_iff_eq.mpr c3
    have c3b2 : (l0.length == l1.length) = true := by first | simpa using c3 | (simp at c3 ⊢; omega)
    clear c3
    have H' := Aside0.mk H
    clear H
    go_enter Try.func37, Try.ntmps37
    go_wp2
    repeat (go_quiet (fail); try go_wp2)
    go_loopg [5] k (fun kq v5 w' => ∃ (x5_1 : Int), v5 = .int .i64 x5_1 ∧ Aside0 (tripartiteref04_Same.l0 kq l0 l1 x5_1 = some r) ∧ Aside0 (kq ≤ k) ∧ Drawn0 w w')
    case atStart => exact ⟨(0), (by first | rfl | (simp; done) | (simp [*]; done)), H', ⟨Nat.le_refl _⟩, by repeat (first | exact Drawn0.refl _ | apply Drawn0.step)⟩
    case round =>
      clear H'
      try clear c1
      try clear p2
      try clear c3
      try clear c3b0
      try clear c3b1
      try clear c3b2
      obtain ⟨x5_1, rfl, HA, HK1, ⟨m1, rfl⟩⟩ := hrel
      cases gk with
      | zero => exact absurd HA.out (by simp [tripartiteref04_Same.l0])
      | succ k1 =>
        have H := HA.out
        clear HA
        simp only [tripartiteref04_Same.l0] at H
        by_cases c4 : x5_1 < (l0.length : Int)
        · rw [if_pos c4] at H
          have c4b0 : decide (x5_1 < (l0.length : Int)) = true := decide_eq_true c4
          clear c4
          by_cases c5 : 0 ≤ x5_1
          · rw [if_pos c5] at H
            have c5b0 : decide (0 ≤ x5_1) = true := decide_eq_true c5
            clear c5
            by_cases c6 : x5_1 < (l1.length : Int)
            · rw [if_pos c6] at H
              have c6b0 : decide (x5_1 < (l1.length : Int)) = true := decide_eq_true c6
              clear c6
              by_cases c7 : ((rd_T144 l0 x5_1).f0) = ((rd_T144 l1 x5_1).f0)
              · rw [if_pos c7] at H
                have c7b0 : (((rd_T144 l0 x5_1).f0) == ((rd_T144 l1 x5_1).f0)) = true := beq_iff_eq.mpr c7
                have c7b1 : (((rd_T144 l0 x5_1).f0) != ((rd_T144 l1 x5_1).f0)) = false := bne_eq_false_iff_eq.mpr c7
                clear c7
                replace H := Option.bind_eq_some_iff.mp H
                obtain ⟨t105, A80, H⟩ := H
                replace H : (if t105 = true then (tripartiteref04_Same.l0 k1 l0 l1 (wrap64 (x5_1 + 1))) else (some false)) = some r := H
                have A8 := Aside0.mk A80
                clear A80
                by_cases c9 : t105 = true
                · subst c9
                  have H1 : (tripartiteref04_Same.l0 k1 l0 l1 (wrap64 (x5_1 + 1))) = some r := by rw [if_pos rfl] at H; exact H
                  clear H
                  have H := H1
                  clear H1
                  have H' := Aside0.mk H
                  clear H
                  have p101 : 0 ≤ (x5_1 : Int) := of_decide_eq_true (by first | (with_reducible assumption) | assumption)
                  have q101 : x5_1 < (l0.length : Int) := of_decide_eq_true (by first | (with_reducible assumption) | assumption)
                  obtain ⟨ad101, A101_1, c101_1, e101, hx101_0, hx101_1, hl101_1, hi101_1⟩ := at_T144 HR0.out x5_1 p101 q101
                  cases e101
                  have HR101_1 := Aside0.mk hi101_1
                  have HC101_1 := Aside0.mk hl101_1
                  clear hi101_1 hl101_1
                  replace p101 := eq_true p101
                  replace q101 := eq_true q101
                  have p102 : 0 ≤ (x5_1 : Int) := of_decide_eq_true (by first | (with_reducible assumption) | assumption)
                  have q102 : x5_1 < (l1.length : Int) := of_decide_eq_true (by first | (with_reducible assumption) | assumption)
                  obtain ⟨ad102, A102_1, c102_1, e102, hx102_0, hx102_1, hl102_1, hi102_1⟩ := at_T144 HR1.out x5_1 p102 q102
                  cases e102
                  have HR102_1 := Aside0.mk hi102_1
                  have HC102_1 := Aside0.mk hl102_1
                  clear hi102_1 hl102_1
                  replace p102 := eq_true p102
                  replace q102 := eq_true q102
                  have p103 : 0 ≤ (x5_1 : Int) := of_decide_eq_true (by first | (with_reducible assumption) | assumption)
                  have q103 : x5_1 < (l0.length : Int) := of_decide_eq_true (by first | (with_reducible assumption) | assumption)
                  obtain ⟨ad103, A103_1, c103_1, e103, hx103_0, hx103_1, hl103_1, hi103_1⟩ := at_T144 HR0.out x5_1 p103 q103
                  obtain rfl : ad101 = ad103 := (by injection e103)
                  have HR103_1 := Aside0.mk hi103_1
                  have HC103_1 := Aside0.mk hl103_1
                  clear hi103_1 hl103_1
                  replace p103 := eq_true p103
                  replace q103 := eq_true q103
                  have ea_ := Option.some.inj (hx101_1.symm.trans hx103_1)
                  injection ea_ with ea_ en_ ec_
                  subst ea_
                  subst ec_
                  clear en_
                  have p104 : 0 ≤ (x5_1 : Int) := of_decide_eq_true (by first | (with_reducible assumption) | assumption)
                  have q104 : x5_1 < (l1.length : Int) := of_decide_eq_true (by first | (with_reducible assumption) | assumption)
                  obtain ⟨ad104, A104_1, c104_1, e104, hx104_0, hx104_1, hl104_1, hi104_1⟩ := at_T144 HR1.out x5_1 p104 q104
                  obtain rfl : ad102 = ad104 := (by injection e104)
                  have HR104_1 := Aside0.mk hi104_1
                  have HC104_1 := Aside0.mk hl104_1
                  clear hi104_1 hl104_1
                  replace p104 := eq_true p104
                  replace q104 := eq_true q104
                  have ea_ := Option.some.inj (hx102_1.symm.trans hx104_1)
                  injection ea_ with ea_ en_ ec_
                  subst ea_
                  subst ec_
                  clear en_
                  go_wp2_with (first | (go_at_call 25; (with_reducible refine (tripartiteref01_Same.calls k1 _ _ ((rd_T144 l0 x5_1).f1) _ _ ((rd_T144 l1 x5_1).f1) true _ ?side1 ?side2 ?side3 ?side4 A8.out).mono ?_); (case side1 => repeat (first | exact HR103_1.out | (with_reducible refine Kd.C_alloc ?_ _) | (with_reducible refine Kd.C_drewN ?_ _) | (with_reducible refine Kd.C_drew ?_))); (case side2 => exact HC103_1.out); (case side3 => repeat (first | exact HR104_1.out | (with_reducible refine Kd.C_alloc ?_ _) | (with_reducible refine Kd.C_drewN ?_ _) | (with_reducible refine Kd.C_drew ?_))); (case side4 => exact HC104_1.out); rintro e w' ⟨rfl, ⟨nd, rfl⟩⟩; (try first | exact ⟨rfl, _, World.drewN_drewN _ _ _⟩ | exact ⟨rfl, _, Eq.trans (World.drewN_drewN _ _ _) (congrArg (World.drewN _) (Nat.add_assoc _ _ _))⟩)))
                  repeat (go_quiet (first | (go_at_call 25; (with_reducible refine (tripartiteref01_Same.calls k1 _ _ ((rd_T144 l0 x5_1).f1) _ _ ((rd_T144 l1 x5_1).f1) true _ ?side1 ?side2 ?side3 ?side4 A8.out).mono ?_); (case side1 => repeat (first | exact HR103_1.out | (with_reducible refine Kd.C_alloc ?_ _) | (with_reducible refine Kd.C_drewN ?_ _) | (with_reducible refine Kd.C_drew ?_))); (case side2 => exact HC103_1.out); (case side3 => repeat (first | exact HR104_1.out | (with_reducible refine Kd.C_alloc ?_ _) | (with_reducible refine Kd.C_drewN ?_ _) | (with_reducible refine Kd.C_drew ?_))); (case side4 => exact HC104_1.out); rintro e w' ⟨rfl, ⟨nd, rfl⟩⟩; (try first | exact ⟨rfl, _, World.drewN_drewN _ _ _⟩ | exact ⟨rfl, _, Eq.trans (World.drewN_drewN _ _ _) (congrArg (World.drewN _) (Nat.add_assoc _ _ _))⟩))); try go_wp2_with (first | (go_at_call 25; (with_reducible refine (tripartiteref01_Same.calls k1 _ _ ((rd_T144 l0 x5_1).f1) _ _ ((rd_T144 l1 x5_1).f1) true _ ?side1 ?side2 ?side3 ?side4 A8.out).mono ?_); (case side1 => repeat (first | exact HR103_1.out | (with_reducible refine Kd.C_alloc ?_ _) | (with_reducible refine Kd.C_drewN ?_ _) | (with_reducible refine Kd.C_drew ?_))); (case side2 => exact HC103_1.out); (case side3 => repeat (first | exact HR104_1.out | (with_reducible refine Kd.C_alloc ?_ _) | (with_reducible refine Kd.C_drewN ?_ _) | (with_reducible refine Kd.C_drew ?_))); (case side4 => exact HC104_1.out); rintro e w' ⟨rfl, ⟨nd, rfl⟩⟩; (try first | exact ⟨rfl, _, World.drewN_drewN _ _ _⟩ | exact ⟨rfl, _, Eq.trans (World.drewN_drewN _ _ _) (congrArg (World.drewN _) (Nat.add_assoc _ _ _))⟩))))
                  go_roundg k1
                  case measure => have := HK1.out; omega
                  case rel => exact ⟨(wrap64 (x5_1 + 1)), (by first | rfl | (simp; done) | (simp [*]; done)), H', ⟨by have := HK1.out; omega⟩, by repeat (first | exact Drawn0.refl _ | apply Drawn0.step)⟩
                · replace c9 := Bool.eq_false_iff.mpr c9
                  subst c9
                  have H1 : (some false) = some r := by rw [if_neg (show ¬ (false = true) by decide)] at H; exact H
                  clear H
                  have H := H1
                  clear H1
                  obtain rfl := Option.some.inj H
                  have p101 : 0 ≤ (x5_1 : Int) := of_decide_eq_true (by first | (with_reducible assumption) | assumption)
                  have q101 : x5_1 < (l0.length : Int) := of_decide_eq_true (by first | (with_reducible assumption) | assumption)
                  obtain ⟨ad101, A101_1, c101_1, e101, hx101_0, hx101_1, hl101_1, hi101_1⟩ := at_T144 HR0.out x5_1 p101 q101
                  cases e101
                  have HR101_1 := Aside0.mk hi101_1
                  have HC101_1 := Aside0.mk hl101_1
                  clear hi101_1 hl101_1
                  replace p101 := eq_true p101
                  replace q101 := eq_true q101
                  have p102 : 0 ≤ (x5_1 : Int) := of_decide_eq_true (by first | (with_reducible assumption) | assumption)
                  have q102 : x5_1 < (l1.length : Int) := of_decide_eq_true (by first | (with_reducible assumption) | assumption)
                  obtain ⟨ad102, A102_1, c102_1, e102, hx102_0, hx102_1, hl102_1, hi102_1⟩ := at_T144 HR1.out x5_1 p102 q102
                  cases e102
                  have HR102_1 := Aside0.mk hi102_1
                  have HC102_1 := Aside0.mk hl102_1
                  clear hi102_1 hl102_1
                  replace p102 := eq_true p102
                  replace q102 := eq_true q102
                  have p103 : 0 ≤ (x5_1 : Int) := of_decide_eq_true (by first | (with_reducible assumption) | assumption)
                  have q103 : x5_1 < (l0.length : Int) := of_decide_eq_true (by first | (with_reducible assumption) | assumption)
                  obtain ⟨ad103, A103_1, c103_1, e103, hx103_0, hx103_1, hl103_1, hi103_1⟩ := at_T144 HR0.out x5_1 p103 q103
                  obtain rfl : ad101 = ad103 := (by injection e103)
                  have HR103_1 := Aside0.mk hi103_1
                  have HC103_1 := Aside0.mk hl103_1
                  clear hi103_1 hl103_1
                  replace p103 := eq_true p103
                  replace q103 := eq_true q103
                  have ea_ := Option.some.inj (hx101_1.symm.trans hx103_1)
                  injection ea_ with ea_ en_ ec_
                  subst ea_
                  subst ec_
                  clear en_
                  have p104 : 0 ≤ (x5_1 : Int) := of_decide_eq_true (by first | (with_reducible assumption) | assumption)
                  have q104 : x5_1 < (l1.length : Int) := of_decide_eq_true (by first | (with_reducible assumption) | assumption)
                  obtain ⟨ad104, A104_1, c104_1, e104, hx104_0, hx104_1, hl104_1, hi104_1⟩ := at_T144 HR1.out x5_1 p104 q104
                  obtain rfl : ad102 = ad104 := (by injection e104)
                  have HR104_1 := Aside0.mk hi104_1
                  have HC104_1 := Aside0.mk hl104_1
                  clear hi104_1 hl104_1
                  replace p104 := eq_true p104
                  replace q104 := eq_true q104
                  have ea_ := Option.some.inj (hx102_1.symm.trans hx104_1)
                  injection ea_ with ea_ en_ ec_
                  subst ea_
                  subst ec_
                  clear en_
                  go_wp2_with (first | (go_at_call 25; (with_reducible refine (tripartiteref01_Same.calls k1 _ _ ((rd_T144 l0 x5_1).f1) _ _ ((rd_T144 l1 x5_1).f1) false _ ?side1 ?side2 ?side3 ?side4 A8.out).mono ?_); (case side1 => repeat (first | exact HR103_1.out | (with_reducible refine Kd.C_alloc ?_ _) | (with_reducible refine Kd.C_drewN ?_ _) | (with_reducible refine Kd.C_drew ?_))); (case side2 => exact HC103_1.out); (case side3 => repeat (first | exact HR104_1.out | (with_reducible refine Kd.C_alloc ?_ _) | (with_reducible refine Kd.C_drewN ?_ _) | (with_reducible refine Kd.C_drew ?_))); (case side4 => exact HC104_1.out); rintro e w' ⟨rfl, ⟨nd, rfl⟩⟩; (try first | exact ⟨rfl, _, World.drewN_drewN _ _ _⟩ | exact ⟨rfl, _, Eq.trans (World.drewN_drewN _ _ _) (congrArg (World.drewN _) (Nat.add_assoc _ _ _))⟩)))
                  repeat (go_quiet (first | (go_at_call 25; (with_reducible refine (tripartiteref01_Same.calls k1 _ _ ((rd_T144 l0 x5_1).f1) _ _ ((rd_T144 l1 x5_1).f1) false _ ?side1 ?side2 ?side3 ?side4 A8.out).mono ?_); (case side1 => repeat (first | exact HR103_1.out | (with_reducible refine Kd.C_alloc ?_ _) | (with_reducible refine Kd.C_drewN ?_ _) | (with_reducible refine Kd.C_drew ?_))); (case side2 => exact HC103_1.out); (case side3 => repeat (first | exact HR104_1.out | (with_reducible refine Kd.C_alloc ?_ _) | (with_reducible refine Kd.C_drewN ?_ _) | (with_reducible refine Kd.C_drew ?_))); (case side4 => exact HC104_1.out); rintro e w' ⟨rfl, ⟨nd, rfl⟩⟩; (try first | exact ⟨rfl, _, World.drewN_drewN _ _ _⟩ | exact ⟨rfl, _, Eq.trans (World.drewN_drewN _ _ _) (congrArg (World.drewN _) (Nat.add_assoc _ _ _))⟩))); try go_wp2_with (first | (go_at_call 25; (with_reducible refine (tripartiteref01_Same.calls k1 _ _ ((rd_T144 l0 x5_1).f1) _ _ ((rd_T144 l1 x5_1).f1) false _ ?side1 ?side2 ?side3 ?side4 A8.out).mono ?_); (case side1 => repeat (first | exact HR103_1.out | (with_reducible refine Kd.C_alloc ?_ _) | (with_reducible refine Kd.C_drewN ?_ _) | (with_reducible refine Kd.C_drew ?_))); (case side2 => exact HC103_1.out); (case side3 => repeat (first | exact HR104_1.out | (with_reducible refine Kd.C_alloc ?_ _) | (with_reducible refine Kd.C_drewN ?_ _) | (with_reducible refine Kd.C_drew ?_))); (case side4 => exact HC104_1.out); rintro e w' ⟨rfl, ⟨nd, rfl⟩⟩; (try first | exact ⟨rfl, _, World.drewN_drewN _ _ _⟩ | exact ⟨rfl, _, Eq.trans (World.drewN_drewN _ _ _) (congrArg (World.drewN _) (Nat.add_assoc _ _ _))⟩))))
                  go_ret
                  exact ⟨by first | rfl | (simp; done) | (simp [*]; done), by repeat (first | exact Drawn0.refl _ | apply Drawn0.step)⟩
              · rw [if_neg c7] at H
                have c7b0 : (((rd_T144 l0 x5_1).f0) == ((rd_T144 l1 x5_1).f0)) = false := beq_eq_false_iff_ne.mpr c7
                have c7b1 : (((rd_T144 l0 x5_1).f0) != ((rd_T144 l1 x5_1).f0)) = true := bne_iff_ne.mpr c7
                obtain rfl := Option.some.inj H
                have p101 : 0 ≤ (x5_1 : Int) := of_decide_eq_true (by first | (with_reducible assumption) | assumption)
                have q101 : x5_1 < (l0.length : Int) := of_decide_eq_true (by first | (with_reducible assumption) | assumption)
                obtain ⟨ad101, A101_1, c101_1, e101, hx101_0, hx101_1, hl101_1, hi101_1⟩ := at_T144 HR0.out x5_1 p101 q101
                cases e101
                have HR101_1 := Aside0.mk hi101_1
                have HC101_1 := Aside0.mk hl101_1
                clear hi101_1 hl101_1
                replace p101 := eq_true p101
                replace q101 := eq_true q101
                have p102 : 0 ≤ (x5_1 : Int) := of_decide_eq_true (by first | (with_reducible assumption) | assumption)
                have q102 : x5_1 < (l1.length : Int) := of_decide_eq_true (by first | (with_reducible assumption) | assumption)
                obtain ⟨ad102, A102_1, c102_1, e102, hx102_0, hx102_1, hl102_1, hi102_1⟩ := at_T144 HR1.out x5_1 p102 q102
                cases e102
                have HR102_1 := Aside0.mk hi102_1
                have HC102_1 := Aside0.mk hl102_1
                clear hi102_1 hl102_1
                replace p102 := eq_true p102
                replace q102 := eq_true q102
                go_wp2
                repeat (go_quiet (fail); try go_wp2)
                go_ret
                exact ⟨by first | rfl | (simp; done) | (simp [*]; done), by repeat (first | exact Drawn0.refl _ | apply Drawn0.step)⟩
            · rw [if_neg c6] at H
              exact absurd H (by simp)
          · rw [if_neg c5] at H
            exact absurd H (by simp)
        · rw [if_neg c4] at H
          have c4b0 : decide (x5_1 < (l0.length : Int)) = false := decide_eq_false c4
          clear c4
          obtain rfl := Option.some.inj H
          go_wp2
          repeat (go_quiet (fail); try go_wp2)
          go_ret
          exact ⟨by first | rfl | (simp; done) | (simp [*]; done), by repeat (first | exact Drawn0.refl _ | apply Drawn0.step)⟩
  · rw [if_neg c3] at H
    have c3b0 : ((l0.length : Int) == (l1.length : Int)) = false := beq_eq_false_iff_ne.mpr c3
    have c3b1 : ((l0.length : Int) != (l1.length : Int)) = true := bne_iff_ne.mpr c3
    have c3b2 : (l0.length == l1.length) = false := by first | simpa using c3 | (simp at c3 ⊢; omega)
    obtain rfl := Option.some.inj H
    go_enter Try.func37, Try.ntmps37
    go_wp2
    repeat (go_quiet (fail); try go_wp2)
    go_ret
    exact ⟨by first | rfl | (simp; done) | (simp [*]; done), by repeat (first | exact Drawn0.refl _ | apply Drawn0.step)⟩

end Go.Proofs.Ytadafplbgophfaa.PA
end
