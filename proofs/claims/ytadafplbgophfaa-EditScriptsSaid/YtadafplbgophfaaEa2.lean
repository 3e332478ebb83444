/- Part 2 of what the row of the law EditScripts rests on: walks of functions, and plain lemmas. -/
import Derived.Test.YtadafplbgophfaaEa1
import Derived.Outline
section
/- Cuts of a row that is read, of any kind, each with the row that it reads. -/
namespace Go.Proofs.Ytadafplbgophfaa.PA
open Go.RowKit Go.Proofs.YtadafplbgophfaaW.PrintWords Go.Proofs.YtadafplbgophfaaW.PrintLast Go.Proofs.YtadafplbgophfaaW.PrintMore
section
variable {α : Type} {P : Program}
theorem cut_lh (k : Kd α) (t e : TypeId) {i : TypeInfo} (ht : P.underlying t = some (.slice e)) (hi : P.info? e = some i) (hsz : i.size = k.sz) (A : Option Addr) (c : Nat) (xs : List α) (a b : Int) (h0 : 0 ≤ a) (h1 : a ≤ b) (hm : b ≤ xs.length) (hc : xs.length ≤ c) :
    ∃ (A' : Option Addr) (c' : Nat), (∀ W : World, (Instr.slice t (.slice A xs.length c) (some (.int .i64 a)) (some (.int .i64 b)) none).run P W = .ok (.slice A' ((xs.take b.toNat).drop a.toNat).length c') W) ∧
      (∀ w : World, k.C w A xs.length xs → k.C w A' ((xs.take b.toNat).drop a.toNat).length ((xs.take b.toNat).drop a.toNat)) ∧ ((xs.take b.toNat).drop a.toNat).length ≤ c' := by
  have hlt : (xs.take b.toNat).length = b.toNat := by rw [List.length_take]; omega
  have hl : ((xs.take b.toNat).drop a.toNat).length = b.toNat - a.toNat := by rw [List.length_drop, hlt]
  refine ⟨if c = a.toNat then A else A.map (·.add (a.toNat * k.sz)), c - a.toNat, fun W => ?_, fun w h => ?_, by rw [hl]; omega⟩
  · rw [hl]; exact cut_mid t e .i64 .i64 ht hi k.sz hsz A xs.length c a b h0 h1 hm hc W
  · exact Kd.C_mid h (by omega) (by omega) hc
theorem cut_l (k : Kd α) (t e : TypeId) {i : TypeInfo} (ht : P.underlying t = some (.slice e)) (hi : P.info? e = some i) (hsz : i.size = k.sz) (A : Option Addr) (c : Nat) (xs : List α) (a : Int) (h0 : 0 ≤ a) (hm : a ≤ xs.length) (hc : xs.length ≤ c) :
    ∃ (A' : Option Addr) (c' : Nat), (∀ W : World, (Instr.slice t (.slice A xs.length c) (some (.int .i64 a)) none none).run P W = .ok (.slice A' (xs.drop a.toNat).length c') W) ∧
      (∀ w : World, k.C w A xs.length xs → k.C w A' (xs.drop a.toNat).length (xs.drop a.toNat)) ∧ (xs.drop a.toNat).length ≤ c' := by
  have hl : (xs.drop a.toNat).length = xs.length - a.toNat := List.length_drop
  refine ⟨if c = a.toNat then A else A.map (·.add (a.toNat * k.sz)), c - a.toNat, fun W => ?_, fun w h => Kd.C_drop h (by omega) hc, by rw [hl]; omega⟩
  have hel : P.elem t = e := by simp [Program.elem, ht]
  have hu : P.underlying t = some (.slice (P.elem t)) := by rw [hel]; exact ht
  rw [run_slice_l W t A xs.length c hu .i64 a h0 (by omega), hel, hl]
  simp [sizeOf, typeInfo, hi, hsz, sliced, Result.andThen]
theorem cut_h (k : Kd α) (t e : TypeId) {i : TypeInfo} (ht : P.underlying t = some (.slice e)) (hi : P.info? e = some i) (hsz : i.size = k.sz) (A : Option Addr) (c : Nat) (xs : List α) (b : Int) (h0 : 0 ≤ b) (hm : b ≤ xs.length) (hc : xs.length ≤ c) :
    (∀ W : World, (Instr.slice t (.slice A xs.length c) none (some (.int .i64 b)) none).run P W = .ok (.slice A (xs.take b.toNat).length c) W) ∧
      (∀ w : World, k.C w A xs.length xs → k.C w A (xs.take b.toNat).length (xs.take b.toNat)) ∧ (xs.take b.toNat).length ≤ c := by
  have hl : (xs.take b.toNat).length = b.toNat := by rw [List.length_take]; omega
  refine ⟨fun W => ?_, fun w h => Kd.C_take h (by omega), by rw [hl]; omega⟩
  have hel : P.elem t = e := by simp [Program.elem, ht]
  have hu : P.underlying t = some (.slice (P.elem t)) := by rw [hel]; exact ht
  have ha : (A.map fun x => x.add 0) = A := by cases A <;> simp [Addr.add]
  rw [run_slice_h W t A xs.length c hu .i64 b h0 (by omega), hel, hl]
  simp [sizeOf, typeInfo, hi, hsz, sliced, Result.andThen, ha]
/-- A literal's row, its elements of one cell each. -/
theorem C_lit (d : Kd α) (hsz : d.sz = 1) (W : World) (e : TypeId) (xs : List α) (vs : List Value) (hl : vs.length = xs.length) (hmax : xs.length ≤ 9223372036854775807)
    (hK : ∀ (j : Nat) (p : α) (u : Value), xs[j]? = some p → vs[j]? = some u → d.K W p [u]) : d.C (W.alloc (.cells vs.toArray e (0, 0))) (some ⟨W.heap.size, 0, none⟩) xs.length xs := by
  refine ⟨rfl, hmax, fun _ => ⟨_, rfl, fun j p hj => ?_⟩⟩
  have hjl : j < vs.length := by have := (List.getElem?_eq_some_iff.1 hj).1; omega
  have hu : vs[j]? = some vs[j] := List.getElem?_eq_getElem hjl
  refine ⟨[vs[j]], by rw [hsz]; rfl, d.K_below (below_alloc (Below.refl _ _) _) (hK j p _ hj hu), fun i u hi => ?_⟩
  obtain rfl : i = 0 := by
    have := (List.getElem?_eq_some_iff.1 hi).1
    simpa using this
  obtain rfl : vs[j] = u := by simpa using hi
  rw [hsz, Nat.mul_one, Nat.add_zero, add_plain]
  refine (blk_cell (blk_new W _) j).trans ?_
  simp [hu]
end
end Go.Proofs.Ytadafplbgophfaa.PA
end
section
/- edit.Of, walked by hand: the script that a matching tells. -/
namespace Go.Proofs.Ytadafplbgophfaa.PA
set_option linter.unusedSimpArgs false
set_option linter.unusedVariables false
open Go.RowKit Go.Proofs.YtadafplbgophfaaW.PrintWords Go.Proofs.YtadafplbgophfaaW.PrintLast Go.Proofs.YtadafplbgophfaaW.PrintMore

def ofGo (a b : List ByteArray) : List S39 → Int → Int → List S143 → Option (List S143)
  | [], i, k, out => if 0 ≤ i ∧ i ≤ a.length ∧ 0 ≤ k ∧ k ≤ b.length then (putO out 1 (a.drop i.toNat)).bind fun o1 => putO o1 2 (b.drop k.toNat) else none
  | p :: l, i, k, out => if 0 ≤ i ∧ i ≤ p.f0 ∧ p.f0 < a.length ∧ 0 ≤ k ∧ k ≤ p.f1 ∧ p.f1 < b.length then
      (putO out 1 ((a.take p.f0.toNat).drop i.toNat)).bind fun o1 => (putO o1 2 ((b.take p.f1.toNat).drop k.toNat)).bind fun o2 => (putO o2 0 [rdOf ByteArray.empty a p.f0]).bind fun o3 => ofGo a b l (p.f0 + 1) (p.f1 + 1) o3 else none
def edit_Of.f (k : Nat) (a b : List ByteArray) (l : List S39) : Option (List S143 × Int) :=
  if Fits86 [a, b] ∧ l.length ≤ 1000000000 then (lcs_Right.f k (numFile [] a).1 (numFile (numFile [] a).2 b).1 l).bind fun ok => if ok then (ofGo a b l 0 0 []).map fun r => (r, 0) else some ([], 12) else none
theorem edit_Of.mono : ∀ a0 a1 a2 k, LeO (edit_Of.f k a0 a1 a2) (edit_Of.f (k + 1) a0 a1 a2) := by
  intro a0 a1 a2 k
  unfold edit_Of.f
  exact LeO.ite (LeO.bind (lcs_Right.mono _ _ _ _) (fun _ => LeO.refl _)) (LeO.refl _)
theorem go_lens {a b : List ByteArray} (h : Fits86 [a, b]) : a.length ≤ 1000000000 ∧ b.length ≤ 1000000000 := by
  have := h.2.1
  simp only [texts] at this
  omega

set_option maxHeartbeats 4000000 in
set_option maxRecDepth 100000 in
theorem edit_Of.calls (k : Nat) (A0 : Option Addr) (c0 : Nat) (l0 : List ByteArray) (A1 : Option Addr) (c1 : Nat) (l1 : List ByteArray) (A2 : Option Addr) (c2 : Nat) (l2 : List S39) (r1 : List S143) (r2 : Int) (w : World) (hr0 : Kd.C Kd.string w A0 l0.length l0) (hc0 : l0.length ≤ c0) (hr1 : Kd.C Kd.string w A1 l1.length l1) (hc1 : l1.length ≤ c1) (hr2 : Kd.C k39 w A2 l2.length l2) (hc2 : l2.length ≤ c2) (h : edit_Of.f k l0 l1 l2 = some (r1, r2)) :
    Calls Try.prog 34 #[.slice A0 l0.length c0, .slice A1 l1.length c1, .slice A2 l2.length c2] w fun e w' => ∃ v0_ : Value, e = .returned (.tuple #[v0_, .int .i64 r2]) ∧ Kd.S k143 143 w' w.heap.size (fun _ => True) v0_ r1 ∧ Below w.heap.size w w' := by
  unfold edit_Of.f at h
  split at h
  case isFalse => cases h
  rename_i hG
  obtain ⟨hfits, hl2⟩ := hG
  obtain ⟨ok, hok, h⟩ := Option.bind_eq_some_iff.1 h
  have hu143 := Try.underlying143
  have hu137 := Try.underlying137
  have hu39 := Try.underlying39
  obtain ⟨hla, hlb⟩ := go_lens hfits
  have HR0 := Aside0.mk hr0
  have HC0 := Aside0.mk hc0
  have HR1 := Aside0.mk hr1
  have HC1 := Aside0.mk hc1
  have HR2 := Aside0.mk hr2
  have HC2 := Aside0.mk hc2
  have HF := Aside0.mk hfits
  have HOK := Aside0.mk hok
  have HH := Aside0.mk h
  clear hr0 hc0 hr1 hc1 hr2 hc2 hfits hok h
  go_enter Try.func34, Try.ntmps34
  go_wp2_with fail
  have HL0 : Aside0 (Kd.C (Kd.slice 9 Kd.string) (w.alloc (.cells #[.slice A0 l0.length c0, .slice A1 l1.length c1] 27 (0, 0))) (some ⟨w.heap.size, 0, none⟩) [l0, l1].length [l0, l1]) := ⟨C_lit (Kd.slice 9 Kd.string) rfl w 27 [l0, l1] [.slice A0 l0.length c0, .slice A1 l1.length c1] rfl (by simp) (fun j p u hp hu => by
    match j, hp, hu with
    | 0, hp, hu => cases hp; cases hu; exact ⟨A0, c0, rfl, HC0.out, HR0.out⟩
    | 1, hp, hu => cases hp; cases hu; exact ⟨A1, c1, rfl, HC1.out, HR1.out⟩
    | (j + 2), hp, hu => simp at hp)⟩
  refine (lines_Number.calls k (some ⟨w.heap.size, 0, none⟩) 2 [l0, l1] (numAll [] [l0, l1]) _ HL0.out (Nat.le_refl _) (if_pos HF.out)).mono ?_
  rintro e w1 ⟨v0_, rfl, hR, hB⟩
  have HB1 := Aside0.mk (below_then (below_alloc (Below.refl w.heap.size w) (.cells #[.slice A0 l0.length c0, .slice A1 l1.length c1] 27 (0, 0))) (below_alloc (Below.refl w.heap.size w) _).size hB)
  obtain ⟨A, c, rfl, hc, hC⟩ := Kd.R_reads hR
  have hnl : (numAll [] [l0, l1]).length = 2 := rfl
  obtain ⟨ad, AX, cX, eA, hx, hlx, hcx⟩ := at_L6 hC (0 : Int) (by decide) (by rw [hnl]; decide)
  obtain ⟨ad', AY, cY, eA', hy, hly, hcy⟩ := at_L6 hC (1 : Int) (by decide) (by rw [hnl]; decide)
  cases eA
  cases eA'
  have eX : rd_L6 (numAll [] [l0, l1]) 0 = (numFile [] l0).1 := rfl
  have eY : rd_L6 (numAll [] [l0, l1]) 1 = (numFile (numFile [] l0).2 l1).1 := rfl
  rw [eX] at hx hlx hcx
  rw [eY] at hy hly hcy
  obtain ⟨x, hxx⟩ : ∃ x, x = (numFile [] l0).1 := ⟨_, rfl⟩
  obtain ⟨y, hyy⟩ : ∃ y, y = (numFile (numFile [] l0).2 l1).1 := ⟨_, rfl⟩
  rw [← hxx] at hx hlx hcx
  rw [← hyy] at hy hly hcy
  have HOK2 : Aside0 (lcs_Right.f k x y l2 = some ok) := ⟨by rw [hxx, hyy]; exact HOK.out⟩
  have HX := Aside0.mk hcx
  have HXL := Aside0.mk hlx
  have HY := Aside0.mk hcy
  have HYL := Aside0.mk hly
  simp only [Int.toNat_zero, Int.toNat_one] at hx hy
  clear hR hB hC hc hlx hcx hly hcy hxx hyy eX eY HL0 HOK
  rw [hnl]
  clear hnl
  replace hx : w1.cell? ad = some (.slice AX x.length cX) := by simpa [Addr.add] using hx
  replace hy : w1.cell? ⟨ad.block, ad.off + 1, none⟩ = some (.slice AY y.length cY) := by simpa [Addr.add] using hy
  go_wp2_with fail
  go_region_held3 (fun w' => w'.cell? ad = some (.slice AX x.length cX) ∧ w'.cell? ⟨ad.block, ad.off + 1, none⟩ = some (.slice AY y.length cY)) (go_keep)
    (first | (go_at_call 31; refine (lcs_Right.calls k AX cX x AY cY y A2 c2 l2 ok _ (Kd.C_drew HX.out) HXL.out (Kd.C_drew HY.out) HYL.out (Kd.C_drew (Kd.C_below HR2.out HB1.out)) HC2.out HOK2.out).mono ?_; rintro e w2 ⟨rfl, hb⟩; have hb2 := below_step HB1.out (below_then (below_drew (Below.refl w1.heap.size w1)) (Nat.le_refl _) hb); replace hx := pw_cell_below hb hx; replace hy := pw_cell_below hb hy))
  have HB2 := Aside0.mk hb2
  clear hb hb2 hx hy HX HY HXL HYL HB1 HOK2
  cases ok
  · have h := HH.out
    rw [if_neg (by simp)] at h
    simp only [Option.some.injEq, Prod.mk.injEq] at h
    obtain ⟨rfl, rfl⟩ := h
    go_wp2_with fail
    go_ret2
    exact ⟨_, rfl, Kd.S_nil _ _ _ _ _, HB2.out⟩
  · have h := HH.out
    rw [if_pos rfl] at h
    obtain ⟨rr, hrr, he⟩ := Option.map_eq_some_iff.1 h
    simp only [Prod.mk.injEq] at he
    obtain ⟨rfl, rfl⟩ := he
    have HG := Aside0.mk hrr
    clear h HH hrr
    simp only [Bool.not_true]
    go_wp2_with fail
    go_loopw [10, 11, 29] (fun v10 v11 v29 wr => ∃ (n : Nat) (i k : Int) (v : Value) (out : List S143), n ≤ l2.length ∧ v10 = .int .i64 i ∧ v11 = .int .i64 k ∧ v29 = .int .i64 (n : Int) ∧ Aside0 (Wrt w2 wr w2.heap.size (fun k => k ≠ w2.heap.size) v out) ∧ Aside0 (ofGo l0 l1 (l2.drop n) i k out = some rr)) (fun _ _ v29 _ => l2.length - (intOf v29).toNat)
    case atStart =>
      have hsz : ∀ k, (w2.alloc (.cells #[.slice none 0 0] 137 (0, 0))).heap.size ≤ k → k ≠ w2.heap.size := fun k hk e => by
        have := blk_lt (blk_new w2 (.cells #[.slice none 0 0] 137 (0, 0)))
        omega
      exact ⟨0, 0, 0, .slice none 0 0, [], Nat.zero_le _, rfl, rfl, rfl, ⟨⟨below_alloc (Below.refl _ _) _, Nat.le_refl _, blk_new w2 _, Kd.S_nil _ _ _ _ _, fun h => h rfl, hsz⟩⟩, HG⟩
    case round =>
      obtain ⟨n, i, kk, v, out, hn, rfl, rfl, rfl, HW, HB⟩ := hrel
      by_cases hlt : n < l2.length
      · have p0 : (0 : Int) ≤ (n : Int) := by omega
        have q0 : (n : Int) < (l2.length : Int) := by omega
        obtain ⟨ad2, eA, hx0, hx1⟩ := at_T39 HR2.out (n : Int) p0 q0
        cases eA
        have HBW := Aside0.mk (below_step HB2.out HW.out.below)
        replace hx0 := pw_cell_below HBW.out hx0
        replace hx1 := pw_cell_below HBW.out hx1
        have hrd : rd_T39 l2 (n : Int) = l2[n] := by simp [rd_T39, List.getD_eq_getElem?_getD, hlt]
        rw [hrd, Int.toNat_natCast] at hx0 hx1
        have hb := HB.out
        rw [List.drop_eq_getElem_cons hlt] at hb
        generalize l2[n] = q at hx0 hx1 hb
        unfold ofGo at hb
        split at hb
        case isFalse => cases hb
        rename_i hG
        obtain ⟨hi0, hi1, hi2, hk0, hk1, hk2⟩ := hG
        obtain ⟨o1, g1, hb⟩ := Option.bind_eq_some_iff.1 hb
        obtain ⟨o2, g2, hb⟩ := Option.bind_eq_some_iff.1 hb
        obtain ⟨o3, g3, hb⟩ := Option.bind_eq_some_iff.1 hb
        have hcut : decide ((n : Int) < (l2.length : Int)) = true := decide_eq_true q0
        obtain ⟨i0, hinfo, _, hsz, _⟩ := info_parts info9
        obtain ⟨AA, cA, hcA, hCA, hlA⟩ := cut_lh Kd.string 27 9 Try.underlying27 hinfo hsz A0 c0 l0 i q.f0 hi0 hi1 (by omega) HC0.out
        obtain ⟨AB, cB, hcB, hCB, hlB⟩ := cut_lh Kd.string 27 9 Try.underlying27 hinfo hsz A1 c1 l1 kk q.f1 hk0 hk1 (by omega) HC1.out
        replace hCA := hCA _ HR0.out
        replace hCB := hCB _ HR1.out
        generalize (l0.take q.f0.toNat).drop i.toNat = da at hcA hCA hlA g1
        generalize (l1.take q.f1.toNat).drop kk.toNat = db at hcB hCB hlB g2
        obtain ⟨ad3, e3, hx3⟩ := Kd.at_string HR0.out q.f0 (by omega) hi2
        cases e3
        generalize rdOf ByteArray.empty l0 q.f0 = sA at hx3 g3
        have G1 := Aside0.mk (putO_some g1)
        have G2 := Aside0.mk (putO_some g2)
        have G3 := Aside0.mk (putO_some g3)
        have HCA := Aside0.mk hCA
        have HCB := Aside0.mk hCB
        have HLA := Aside0.mk hlA
        have HLB := Aside0.mk hlB
        have HX3 := Aside0.mk hx3
        have HBB := Aside0.mk hb
        have hn0 := (blk_cell (blk_new wr (.cells #[.int .i64 q.f0, .int .i64 q.f1] 39 (0, 0))) 0).trans (show _ = some _ from rfl)
        have hn1 := (blk_cell (blk_new wr (.cells #[.int .i64 q.f0, .int .i64 q.f1] 39 (0, 0))) 1).trans (show _ = some _ from rfl)
        have hS := blk_new wr (.cells #[.int .i64 q.f0, .int .i64 q.f1] 39 (0, 0))
        have HW1 := Aside0.mk (HW.out.beside (.cells #[.int .i64 q.f0, .int .i64 q.f1] 39 (0, 0)))
        clear hb HB g1 g2 g3 hCA hCB hlA hlB hinfo hsz hx3
        go_wp2_with fail
        refine (edit_writer_put.calls w2.heap.size _ v out 1 AA cA da w2 _ HW1.out (Kd.C_below HCA.out (below_step HB2.out HW1.out.below)) HLA.out G1.out.1 G1.out.2.1 G1.out.2.2.1).mono ?_
        rintro e w3 ⟨rfl, ⟨v3, hW'⟩, hfr⟩
        rw [G1.out.2.2.2] at hW'
        have hS3 := (hfr _ (blk_lt hS) (fun h => h.2 rfl) (by have := blk_lt HW.out.blk; omega)).trans hS
        have hn03 := (blk_cell hS3 0).trans (show _ = some _ from rfl)
        have hn13 := (blk_cell hS3 1).trans (show _ = some _ from rfl)
        have HW3 := Aside0.mk hW'
        clear hW' hfr
        go_wp2_with fail
        refine (edit_writer_put.calls w2.heap.size _ v3 o1 2 AB cB db w2 _ HW3.out (Kd.C_below HCB.out (below_step HB2.out HW3.out.below)) HLB.out G2.out.1 G2.out.2.1 G2.out.2.2.1).mono ?_
        rintro e w4 ⟨rfl, ⟨v4, hW'⟩, hfr⟩
        rw [G2.out.2.2.2] at hW'
        have hS4 := (hfr _ (blk_lt hS3) (fun h => h.2 rfl) (by have := blk_lt HW.out.blk; omega)).trans hS3
        have hn04 := (blk_cell hS4 0).trans (show _ = some _ from rfl)
        have hn14 := (blk_cell hS4 1).trans (show _ = some _ from rfl)
        have HW4 := Aside0.mk hW'
        have hx34 := pw_cell_below (below_step HB2.out hW'.below) HX3.out
        clear hW' hfr
        go_wp2_with fail
        have HC4 : Aside0 (Kd.C Kd.string (w4.alloc (.cells #[.string sA] 9 (0, 0))) (some ⟨w4.heap.size, 0, none⟩) [sA].length [sA]) := ⟨C_lit Kd.string rfl w4 9 [sA] [.string sA] rfl (by simp) (fun j p u hp hu => by
          match j, hp, hu with
          | 0, hp, hu => cases hp; cases hu; exact rfl
          | (j + 1), hp, hu => simp at hp)⟩
        have hS5 := blk_alloc hS4 (.cells #[.string sA] 9 (0, 0))
        refine (edit_writer_put.calls w2.heap.size _ v4 o2 0 (some ⟨w4.heap.size, 0, none⟩) 1 [sA] w2 _ (HW4.out.on (below_alloc (Below.refl _ _) _)) HC4.out (Nat.le_refl _) G3.out.1 G3.out.2.1 G3.out.2.2.1).mono ?_
        rintro e w5 ⟨rfl, ⟨v5, hW'⟩, hfr⟩
        rw [G3.out.2.2.2] at hW'
        have hS6 := (hfr _ (blk_lt hS5) (fun h => h.2 rfl) (by have := blk_lt HW.out.blk; omega)).trans hS5
        have hn05 := (blk_cell hS6 0).trans (show _ = some _ from rfl)
        have hn15 := (blk_cell hS6 1).trans (show _ = some _ from rfl)
        have HW5 := Aside0.mk hW'
        clear hW' hfr
        go_wp2_with fail
        have hq0 : IntKind.i64.wrap (q.f0 + 1) = q.f0 + 1 := by rw [i64_w]; unfold wrap64; omega
        have hq1 : IntKind.i64.wrap (q.f1 + 1) = q.f1 + 1 := by rw [i64_w]; unfold wrap64; omega
        go_quiet (fail)
        clear hq0 hq1
        go_wp2_with fail
        go_roundw
        case rel => exact ⟨n + 1, _, _, v5, o3, hlt, rfl, rfl, by go_num, ⟨(HW5.out.drop).on (pw_below_drewN (Below.refl _ _) _)⟩, HBB⟩
        case measure => simp [intOf]; omega
      · obtain rfl : n = l2.length := by omega
        have hcut : decide ((l2.length : Int) < (l2.length : Int)) = false := decide_eq_false (by omega)
        have hb := HB.out
        rw [List.drop_of_length_le (Nat.le_refl _)] at hb
        unfold ofGo at hb
        split at hb
        case isFalse => cases hb
        rename_i hG
        obtain ⟨hi0, hi1, hk0, hk1⟩ := hG
        obtain ⟨o1, g1, g2⟩ := Option.bind_eq_some_iff.1 hb
        obtain ⟨i0, hinfo, _, hsz, _⟩ := info_parts info9
        obtain ⟨AA, cA, hcA, hCA, hlA⟩ := cut_l Kd.string 27 9 Try.underlying27 hinfo hsz A0 c0 l0 i hi0 hi1 HC0.out
        obtain ⟨AB, cB, hcB, hCB, hlB⟩ := cut_l Kd.string 27 9 Try.underlying27 hinfo hsz A1 c1 l1 kk hk0 hk1 HC1.out
        replace hCA := hCA _ HR0.out
        replace hCB := hCB _ HR1.out
        generalize l0.drop i.toNat = da at hcA hCA hlA g1
        generalize l1.drop kk.toNat = db at hcB hCB hlB g2
        have G1 := Aside0.mk (putO_some g1)
        have G2 := Aside0.mk (putO_some g2)
        have HCA := Aside0.mk hCA
        have HCB := Aside0.mk hCB
        have HLA := Aside0.mk hlA
        have HLB := Aside0.mk hlB
        clear hb HB g1 g2 hCA hCB hlA hlB hinfo hsz
        go_wp2_with fail
        refine (edit_writer_put.calls w2.heap.size _ v out 1 AA cA da w2 _ HW.out (Kd.C_below HCA.out (below_step HB2.out HW.out.below)) HLA.out G1.out.1 G1.out.2.1 G1.out.2.2.1).mono ?_
        rintro e w3 ⟨rfl, ⟨v3, hW'⟩, _⟩
        rw [G1.out.2.2.2] at hW'
        have HW3 := Aside0.mk hW'
        clear hW'
        go_wp2_with fail
        refine (edit_writer_put.calls w2.heap.size _ v3 o1 2 AB cB db w2 _ HW3.out (Kd.C_below HCB.out (below_step HB2.out HW3.out.below)) HLB.out G2.out.1 G2.out.2.1 G2.out.2.2.1).mono ?_
        rintro e w4 ⟨rfl, ⟨v4, hW'⟩, _⟩
        rw [G2.out.2.2.2] at hW'
        have HW4 := Aside0.mk hW'
        clear hW' HW HW3
        have hk0 := (blk_cell HW4.out.blk 0).trans (show _ = some v4 from rfl)
        obtain ⟨A4, n4, c4, rfl⟩ : ∃ A n c, v4 = Value.slice A n c := by obtain ⟨A, c, h⟩ := Kd.S_slice HW4.out.own; exact ⟨A, _, c, h⟩
        go_wp2_with fail
        go_ret2
        exact ⟨_, rfl, Kd.S_lower (Kd.S_mono HW4.out.own (fun _ _ => trivial)) HB2.out.size, below_step HB2.out HW4.out.below⟩
end Go.Proofs.Ytadafplbgophfaa.PA
end
section
-- Written by a program of this seat out of the translation. Not trusted: Lean checks it.
namespace Go.Proofs.Ytadafplbgophfaa.PA
open Go.RowKit Go.Proofs.YtadafplbgophfaaW.PrintWords Go.Proofs.YtadafplbgophfaaW.PrintLast Go.Proofs.YtadafplbgophfaaW.PrintMore
attribute [local go_sem] max2_int min2_int max_two min_two max_three min_three max_four min_four   -- for this text's walks alone
set_option linter.unusedVariables false
set_option linter.unusedSimpArgs false

/-! ### tripartiteref03_Right: function 33 -/
mutual
def tripartiteref03_Right.l0 : Nat → List Int → List Int → List (S37) → Int → Option (Bool)
  | 0, _, _, _, _ => none
  | k + 1, x0, x1, x2, x7 => if x7 < (x2.length : Int) then (if 0 ≤ x7 then (if ((rd_T37 x2 x7).f0) < 0 then (tripartiteref03_Right.j1 k x0 x1 x2 x7 true ((rd_T37 x2 x7).f0) ((rd_T37 x2 x7).f1)) else (if ((rd_T37 x2 x7).f0) ≥ (x0.length : Int) then (tripartiteref03_Right.j1 k x0 x1 x2 x7 true ((rd_T37 x2 x7).f0) ((rd_T37 x2 x7).f1)) else (if ((rd_T37 x2 x7).f1) < 0 then (tripartiteref03_Right.j1 k x0 x1 x2 x7 true ((rd_T37 x2 x7).f0) ((rd_T37 x2 x7).f1)) else (if ((rd_T37 x2 x7).f1) ≥ (x1.length : Int) then (tripartiteref03_Right.j1 k x0 x1 x2 x7 true ((rd_T37 x2 x7).f0) ((rd_T37 x2 x7).f1)) else (if 0 ≤ ((rd_T37 x2 x7).f0) then (if ((rd_T37 x2 x7).f0) < (x0.length : Int) then (if 0 ≤ ((rd_T37 x2 x7).f1) then (if ((rd_T37 x2 x7).f1) < (x1.length : Int) then (tripartiteref03_Right.j1 k x0 x1 x2 x7 ((rd x0 ((rd_T37 x2 x7).f0)) != (rd x1 ((rd_T37 x2 x7).f1))) ((rd_T37 x2 x7).f0) ((rd_T37 x2 x7).f1)) else (none)) else (none)) else (none)) else (none)))))) else (none)) else (some true)
def tripartiteref03_Right.j1 : Nat → List Int → List Int → List (S37) → Int → Bool → Int → Int → Option (Bool)
  | 0, _, _, _, _, _, _, _ => none
  | k + 1, x0, x1, x2, x7, x53, x103000, x103001 => if x53 = true then (some false) else (if x7 > 0 then (if 0 ≤ (wrap64 (x7 - 1)) then (if (wrap64 (x7 - 1)) < (x2.length : Int) then (if ((rd_T37 x2 (wrap64 (x7 - 1))).f0) ≥ x103000 then (some false) else (if ((rd_T37 x2 (wrap64 (x7 - 1))).f1) ≥ x103001 then (some false) else (tripartiteref03_Right.l0 k x0 x1 x2 (wrap64 (x7 + 1))))) else (none)) else (none)) else (tripartiteref03_Right.l0 k x0 x1 x2 (wrap64 (x7 + 1))))
end
def tripartiteref03_Right.f (k : Nat) (l0 : List Int) (l1 : List Int) (l2 : List (S37)) : Option (Bool) := tripartiteref03_Right.l0 k l0 l1 l2 0
theorem tripartiteref03_Right.mono_l : ∀ k, (∀ y0 y1 y2 y3, LeO (tripartiteref03_Right.l0 k y0 y1 y2 y3) (tripartiteref03_Right.l0 (k + 1) y0 y1 y2 y3)) ∧ (∀ y0 y1 y2 y3 y4 y5 y6, LeO (tripartiteref03_Right.j1 k y0 y1 y2 y3 y4 y5 y6) (tripartiteref03_Right.j1 (k + 1) y0 y1 y2 y3 y4 y5 y6))
  | 0 => ⟨fun _ _ _ _ r h => by simp [tripartiteref03_Right.l0] at h, fun _ _ _ _ _ _ _ r h => by simp [tripartiteref03_Right.j1] at h⟩
  | k + 1 => by
    obtain ⟨ih0, ih1⟩ := tripartiteref03_Right.mono_l k
    refine ⟨?_, ?_⟩
    · intro y0 y1 y2 y3
      unfold tripartiteref03_Right.l0
      repeat' first
      | (with_reducible exact ih0 _ _ _ _)
      | (with_reducible exact ih1 _ _ _ _ _ _ _)
      | (with_reducible exact LeO.refl _)
      | (with_reducible exact LeO.none _)
      | (with_reducible refine LeO.ite ?_ ?_)
      | (with_reducible refine LeO.bind ?_ (fun _ => ?_))
      | exact ih0 _ _ _ _
      | exact ih1 _ _ _ _ _ _ _
      | exact LeO.none _
      | refine LeO.ite ?_ ?_
      | refine LeO.bind ?_ (fun _ => ?_)
    · intro y0 y1 y2 y3 y4 y5 y6
      unfold tripartiteref03_Right.j1
      repeat' first
      | (with_reducible exact ih0 _ _ _ _)
      | (with_reducible exact ih1 _ _ _ _ _ _ _)
      | (with_reducible exact LeO.refl _)
      | (with_reducible exact LeO.none _)
      | (with_reducible refine LeO.ite ?_ ?_)
      | (with_reducible refine LeO.bind ?_ (fun _ => ?_))
      | exact ih0 _ _ _ _
      | exact ih1 _ _ _ _ _ _ _
      | exact LeO.none _
      | refine LeO.ite ?_ ?_
      | refine LeO.bind ?_ (fun _ => ?_)
theorem tripartiteref03_Right.mono : ∀ a0 a1 a2 k, LeO (tripartiteref03_Right.f k a0 a1 a2) (tripartiteref03_Right.f (k + 1) a0 a1 a2) := by
  intro a0 a1 a2 k
  obtain ⟨ih0, ih1⟩ := tripartiteref03_Right.mono_l k
  unfold tripartiteref03_Right.f
  repeat' first
      | (with_reducible exact ih0 _ _ _ _)
      | (with_reducible exact ih1 _ _ _ _ _ _ _)
      | (with_reducible exact LeO.refl _)
      | (with_reducible exact LeO.none _)
      | (with_reducible refine LeO.ite ?_ ?_)
      | (with_reducible refine LeO.bind ?_ (fun _ => ?_))
      | exact ih0 _ _ _ _
      | exact ih1 _ _ _ _ _ _ _
      | exact LeO.none _
      | refine LeO.ite ?_ ?_
      | refine LeO.bind ?_ (fun _ => ?_)
set_option maxHeartbeats 8000000 in
set_option maxRecDepth 100000 in
theorem tripartiteref03_Right.calls (k : Nat) (A0 : Option Addr) (c0 : Nat) (l0 : List Int) (A1 : Option Addr) (c1 : Nat) (l1 : List Int) (A2 : Option Addr) (c2 : Nat) (l2 : List (S37)) (r : Bool) (w : World) (hr0 : Kd.C (Kd.int .i64) w A0 l0.length l0) (hc0 : l0.length ≤ c0) (hr1 : Kd.C (Kd.int .i64) w A1 l1.length l1) (hc1 : l1.length ≤ c1) (hr2 : Kd.C k37 w A2 l2.length l2) (hc2 : l2.length ≤ c2) (h : tripartiteref03_Right.f k l0 l1 l2 = some r) :
    Calls Try.prog 33 #[.slice A0 l0.length c0, .slice A1 l1.length c1, .slice A2 l2.length c2] w fun e w' => e = .returned (.bool r) ∧ Below w.heap.size w w' := by
  have hu37 := Try.underlying37
  have HR0 := Aside0.mk hr0
  have HC0 := Aside0.mk hc0
  clear hr0 hc0
  have HR1 := Aside0.mk hr1
  have HC1 := Aside0.mk hc1
  clear hr1 hc1
  have HR2 := Aside0.mk hr2
  have HC2 := Aside0.mk hc2
  clear hr2 hc2
  have HB := Aside0.mk (Below.refl w.heap.size w)
  have H : (tripartiteref03_Right.l0 k l0 l1 l2 0) = some r := h
  clear h
  have H' := Aside0.mk H
  clear H
  go_enter Try.func33, Try.ntmps33
  go_wp2
  repeat (go_quiet (fail); try go_wp2)
  go_loopg [7] k (fun kq v7 w' => ∃ (x7_1 : Int), v7 = .int .i64 x7_1 ∧ Aside0 (tripartiteref03_Right.l0 kq l0 l1 l2 x7_1 = some r) ∧ Aside0 (kq ≤ k) ∧ Aside0 (Below w.heap.size w w'))
  case atStart => exact ⟨(0), (by first | rfl | (simp; done) | (simp [*]; done)), H', ⟨Nat.le_refl _⟩, ⟨by repeat (first | (with_reducible first | exact HB.out | apply below_alloc | apply pw_below_drewN | apply below_drew1) | exact HB.out)⟩⟩
  case round =>
    clear H'
    try clear c1
    try clear c2
    try clear p2
    try clear c3
    obtain ⟨x7_1, rfl, HA, HK1, HB⟩ := hrel
    cases gk with
    | zero => exact absurd HA.out (by simp [tripartiteref03_Right.l0])
    | succ k1 =>
      have H := HA.out
      clear HA
      simp only [tripartiteref03_Right.l0] at H
      by_cases c4 : x7_1 < (l2.length : Int)
      · rw [if_pos c4] at H
        have c4b0 : decide (x7_1 < (l2.length : Int)) = true := decide_eq_true c4
        clear c4
        by_cases c5 : 0 ≤ x7_1
        · rw [if_pos c5] at H
          have c5b0 : decide (0 ≤ x7_1) = true := decide_eq_true c5
          clear c5
          have HC6 := Aside0.mk H
          clear H
          have p101 : 0 ≤ (x7_1 : Int) := of_decide_eq_true (by first | (with_reducible assumption) | assumption)
          have q101 : x7_1 < (l2.length : Int) := of_decide_eq_true (by first | (with_reducible assumption) | assumption)
          obtain ⟨ad101, e101, hx101_0, hx101_1⟩ := at_T37 HR2.out x7_1 p101 q101
          cases e101
          replace hx101_0 := (HB.out.cell (World.block_lt_of_cell? w _ hx101_0)).trans hx101_0
          replace hx101_1 := (HB.out.cell (World.block_lt_of_cell? w _ hx101_1)).trans hx101_1
          replace p101 := eq_true p101
          replace q101 := eq_true q101
          go_upto_region 5 with (first | ((with_reducible refine gate_dst (N := 8) rfl ?_); (try (refine gate_guard (by rfl) ?_; dsimp only)); refine box_event ?hg (N := 8) ?hd (cs := #[.int .i64 0, .int .i64 0]) (t := 37) ?hr ?_; (case hd => rfl); (case hg => rfl); (case hr => first | (go_simp; done) | (go_simp; rfl)); intro gb102 hg w7 hbox hb; have n0_ := Aside0.mk (below_step (by repeat (first | (with_reducible first | exact HB.out | apply below_alloc | apply pw_below_drewN | apply below_drew1) | exact HB.out)) hb); have n1_ := Aside0.mk (hbox); have n2_ := Aside0.mk ((by rw [hg]; exact (below_size (by repeat (first | (with_reducible first | exact HB.out | apply below_alloc | apply pw_below_drewN | apply below_drew1) | exact HB.out))) : w.heap.size ≤ gb102)); have n3_ := Aside0.mk ((by rw [hg]; exact (below_size (by repeat (first | (with_reducible first | exact HB.out | apply below_alloc | apply pw_below_drewN | apply below_drew1) | exact HB.out))) : w.heap.size ≤ gb102)); clear HB; have HB := n0_; have BK102 := n1_; have GW102 := n2_; have GE102 := n3_; clear n0_ n1_ n2_ n3_; clear hb hbox hg; have hcz8_0 : w7.cell? ⟨gb102, 0, none⟩ = some (.int .i64 0) := (blk_cell BK102.out 0).trans rfl; have hcz8_1 : w7.cell? ⟨gb102, 1, none⟩ = some (.int .i64 0) := (blk_cell BK102.out 1).trans rfl; have hfz8_0 := blk_frozen BK102.out 0; have hfz8_1 := blk_frozen BK102.out 1))
          repeat (go_quiet (first | ((with_reducible refine gate_dst (N := 8) rfl ?_); (try (refine gate_guard (by rfl) ?_; dsimp only)); refine box_event ?hg (N := 8) ?hd (cs := #[.int .i64 0, .int .i64 0]) (t := 37) ?hr ?_; (case hd => rfl); (case hg => rfl); (case hr => first | (go_simp; done) | (go_simp; rfl)); intro gb102 hg w7 hbox hb; have n0_ := Aside0.mk (below_step (by repeat (first | (with_reducible first | exact HB.out | apply below_alloc | apply pw_below_drewN | apply below_drew1) | exact HB.out)) hb); have n1_ := Aside0.mk (hbox); have n2_ := Aside0.mk ((by rw [hg]; exact (below_size (by repeat (first | (with_reducible first | exact HB.out | apply below_alloc | apply pw_below_drewN | apply below_drew1) | exact HB.out))) : w.heap.size ≤ gb102)); have n3_ := Aside0.mk ((by rw [hg]; exact (below_size (by repeat (first | (with_reducible first | exact HB.out | apply below_alloc | apply pw_below_drewN | apply below_drew1) | exact HB.out))) : w.heap.size ≤ gb102)); clear HB; have HB := n0_; have BK102 := n1_; have GW102 := n2_; have GE102 := n3_; clear n0_ n1_ n2_ n3_; clear hb hbox hg; have hcz8_0 : w7.cell? ⟨gb102, 0, none⟩ = some (.int .i64 0) := (blk_cell BK102.out 0).trans rfl; have hcz8_1 : w7.cell? ⟨gb102, 1, none⟩ = some (.int .i64 0) := (blk_cell BK102.out 1).trans rfl; have hfz8_0 := blk_frozen BK102.out 0; have hfz8_1 := blk_frozen BK102.out 1)); go_upto_region 5 with (first | ((with_reducible refine gate_dst (N := 8) rfl ?_); (try (refine gate_guard (by rfl) ?_; dsimp only)); refine box_event ?hg (N := 8) ?hd (cs := #[.int .i64 0, .int .i64 0]) (t := 37) ?hr ?_; (case hd => rfl); (case hg => rfl); (case hr => first | (go_simp; done) | (go_simp; rfl)); intro gb102 hg w7 hbox hb; have n0_ := Aside0.mk (below_step (by repeat (first | (with_reducible first | exact HB.out | apply below_alloc | apply pw_below_drewN | apply below_drew1) | exact HB.out)) hb); have n1_ := Aside0.mk (hbox); have n2_ := Aside0.mk ((by rw [hg]; exact (below_size (by repeat (first | (with_reducible first | exact HB.out | apply below_alloc | apply pw_below_drewN | apply below_drew1) | exact HB.out))) : w.heap.size ≤ gb102)); have n3_ := Aside0.mk ((by rw [hg]; exact (below_size (by repeat (first | (with_reducible first | exact HB.out | apply below_alloc | apply pw_below_drewN | apply below_drew1) | exact HB.out))) : w.heap.size ≤ gb102)); clear HB; have HB := n0_; have BK102 := n1_; have GW102 := n2_; have GE102 := n3_; clear n0_ n1_ n2_ n3_; clear hb hbox hg; have hcz8_0 : w7.cell? ⟨gb102, 0, none⟩ = some (.int .i64 0) := (blk_cell BK102.out 0).trans rfl; have hcz8_1 : w7.cell? ⟨gb102, 1, none⟩ = some (.int .i64 0) := (blk_cell BK102.out 1).trans rfl; have hfz8_0 := blk_frozen BK102.out 0; have hfz8_1 := blk_frozen BK102.out 1)))
          (try simp only [Act.put, List.setIfInBounds_toArray, List.set_cons_zero, List.set_cons_succ])
          go_cut [53] (fun v53 wc => ∃ (kq : Nat) (x53_5 : Bool), v53 = .bool x53_5 ∧ Aside0 (tripartiteref03_Right.j1 kq l0 l1 l2 x7_1 x53_5 ((rd_T37 l2 x7_1).f0) ((rd_T37 l2 x7_1).f1) = some r) ∧ Aside0 (kq ≤ k1) ∧ Aside0 (wc.heap[gb102]? = some (.cells #[.int .i64 ((rd_T37 l2 x7_1).f0), .int .i64 ((rd_T37 l2 x7_1).f1)] 37 (0, 0))) ∧ Aside0 (Below w.heap.size w wc))
          case first =>
            have H := HC6.out
            clear HC6
            by_cases c9 : ((rd_T37 l2 x7_1).f0) < 0
            · rw [if_pos c9] at H
              have c9b0 : decide (((rd_T37 l2 x7_1).f0) < 0) = true := decide_eq_true c9
              clear c9
              (first | rw [c9b0] | (simp only [i64_w, i32_w]; rw [c9b0]) | skip)
              have H' := Aside0.mk H
              clear H
              have hcz10_0 : w7.cell? ⟨gb102, 0, none⟩ = some (.int .i64 0) := (blk_cell BK102.out 0).trans rfl
              have hcz10_1 : w7.cell? ⟨gb102, 1, none⟩ = some (.int .i64 0) := (blk_cell BK102.out 1).trans rfl
              have hfz10_0 := blk_frozen BK102.out 0
              have hfz10_1 := blk_frozen BK102.out 1
              go_wp2
              repeat (go_quiet (fail); try go_wp2)
              go_meet
              case rel => exact ⟨_, (true), (by first | rfl | (simp; done) | (simp [*]; done)), H', ⟨by have := HK1.out; first | omega | exact Nat.le_refl _⟩, ⟨by (with_reducible repeat (first | refine blk_drewN ?_ _ | refine blk_drew ?_ | refine blk_alloc ?_ _)); refine blk_put (cs := #[.int .i64 ((rd_T37 l2 x7_1).f0), .int .i64 0]) ?_ 1 _ rfl; (with_reducible repeat (first | refine blk_drewN ?_ _ | refine blk_drew ?_ | refine blk_alloc ?_ _)); refine blk_put (cs := #[.int .i64 0, .int .i64 0]) ?_ 0 _ rfl; (with_reducible repeat (first | refine blk_drewN ?_ _ | refine blk_drew ?_ | refine blk_alloc ?_ _)); exact BK102.out⟩, ⟨by repeat (first | (with_reducible first | exact HB.out | apply below_alloc | apply pw_below_drewN | apply below_drew1 | refine below_set ?_ GE102.out) | exact HB.out)⟩⟩
            · rw [if_neg c9] at H
              have c9b0 : decide (((rd_T37 l2 x7_1).f0) < 0) = false := decide_eq_false c9
              clear c9
              (first | rw [c9b0] | (simp only [i64_w, i32_w]; rw [c9b0]) | skip)
              by_cases c11 : ((rd_T37 l2 x7_1).f0) ≥ (l0.length : Int)
              · rw [if_pos c11] at H
                have c11b0 : decide ((l0.length : Int) ≤ ((rd_T37 l2 x7_1).f0)) = true := decide_eq_true c11
                clear c11
                have H' := Aside0.mk H
                clear H
                have hcz12_0 : w7.cell? ⟨gb102, 0, none⟩ = some (.int .i64 0) := (blk_cell BK102.out 0).trans rfl
                have hcz12_1 : w7.cell? ⟨gb102, 1, none⟩ = some (.int .i64 0) := (blk_cell BK102.out 1).trans rfl
                have hfz12_0 := blk_frozen BK102.out 0
                have hfz12_1 := blk_frozen BK102.out 1
                go_wp2
                repeat (go_quiet (fail); try go_wp2)
                go_meet
                case rel => exact ⟨_, (true), (by first | rfl | (simp; done) | (simp [*]; done)), H', ⟨by have := HK1.out; first | omega | exact Nat.le_refl _⟩, ⟨by (with_reducible repeat (first | refine blk_drewN ?_ _ | refine blk_drew ?_ | refine blk_alloc ?_ _)); refine blk_put (cs := #[.int .i64 ((rd_T37 l2 x7_1).f0), .int .i64 0]) ?_ 1 _ rfl; (with_reducible repeat (first | refine blk_drewN ?_ _ | refine blk_drew ?_ | refine blk_alloc ?_ _)); refine blk_put (cs := #[.int .i64 0, .int .i64 0]) ?_ 0 _ rfl; (with_reducible repeat (first | refine blk_drewN ?_ _ | refine blk_drew ?_ | refine blk_alloc ?_ _)); exact BK102.out⟩, ⟨by repeat (first | (with_reducible first | exact HB.out | apply below_alloc | apply pw_below_drewN | apply below_drew1 | refine below_set ?_ GE102.out) | exact HB.out)⟩⟩
              · rw [if_neg c11] at H
                have c11b0 : decide ((l0.length : Int) ≤ ((rd_T37 l2 x7_1).f0)) = false := decide_eq_false c11
                clear c11
                by_cases c13 : ((rd_T37 l2 x7_1).f1) < 0
                · rw [if_pos c13] at H
                  have c13b0 : decide (((rd_T37 l2 x7_1).f1) < 0) = true := decide_eq_true c13
                  clear c13
                  have H' := Aside0.mk H
                  clear H
                  have hcz14_0 : w7.cell? ⟨gb102, 0, none⟩ = some (.int .i64 0) := (blk_cell BK102.out 0).trans rfl
                  have hcz14_1 : w7.cell? ⟨gb102, 1, none⟩ = some (.int .i64 0) := (blk_cell BK102.out 1).trans rfl
                  have hfz14_0 := blk_frozen BK102.out 0
                  have hfz14_1 := blk_frozen BK102.out 1
                  go_wp2
                  repeat (go_quiet (fail); try go_wp2)
                  go_meet
                  case rel => exact ⟨_, (true), (by first | rfl | (simp; done) | (simp [*]; done)), H', ⟨by have := HK1.out; first | omega | exact Nat.le_refl _⟩, ⟨by (with_reducible repeat (first | refine blk_drewN ?_ _ | refine blk_drew ?_ | refine blk_alloc ?_ _)); refine blk_put (cs := #[.int .i64 ((rd_T37 l2 x7_1).f0), .int .i64 0]) ?_ 1 _ rfl; (with_reducible repeat (first | refine blk_drewN ?_ _ | refine blk_drew ?_ | refine blk_alloc ?_ _)); refine blk_put (cs := #[.int .i64 0, .int .i64 0]) ?_ 0 _ rfl; (with_reducible repeat (first | refine blk_drewN ?_ _ | refine blk_drew ?_ | refine blk_alloc ?_ _)); exact BK102.out⟩, ⟨by repeat (first | (with_reducible first | exact HB.out | apply below_alloc | apply pw_below_drewN | apply below_drew1 | refine below_set ?_ GE102.out) | exact HB.out)⟩⟩
                · rw [if_neg c13] at H
                  have c13b0 : decide (((rd_T37 l2 x7_1).f1) < 0) = false := decide_eq_false c13
                  clear c13
                  by_cases c15 : ((rd_T37 l2 x7_1).f1) ≥ (l1.length : Int)
                  · rw [if_pos c15] at H
                    have c15b0 : decide ((l1.length : Int) ≤ ((rd_T37 l2 x7_1).f1)) = true := decide_eq_true c15
                    clear c15
                    have H' := Aside0.mk H
                    clear H
                    have hcz16_0 : w7.cell? ⟨gb102, 0, none⟩ = some (.int .i64 0) := (blk_cell BK102.out 0).trans rfl
                    have hcz16_1 : w7.cell? ⟨gb102, 1, none⟩ = some (.int .i64 0) := (blk_cell BK102.out 1).trans rfl
                    have hfz16_0 := blk_frozen BK102.out 0
                    have hfz16_1 := blk_frozen BK102.out 1
                    go_wp2
                    repeat (go_quiet (fail); try go_wp2)
                    go_meet
                    case rel => exact ⟨_, (true), (by first | rfl | (simp; done) | (simp [*]; done)), H', ⟨by have := HK1.out; first | omega | exact Nat.le_refl _⟩, ⟨by (with_reducible repeat (first | refine blk_drewN ?_ _ | refine blk_drew ?_ | refine blk_alloc ?_ _)); refine blk_put (cs := #[.int .i64 ((rd_T37 l2 x7_1).f0), .int .i64 0]) ?_ 1 _ rfl; (with_reducible repeat (first | refine blk_drewN ?_ _ | refine blk_drew ?_ | refine blk_alloc ?_ _)); refine blk_put (cs := #[.int .i64 0, .int .i64 0]) ?_ 0 _ rfl; (with_reducible repeat (first | refine blk_drewN ?_ _ | refine blk_drew ?_ | refine blk_alloc ?_ _)); exact BK102.out⟩, ⟨by repeat (first | (with_reducible first | exact HB.out | apply below_alloc | apply pw_below_drewN | apply below_drew1 | refine below_set ?_ GE102.out) | exact HB.out)⟩⟩
                  · rw [if_neg c15] at H
                    have c15b0 : decide ((l1.length : Int) ≤ ((rd_T37 l2 x7_1).f1)) = false := decide_eq_false c15
                    clear c15
                    by_cases c17 : 0 ≤ ((rd_T37 l2 x7_1).f0)
                    · rw [if_pos c17] at H
                      have c17b0 : decide (0 ≤ ((rd_T37 l2 x7_1).f0)) = true := decide_eq_true c17
                      clear c17
                      by_cases c18 : ((rd_T37 l2 x7_1).f0) < (l0.length : Int)
                      · rw [if_pos c18] at H
                        have c18b0 : decide (((rd_T37 l2 x7_1).f0) < (l0.length : Int)) = true := decide_eq_true c18
                        clear c18
                        by_cases c19 : 0 ≤ ((rd_T37 l2 x7_1).f1)
                        · rw [if_pos c19] at H
                          have c19b0 : decide (0 ≤ ((rd_T37 l2 x7_1).f1)) = true := decide_eq_true c19
                          clear c19
                          by_cases c20 : ((rd_T37 l2 x7_1).f1) < (l1.length : Int)
                          · rw [if_pos c20] at H
                            have c20b0 : decide (((rd_T37 l2 x7_1).f1) < (l1.length : Int)) = true := decide_eq_true c20
                            clear c20
                            have H' := Aside0.mk H
                            clear H
                            have hcz21_0 : w7.cell? ⟨gb102, 0, none⟩ = some (.int .i64 0) := (blk_cell BK102.out 0).trans rfl
                            have hcz21_1 : w7.cell? ⟨gb102, 1, none⟩ = some (.int .i64 0) := (blk_cell BK102.out 1).trans rfl
                            have hfz21_0 := blk_frozen BK102.out 0
                            have hfz21_1 := blk_frozen BK102.out 1
                            have p103 : 0 ≤ (((rd_T37 l2 x7_1).f0) : Int) := of_decide_eq_true (by first | (with_reducible assumption) | assumption)
                            have q103 : ((rd_T37 l2 x7_1).f0) < (l0.length : Int) := of_decide_eq_true (by first | (with_reducible assumption) | assumption)
                            obtain ⟨ad103, e103, hx103_0⟩ := Kd.at_int HR0.out ((rd_T37 l2 x7_1).f0) p103 q103
                            cases e103
                            have hn103_0 : ad103.block ≠ gb102 := Nat.ne_of_lt (Nat.lt_of_lt_of_le (by have := World.block_lt_of_cell? _ _ hx103_0; first | rwa [add_block] at this | exact this) GW102.out)
                            have hn103_1 : ad103.block ≠ gb102 := Nat.ne_of_lt (Nat.lt_of_lt_of_le (by have := World.block_lt_of_cell? _ _ hx103_0; first | rwa [add_block] at this | exact this) GW102.out)
                            replace hx103_0 := (HB.out.cell (World.block_lt_of_cell? w _ hx103_0)).trans hx103_0
                            replace hx103_0 := (cell_far (p := ⟨gb102, 0, none⟩) (by first | (rw [add_block]; exact hn103_0) | (show (Addr.add _ _).block ≠ _; rw [add_block]; exact hn103_0) | exact hn103_0) (.int .i64 ((rd_T37 l2 x7_1).f0))).trans hx103_0
                            replace hx103_0 := (cell_far (p := ⟨gb102, 1, none⟩) (by first | (rw [add_block]; exact hn103_1) | (show (Addr.add _ _).block ≠ _; rw [add_block]; exact hn103_1) | exact hn103_1) (.int .i64 ((rd_T37 l2 x7_1).f1))).trans hx103_0
                            (try have hy103_0 := fun (n_ : Nat) => (show ((((w7.drewN n_).setCell ⟨gb102, 0, none⟩ (.int .i64 ((rd_T37 l2 x7_1).f0))).setCell ⟨gb102, 1, none⟩ (.int .i64 ((rd_T37 l2 x7_1).f1)))).cell? _ = some _ from hx103_0))
                            clear hn103_0
                            clear hn103_1
                            replace p103 := eq_true p103
                            replace q103 := eq_true q103
                            have p104 : 0 ≤ (((rd_T37 l2 x7_1).f1) : Int) := of_decide_eq_true (by first | (with_reducible assumption) | assumption)
                            have q104 : ((rd_T37 l2 x7_1).f1) < (l1.length : Int) := of_decide_eq_true (by first | (with_reducible assumption) | assumption)
                            obtain ⟨ad104, e104, hx104_0⟩ := Kd.at_int HR1.out ((rd_T37 l2 x7_1).f1) p104 q104
                            cases e104
                            have hn104_0 : ad104.block ≠ gb102 := Nat.ne_of_lt (Nat.lt_of_lt_of_le (by have := World.block_lt_of_cell? _ _ hx104_0; first | rwa [add_block] at this | exact this) GW102.out)
                            have hn104_1 : ad104.block ≠ gb102 := Nat.ne_of_lt (Nat.lt_of_lt_of_le (by have := World.block_lt_of_cell? _ _ hx104_0; first | rwa [add_block] at this | exact this) GW102.out)
                            replace hx104_0 := (HB.out.cell (World.block_lt_of_cell? w _ hx104_0)).trans hx104_0
                            replace hx104_0 := (cell_far (p := ⟨gb102, 0, none⟩) (by first | (rw [add_block]; exact hn104_0) | (show (Addr.add _ _).block ≠ _; rw [add_block]; exact hn104_0) | exact hn104_0) (.int .i64 ((rd_T37 l2 x7_1).f0))).trans hx104_0
                            replace hx104_0 := (cell_far (p := ⟨gb102, 1, none⟩) (by first | (rw [add_block]; exact hn104_1) | (show (Addr.add _ _).block ≠ _; rw [add_block]; exact hn104_1) | exact hn104_1) (.int .i64 ((rd_T37 l2 x7_1).f1))).trans hx104_0
                            (try have hy104_0 := fun (n_ : Nat) => (show ((((w7.drewN n_).setCell ⟨gb102, 0, none⟩ (.int .i64 ((rd_T37 l2 x7_1).f0))).setCell ⟨gb102, 1, none⟩ (.int .i64 ((rd_T37 l2 x7_1).f1)))).cell? _ = some _ from hx104_0))
                            clear hn104_0
                            clear hn104_1
                            replace p104 := eq_true p104
                            replace q104 := eq_true q104
                            go_wp2
                            repeat (go_quiet (fail); try go_wp2)
                            go_meet
                            case rel => exact ⟨_, (((rd l0 ((rd_T37 l2 x7_1).f0)) != (rd l1 ((rd_T37 l2 x7_1).f1)))), (by first | rfl | (simp; done) | (simp [*]; done)), H', ⟨by have := HK1.out; first | omega | exact Nat.le_refl _⟩, ⟨by (with_reducible repeat (first | refine blk_drewN ?_ _ | refine blk_drew ?_ | refine blk_alloc ?_ _)); refine blk_put (cs := #[.int .i64 ((rd_T37 l2 x7_1).f0), .int .i64 0]) ?_ 1 _ rfl; (with_reducible repeat (first | refine blk_drewN ?_ _ | refine blk_drew ?_ | refine blk_alloc ?_ _)); refine blk_put (cs := #[.int .i64 0, .int .i64 0]) ?_ 0 _ rfl; (with_reducible repeat (first | refine blk_drewN ?_ _ | refine blk_drew ?_ | refine blk_alloc ?_ _)); exact BK102.out⟩, ⟨by repeat (first | (with_reducible first | exact HB.out | apply below_alloc | apply pw_below_drewN | apply below_drew1 | refine below_set ?_ GE102.out) | exact HB.out)⟩⟩
                          · rw [if_neg c20] at H
                            exact absurd H (by simp)
                        · rw [if_neg c19] at H
                          exact absurd H (by simp)
                      · rw [if_neg c18] at H
                        exact absurd H (by simp)
                    · rw [if_neg c17] at H
                      exact absurd H (by simp)
          case rest =>
            clear HC6
            try clear c1
            try clear p1
            try clear q1
            try clear hx1
            try clear c2
            try clear p2
            try clear c3
            try clear c4
            try clear c4b0
            try clear c5
            try clear c5b0
            try clear c9
            try clear c9b0
            try clear p10
            try clear q10
            try clear hx10
            try clear c11
            try clear c11b0
            try clear c13
            try clear c13b0
            try clear c15
            try clear c15b0
            try clear c17
            try clear c17b0
            try clear c18
            try clear c18b0
            try clear c19
            try clear c19b0
            try clear c20
            try clear c20b0
            try clear hcz10_0
            try clear hcz10_1
            try clear hcz12_0
            try clear hcz12_1
            try clear hcz14_0
            try clear hcz14_1
            try clear hcz16_0
            try clear hcz16_1
            try clear hcz21_0
            try clear hcz21_1
            try clear hcz8_0
            try clear hcz8_1
            try clear hfz10_0
            try clear hfz10_1
            try clear hfz12_0
            try clear hfz12_1
            try clear hfz14_0
            try clear hfz14_1
            try clear hfz16_0
            try clear hfz16_1
            try clear hfz21_0
            try clear hfz21_1
            try clear hfz8_0
            try clear hfz8_1
            try clear hx101_0
            try clear hx101_1
            try clear hx103_0
            try clear hx104_0
            try clear p101
            try clear p103
            try clear p104
            try clear p2
            try clear q101
            try clear q103
            try clear q104
            obtain ⟨kq, x53_5, rfl, HA, HJ5, BK102, HB⟩ := hcut
            cases kq with
            | zero => exact absurd HA.out (by simp [tripartiteref03_Right.j1])
            | succ kj5 =>
              have H := HA.out
              clear HA
              simp only [tripartiteref03_Right.j1] at H
              by_cases c22 : x53_5 = true
              · subst c22
                have H1 : (some false) = some r := by rw [if_pos rfl] at H; exact H
                clear H
                have H := H1
                clear H1
                obtain rfl := Option.some.inj H
                go_wp2
                repeat (go_quiet (fail); try go_wp2)
                go_ret
                exact ⟨by first | rfl | (simp [errW_none, errW_some] <;> rfl) | (simp [*, errW_none, errW_some] <;> rfl), by repeat (first | (with_reducible first | exact HB.out | apply below_alloc | apply pw_below_drewN | apply below_drew1 | refine below_set ?_ GE102.out) | exact HB.out)⟩
              · replace c22 := Bool.eq_false_iff.mpr c22
                subst c22
                have H1 : (if x7_1 > 0 then (if 0 ≤ (wrap64 (x7_1 - 1)) then (if (wrap64 (x7_1 - 1)) < (l2.length : Int) then (if ((rd_T37 l2 (wrap64 (x7_1 - 1))).f0) ≥ ((rd_T37 l2 x7_1).f0) then (some false) else (if ((rd_T37 l2 (wrap64 (x7_1 - 1))).f1) ≥ ((rd_T37 l2 x7_1).f1) then (some false) else (tripartiteref03_Right.l0 kj5 l0 l1 l2 (wrap64 (x7_1 + 1))))) else (none)) else (none)) else (tripartiteref03_Right.l0 kj5 l0 l1 l2 (wrap64 (x7_1 + 1)))) = some r := by rw [if_neg (show ¬ (false = true) by decide)] at H; exact H
                clear H
                have H := H1
                clear H1
                by_cases c23 : x7_1 > 0
                · rw [if_pos c23] at H
                  have c23b0 : decide (0 < x7_1) = true := decide_eq_true c23
                  clear c23
                  obtain ⟨ji24, hji24⟩ : ∃ j_ : Int, (wrap64 (x7_1 - 1)) = j_ := ⟨_, rfl⟩
                  replace H : (if 0 ≤ (ji24) then (if (ji24) < (l2.length : Int) then (if ((rd_T37 l2 (ji24)).f0) ≥ ((rd_T37 l2 x7_1).f0) then (some false) else (if ((rd_T37 l2 (ji24)).f1) ≥ ((rd_T37 l2 x7_1).f1) then (some false) else (tripartiteref03_Right.l0 kj5 l0 l1 l2 (wrap64 (x7_1 + 1))))) else (none)) else (none)) = some r := by first | (rw [hji24] at H; exact H) | (simp only [hji24] at H ⊢; exact H)
                  have hji24w : (IntKind.i64.wrap (x7_1 - 1)) = ji24 := (i64_w _).trans hji24
                  by_cases c25 : 0 ≤ (ji24)
                  · rw [if_pos c25] at H
                    have c25b0 : decide (0 ≤ (ji24)) = true := decide_eq_true c25
                    clear c25
                    by_cases c26 : (ji24) < (l2.length : Int)
                    · rw [if_pos c26] at H
                      have c26b0 : decide ((ji24) < (l2.length : Int)) = true := decide_eq_true c26
                      clear c26
                      by_cases c27 : ((rd_T37 l2 (ji24)).f0) ≥ ((rd_T37 l2 x7_1).f0)
                      · rw [if_pos c27] at H
                        have c27b0 : decide (((rd_T37 l2 x7_1).f0) ≤ ((rd_T37 l2 (ji24)).f0)) = true := decide_eq_true c27
                        clear c27
                        obtain rfl := Option.some.inj H
                        have p105 : 0 ≤ ((ji24) : Int) := of_decide_eq_true (by first | (with_reducible assumption) | assumption)
                        have q105 : (ji24) < (l2.length : Int) := of_decide_eq_true (by first | (with_reducible assumption) | assumption)
                        obtain ⟨ad105, e105, hx105_0, hx105_1⟩ := at_T37 HR2.out (ji24) p105 q105
                        obtain rfl : ad101 = ad105 := (by injection e105)
                        replace hx105_0 := (HB.out.cell (World.block_lt_of_cell? w _ hx105_0)).trans hx105_0
                        replace hx105_1 := (HB.out.cell (World.block_lt_of_cell? w _ hx105_1)).trans hx105_1
                        replace p105 := eq_true p105
                        replace q105 := eq_true q105
                        have hcz28_0 : wc.cell? ⟨gb102, 0, none⟩ = some (.int .i64 ((rd_T37 l2 x7_1).f0)) := (blk_cell BK102.out 0).trans rfl
                        have hcz28_1 : wc.cell? ⟨gb102, 1, none⟩ = some (.int .i64 ((rd_T37 l2 x7_1).f1)) := (blk_cell BK102.out 1).trans rfl
                        have hfz28_0 := blk_frozen BK102.out 0
                        have hfz28_1 := blk_frozen BK102.out 1
                        go_wp2
                        repeat (go_quiet (fail); try go_wp2)
                        go_ret
                        exact ⟨by first | rfl | (simp [errW_none, errW_some] <;> rfl) | (simp only [← hji24]; first | rfl | (simp [errW_none, errW_some] <;> rfl)) | (simp [*, errW_none, errW_some] <;> rfl), by repeat (first | (with_reducible first | exact HB.out | apply below_alloc | apply pw_below_drewN | apply below_drew1 | refine below_set ?_ GE102.out) | exact HB.out)⟩
                      · rw [if_neg c27] at H
                        have c27b0 : decide (((rd_T37 l2 x7_1).f0) ≤ ((rd_T37 l2 (ji24)).f0)) = false := decide_eq_false c27
                        clear c27
                        by_cases c29 : ((rd_T37 l2 (ji24)).f1) ≥ ((rd_T37 l2 x7_1).f1)
                        · rw [if_pos c29] at H
                          have c29b0 : decide (((rd_T37 l2 x7_1).f1) ≤ ((rd_T37 l2 (ji24)).f1)) = true := decide_eq_true c29
                          clear c29
                          obtain rfl := Option.some.inj H
                          have p105 : 0 ≤ ((ji24) : Int) := of_decide_eq_true (by first | (with_reducible assumption) | assumption)
                          have q105 : (ji24) < (l2.length : Int) := of_decide_eq_true (by first | (with_reducible assumption) | assumption)
                          obtain ⟨ad105, e105, hx105_0, hx105_1⟩ := at_T37 HR2.out (ji24) p105 q105
                          obtain rfl : ad101 = ad105 := (by injection e105)
                          replace hx105_0 := (HB.out.cell (World.block_lt_of_cell? w _ hx105_0)).trans hx105_0
                          replace hx105_1 := (HB.out.cell (World.block_lt_of_cell? w _ hx105_1)).trans hx105_1
                          replace p105 := eq_true p105
                          replace q105 := eq_true q105
                          have hcz30_0 : wc.cell? ⟨gb102, 0, none⟩ = some (.int .i64 ((rd_T37 l2 x7_1).f0)) := (blk_cell BK102.out 0).trans rfl
                          have hcz30_1 : wc.cell? ⟨gb102, 1, none⟩ = some (.int .i64 ((rd_T37 l2 x7_1).f1)) := (blk_cell BK102.out 1).trans rfl
                          have hfz30_0 := blk_frozen BK102.out 0
                          have hfz30_1 := blk_frozen BK102.out 1
                          have p106 : 0 ≤ ((ji24) : Int) := of_decide_eq_true (by first | (with_reducible assumption) | assumption)
                          have q106 : (ji24) < (l2.length : Int) := of_decide_eq_true (by first | (with_reducible assumption) | assumption)
                          obtain ⟨ad106, e106, hx106_0, hx106_1⟩ := at_T37 HR2.out (ji24) p106 q106
                          obtain rfl : ad101 = ad106 := (by injection e106)
                          replace hx106_0 := (HB.out.cell (World.block_lt_of_cell? w _ hx106_0)).trans hx106_0
                          replace hx106_1 := (HB.out.cell (World.block_lt_of_cell? w _ hx106_1)).trans hx106_1
                          replace p106 := eq_true p106
                          replace q106 := eq_true q106
                          go_wp2
                          repeat (go_quiet (fail); try go_wp2)
                          go_ret
                          exact ⟨by first | rfl | (simp [errW_none, errW_some] <;> rfl) | (simp only [← hji24]; first | rfl | (simp [errW_none, errW_some] <;> rfl)) | (simp [*, errW_none, errW_some] <;> rfl), by repeat (first | (with_reducible first | exact HB.out | apply below_alloc | apply pw_below_drewN | apply below_drew1 | refine below_set ?_ GE102.out) | exact HB.out)⟩
                        · rw [if_neg c29] at H
                          have c29b0 : decide (((rd_T37 l2 x7_1).f1) ≤ ((rd_T37 l2 (ji24)).f1)) = false := decide_eq_false c29
                          clear c29
                          have H' := Aside0.mk H
                          clear H
                          have p105 : 0 ≤ ((ji24) : Int) := of_decide_eq_true (by first | (with_reducible assumption) | assumption)
                          have q105 : (ji24) < (l2.length : Int) := of_decide_eq_true (by first | (with_reducible assumption) | assumption)
                          obtain ⟨ad105, e105, hx105_0, hx105_1⟩ := at_T37 HR2.out (ji24) p105 q105
                          obtain rfl : ad101 = ad105 := (by injection e105)
                          replace hx105_0 := (HB.out.cell (World.block_lt_of_cell? w _ hx105_0)).trans hx105_0
                          replace hx105_1 := (HB.out.cell (World.block_lt_of_cell? w _ hx105_1)).trans hx105_1
                          replace p105 := eq_true p105
                          replace q105 := eq_true q105
                          have hcz31_0 : wc.cell? ⟨gb102, 0, none⟩ = some (.int .i64 ((rd_T37 l2 x7_1).f0)) := (blk_cell BK102.out 0).trans rfl
                          have hcz31_1 : wc.cell? ⟨gb102, 1, none⟩ = some (.int .i64 ((rd_T37 l2 x7_1).f1)) := (blk_cell BK102.out 1).trans rfl
                          have hfz31_0 := blk_frozen BK102.out 0
                          have hfz31_1 := blk_frozen BK102.out 1
                          have p106 : 0 ≤ ((ji24) : Int) := of_decide_eq_true (by first | (with_reducible assumption) | assumption)
                          have q106 : (ji24) < (l2.length : Int) := of_decide_eq_true (by first | (with_reducible assumption) | assumption)
                          obtain ⟨ad106, e106, hx106_0, hx106_1⟩ := at_T37 HR2.out (ji24) p106 q106
                          obtain rfl : ad101 = ad106 := (by injection e106)
                          replace hx106_0 := (HB.out.cell (World.block_lt_of_cell? w _ hx106_0)).trans hx106_0
                          replace hx106_1 := (HB.out.cell (World.block_lt_of_cell? w _ hx106_1)).trans hx106_1
                          replace p106 := eq_true p106
                          replace q106 := eq_true q106
                          go_wp2
                          repeat (go_quiet (fail); try go_wp2)
                          go_roundg kj5
                          case measure => have := HK1.out; have := HJ5.out; omega
                          case rel => exact ⟨(wrap64 (x7_1 + 1)), (by first | rfl | (simp; done) | (simp [*]; done)), H', ⟨by have := HK1.out; have := HJ5.out; omega⟩, ⟨by repeat (first | (with_reducible first | exact HB.out | apply below_alloc | apply pw_below_drewN | apply below_drew1 | refine below_set ?_ GE102.out) | exact HB.out)⟩⟩
                    · rw [if_neg c26] at H
                      exact absurd H (by simp)
                  · rw [if_neg c25] at H
                    exact absurd H (by simp)
                · rw [if_neg c23] at H
                  have c23b0 : decide (0 < x7_1) = false := decide_eq_false c23
                  clear c23
                  have H' := Aside0.mk H
                  clear H
                  go_wp2
                  repeat (go_quiet (fail); try go_wp2)
                  go_roundg kj5
                  case measure => have := HK1.out; have := HJ5.out; omega
                  case rel => exact ⟨(wrap64 (x7_1 + 1)), (by first | rfl | (simp; done) | (simp [*]; done)), H', ⟨by have := HK1.out; have := HJ5.out; omega⟩, ⟨by repeat (first | (with_reducible first | exact HB.out | apply below_alloc | apply pw_below_drewN | apply below_drew1 | refine below_set ?_ GE102.out) | exact HB.out)⟩⟩
        · rw [if_neg c5] at H
          exact absurd H (by simp)
      · rw [if_neg c4] at H
        have c4b0 : decide (x7_1 < (l2.length : Int)) = false := decide_eq_false c4
        clear c4
        obtain rfl := Option.some.inj H
        go_wp2
        repeat (go_quiet (fail); try go_wp2)
        go_ret
        exact ⟨by first | rfl | (simp [errW_none, errW_some] <;> rfl) | (simp [*, errW_none, errW_some] <;> rfl), by repeat (first | (with_reducible first | exact HB.out | apply below_alloc | apply pw_below_drewN | apply below_drew1) | exact HB.out)⟩

end Go.Proofs.Ytadafplbgophfaa.PA
end
section
-- Written by a program of this seat out of the translation. Not trusted: Lean checks it.
namespace Go.Proofs.Ytadafplbgophfaa.PA
open Go.RowKit Go.Proofs.YtadafplbgophfaaW.PrintWords Go.Proofs.YtadafplbgophfaaW.PrintLast Go.Proofs.YtadafplbgophfaaW.PrintMore
attribute [local go_sem] max2_int min2_int max_two min_two max_three min_three max_four min_four   -- for this text's walks alone
set_option linter.unusedVariables false
set_option linter.unusedSimpArgs false

/-! ### tripartiteref01_Number: function 88 -/
mutual
def tripartiteref01_Number.l0 : Nat → List (List ByteArray) → List ByteArray → List (List Int) → Int → Option ((List (List Int)))
  | 0, _, _, _, _ => none
  | k + 1, x0, x3, x4, x5 => if x5 < (x0.length : Int) then (tripartiteref01_Number.l1 k x0 x3 x4 x5 ([] : List Int) 0) else (some x4)
def tripartiteref01_Number.l1 : Nat → List (List ByteArray) → List ByteArray → List (List Int) → Int → List Int → Int → Option ((List (List Int)))
  | 0, _, _, _, _, _, _ => none
  | k + 1, x0, x3, x4, x5, x6, x7 => if 0 ≤ x5 then (if x5 < (x0.length : Int) then (if x7 < ((rd_L7 x0 x5).length : Int) then (tripartiteref01_Number.l2 k x0 x3 x4 x5 x6 x7 0) else (if x4.length < 5864062014805 then (tripartiteref01_Number.l0 k x0 x3 (x4 ++ [x6]) (wrap64 (x5 + 1))) else (none))) else (none)) else (none)
def tripartiteref01_Number.l2 : Nat → List (List ByteArray) → List ByteArray → List (List Int) → Int → List Int → Int → Int → Option ((List (List Int)))
  | 0, _, _, _, _, _, _, _ => none
  | k + 1, x0, x3, x4, x5, x6, x7, x8 => if x8 < (x3.length : Int) then (if 0 ≤ x8 then (if 0 ≤ x5 then (if x5 < (x0.length : Int) then (if 0 ≤ x7 then (if x7 < ((rd_L7 x0 x5).length : Int) then (if (rdOf ByteArray.empty x3 x8).toList = (rdOf ByteArray.empty (rd_L7 x0 x5) x7).toList then (if x8 = (x3.length : Int) then (if x3.length < 8796093022208 then (if x6.length < 17592186044416 then (tripartiteref01_Number.l1 k x0 (x3 ++ [rdOf ByteArray.empty (rd_L7 x0 x5) x7]) x4 x5 (x6 ++ [x8]) (wrap64 (x7 + 1))) else (none)) else (none)) else (if x6.length < 17592186044416 then (tripartiteref01_Number.l1 k x0 x3 x4 x5 (x6 ++ [x8]) (wrap64 (x7 + 1))) else (none))) else (tripartiteref01_Number.l2 k x0 x3 x4 x5 x6 x7 (wrap64 (x8 + 1)))) else (none)) else (none)) else (none)) else (none)) else (none)) else (if x8 = (x3.length : Int) then (if 0 ≤ x5 then (if x5 < (x0.length : Int) then (if 0 ≤ x7 then (if x7 < ((rd_L7 x0 x5).length : Int) then (if x3.length < 8796093022208 then (if x6.length < 17592186044416 then (tripartiteref01_Number.l1 k x0 (x3 ++ [rdOf ByteArray.empty (rd_L7 x0 x5) x7]) x4 x5 (x6 ++ [x8]) (wrap64 (x7 + 1))) else (none)) else (none)) else (none)) else (none)) else (none)) else (none)) else (if x6.length < 17592186044416 then (tripartiteref01_Number.l1 k x0 x3 x4 x5 (x6 ++ [x8]) (wrap64 (x7 + 1))) else (none)))
end
def tripartiteref01_Number.f (k : Nat) (l0 : List (List ByteArray)) : Option ((List (List Int))) := tripartiteref01_Number.l0 k l0 ([] : List ByteArray) ([] : List (List Int)) 0
theorem tripartiteref01_Number.mono_l : ∀ k, (∀ y0 y1 y2 y3, LeO (tripartiteref01_Number.l0 k y0 y1 y2 y3) (tripartiteref01_Number.l0 (k + 1) y0 y1 y2 y3)) ∧ (∀ y0 y1 y2 y3 y4 y5, LeO (tripartiteref01_Number.l1 k y0 y1 y2 y3 y4 y5) (tripartiteref01_Number.l1 (k + 1) y0 y1 y2 y3 y4 y5)) ∧ (∀ y0 y1 y2 y3 y4 y5 y6, LeO (tripartiteref01_Number.l2 k y0 y1 y2 y3 y4 y5 y6) (tripartiteref01_Number.l2 (k + 1) y0 y1 y2 y3 y4 y5 y6))
  | 0 => ⟨fun _ _ _ _ r h => by simp [tripartiteref01_Number.l0] at h, fun _ _ _ _ _ _ r h => by simp [tripartiteref01_Number.l1] at h, fun _ _ _ _ _ _ _ r h => by simp [tripartiteref01_Number.l2] at h⟩
  | k + 1 => by
    obtain ⟨ih0, ih1, ih2⟩ := tripartiteref01_Number.mono_l k
    refine ⟨?_, ?_, ?_⟩
    · intro y0 y1 y2 y3
      unfold tripartiteref01_Number.l0
      repeat' first
      | (with_reducible exact ih0 _ _ _ _)
      | (with_reducible exact ih1 _ _ _ _ _ _)
      | (with_reducible exact ih2 _ _ _ _ _ _ _)
      | (with_reducible exact LeO.refl _)
      | (with_reducible exact LeO.none _)
      | (with_reducible refine LeO.ite ?_ ?_)
      | (with_reducible refine LeO.bind ?_ (fun _ => ?_))
      | exact ih0 _ _ _ _
      | exact ih1 _ _ _ _ _ _
      | exact ih2 _ _ _ _ _ _ _
      | exact LeO.none _
      | refine LeO.ite ?_ ?_
      | refine LeO.bind ?_ (fun _ => ?_)
    · intro y0 y1 y2 y3 y4 y5
      unfold tripartiteref01_Number.l1
      repeat' first
      | (with_reducible exact ih0 _ _ _ _)
      | (with_reducible exact ih1 _ _ _ _ _ _)
      | (with_reducible exact ih2 _ _ _ _ _ _ _)
      | (with_reducible exact LeO.refl _)
      | (with_reducible exact LeO.none _)
      | (with_reducible refine LeO.ite ?_ ?_)
      | (with_reducible refine LeO.bind ?_ (fun _ => ?_))
      | exact ih0 _ _ _ _
      | exact ih1 _ _ _ _ _ _
      | exact ih2 _ _ _ _ _ _ _
      | exact LeO.none _
      | refine LeO.ite ?_ ?_
      | refine LeO.bind ?_ (fun _ => ?_)
    · intro y0 y1 y2 y3 y4 y5 y6
      unfold tripartiteref01_Number.l2
      repeat' first
      | (with_reducible exact ih0 _ _ _ _)
      | (with_reducible exact ih1 _ _ _ _ _ _)
      | (with_reducible exact ih2 _ _ _ _ _ _ _)
      | (with_reducible exact LeO.refl _)
      | (with_reducible exact LeO.none _)
      | (with_reducible refine LeO.ite ?_ ?_)
      | (with_reducible refine LeO.bind ?_ (fun _ => ?_))
      | exact ih0 _ _ _ _
      | exact ih1 _ _ _ _ _ _
      | exact ih2 _ _ _ _ _ _ _
      | exact LeO.none _
      | refine LeO.ite ?_ ?_
      | refine LeO.bind ?_ (fun _ => ?_)
theorem tripartiteref01_Number.mono : ∀ a0 k, LeO (tripartiteref01_Number.f k a0) (tripartiteref01_Number.f (k + 1) a0) := by
  intro a0 k
  obtain ⟨ih0, ih1, ih2⟩ := tripartiteref01_Number.mono_l k
  unfold tripartiteref01_Number.f
  repeat' first
      | (with_reducible exact ih0 _ _ _ _)
      | (with_reducible exact ih1 _ _ _ _ _ _)
      | (with_reducible exact ih2 _ _ _ _ _ _ _)
      | (with_reducible exact LeO.refl _)
      | (with_reducible exact LeO.none _)
      | (with_reducible refine LeO.ite ?_ ?_)
      | (with_reducible refine LeO.bind ?_ (fun _ => ?_))
      | exact ih0 _ _ _ _
      | exact ih1 _ _ _ _ _ _
      | exact ih2 _ _ _ _ _ _ _
      | exact LeO.none _
      | refine LeO.ite ?_ ?_
      | refine LeO.bind ?_ (fun _ => ?_)
set_option maxHeartbeats 8000000 in
set_option maxRecDepth 100000 in
theorem tripartiteref01_Number.calls (k : Nat) (A0 : Option Addr) (c0 : Nat) (l0 : List (List ByteArray)) (r : List (List Int)) (w : World) (hr0 : Kd.C (Kd.slice 9 Kd.string) w A0 l0.length l0) (hc0 : l0.length ≤ c0) (h : tripartiteref01_Number.f k l0 = some r) :
    Calls Try.prog 88 #[.slice A0 l0.length c0] w fun e w' => ∃ v0_ : Value, e = .returned (v0_) ∧ Kd.S (Kd.slice 3 (Kd.int .i64)) 22 w' w.heap.size (fun _ => True) v0_ r ∧ Below w.heap.size w w' := by
  have HR0 := Aside0.mk hr0
  have HC0 := Aside0.mk hc0
  clear hr0 hc0
  have HB := Aside0.mk (Below.refl w.heap.size w)
  have H : (tripartiteref01_Number.l0 k l0 ([] : List ByteArray) ([] : List (List Int)) 0) = some r := h
  clear h
  have H' := Aside0.mk H
  clear H
  go_enter Try.func88, Try.ntmps88
  go_wp2
  repeat (go_quiet (fail); try go_wp2)
  go_loopg [3, 4, 5] k (fun kq v3 v4 v5 w' => ∃ (x3_1 : List ByteArray) (x4_1 : List (List Int)) (x5_1 : Int), v5 = .int .i64 x5_1 ∧ Aside0 (tripartiteref01_Number.l0 kq l0 x3_1 x4_1 x5_1 = some r) ∧ Aside0 (kq ≤ k) ∧ Aside0 (Kd.R Kd.string 9 w' w.heap.size (fun _ => True) v3 x3_1) ∧ Aside0 (Kd.S (Kd.slice 3 (Kd.int .i64)) 22 w' w.heap.size (fun _ => True) v4 x4_1) ∧ Aside0 (Below w.heap.size w w'))
  case atStart => exact ⟨(([] : List ByteArray)), (([] : List (List Int))), (0), (by first | rfl | (simp; done) | (simp [*]; done)), H', ⟨Nat.le_refl _⟩, ⟨by first | exact Kd.R_nil _ _ _ _ _ | exact Kd.N_nil _ _ _ _ _ | exact Kd.V_nil _ _ _ _ _ | exact Kd.Q_nil _ _ _ _ _ | exact Kd.S_nil _ _ _ _ _⟩, ⟨by first | exact Kd.S_nil _ _ _ _ _ | exact Kd.N_nil _ _ _ _ _ | exact Kd.V_nil _ _ _ _ _ | exact Kd.Q_nil _ _ _ _ _ | exact Kd.R_nil _ _ _ _ _⟩, ⟨by repeat (first | (with_reducible first | exact HB.out | apply below_alloc | apply pw_below_drewN | apply below_drew1) | exact HB.out)⟩⟩
  case round =>
    clear H'
    obtain ⟨x3_1, x4_1, x5_1, rfl, HA, HK1, HO_3, HO_4, HB⟩ := hrel
    cases gk with
    | zero => exact absurd HA.out (by simp [tripartiteref01_Number.l0])
    | succ k1 =>
      have H := HA.out
      clear HA
      simp only [tripartiteref01_Number.l0] at H
      by_cases c2 : x5_1 < (l0.length : Int)
      · rw [if_pos c2] at H
        have c2b0 : decide (x5_1 < (l0.length : Int)) = true := decide_eq_true c2
        clear c2
        have H' := Aside0.mk H
        clear H
        go_wp2
        repeat (go_quiet (fail); try go_wp2)
        go_loopg [3, 6, 7] k1 (fun kq v3 v6 v7 w' => ∃ (x3_2 : List ByteArray) (x6_2 : List Int) (x7_2 : Int), v7 = .int .i64 x7_2 ∧ Aside0 (tripartiteref01_Number.l1 kq l0 x3_2 x4_1 x5_1 x6_2 x7_2 = some r) ∧ Aside0 (kq ≤ k1) ∧ Aside0 (Kd.R Kd.string 9 w' w.heap.size (fun _ => True) v3 x3_2) ∧ Aside0 (Kd.S (Kd.slice 3 (Kd.int .i64)) 22 w' w.heap.size (fun k_ => some k_ ≠ (v6 : Value).ownBlock) u4 x4_1) ∧ Aside0 (Kd.R (Kd.int .i64) 3 w' w.heap.size (fun _ => True) v6 x6_2) ∧ Aside0 (Below w.heap.size w w'))
        case atStart => exact ⟨(x3_1), (([] : List Int)), (0), (by first | rfl | (simp; done) | (simp [*]; done)), H', ⟨Nat.le_refl _⟩, ⟨by (with_reducible repeat (first | apply Kd.R_alloc | apply Kd.R_drewN | apply Kd.R_drew)); exact HO_3.out⟩, ⟨by (with_reducible repeat (first | apply Kd.S_alloc | apply Kd.S_drewN | apply Kd.S_drew)); exact Kd.S_mono HO_4.out (fun _ hk => (by simp [Value.ownBlock]))⟩, ⟨by first | exact Kd.R_nil _ _ _ _ _ | exact Kd.N_nil _ _ _ _ _ | exact Kd.V_nil _ _ _ _ _ | exact Kd.Q_nil _ _ _ _ _ | exact Kd.S_nil _ _ _ _ _⟩, ⟨by repeat (first | (with_reducible first | exact HB.out | apply below_alloc | apply pw_below_drewN | apply below_drew1) | exact HB.out)⟩⟩
        case round =>
          clear H'
          try clear c2
          try clear c2b0
          try clear p2
          obtain ⟨x3_2, x6_2, x7_2, rfl, HA, HK2, HO_3, HO_4, HO_6, HB⟩ := hrel
          cases gk with
          | zero => exact absurd HA.out (by simp [tripartiteref01_Number.l1])
          | succ k2 =>
            have H := HA.out
            clear HA
            simp only [tripartiteref01_Number.l1] at H
            by_cases c3 : 0 ≤ x5_1
            · rw [if_pos c3] at H
              have c3b0 : decide (0 ≤ x5_1) = true := decide_eq_true c3
              clear c3
              by_cases c4 : x5_1 < (l0.length : Int)
              · rw [if_pos c4] at H
                have c4b0 : decide (x5_1 < (l0.length : Int)) = true := decide_eq_true c4
                clear c4
                by_cases c5 : x7_2 < ((rd_L7 l0 x5_1).length : Int)
                · rw [if_pos c5] at H
                  have c5b0 : decide (x7_2 < ((rd_L7 l0 x5_1).length : Int)) = true := decide_eq_true c5
                  clear c5
                  have H' := Aside0.mk H
                  clear H
                  have p101 : 0 ≤ (x5_1 : Int) := of_decide_eq_true (by first | (with_reducible assumption) | assumption)
                  have q101 : x5_1 < (l0.length : Int) := of_decide_eq_true (by first | (with_reducible assumption) | assumption)
                  obtain ⟨ad101, A101_0, c101_0, e101, hx101_0, hl101_0, hi101_0⟩ := at_L7 HR0.out x5_1 p101 q101
                  cases e101
                  replace hx101_0 := (HB.out.cell (World.block_lt_of_cell? w _ hx101_0)).trans hx101_0
                  have HR101_0 := Aside0.mk hi101_0
                  have HC101_0 := Aside0.mk hl101_0
                  clear hi101_0 hl101_0
                  replace p101 := eq_true p101
                  replace q101 := eq_true q101
                  go_wp2
                  repeat (go_quiet (fail); try go_wp2)
                  go_loopg [8] k2 (fun kq v8 w' => ∃ (x8_3 : Int), v8 = .int .i64 x8_3 ∧ Aside0 (tripartiteref01_Number.l2 kq l0 x3_2 x4_1 x5_1 x6_2 x7_2 x8_3 = some r) ∧ Aside0 (kq ≤ k2) ∧ Aside0 (Kd.R Kd.string 9 w' w.heap.size (fun _ => True) u3 x3_2) ∧ Aside0 (Kd.S (Kd.slice 3 (Kd.int .i64)) 22 w' w.heap.size (fun k_ => some k_ ≠ (u6 : Value).ownBlock) u4 x4_1) ∧ Aside0 (Kd.R (Kd.int .i64) 3 w' w.heap.size (fun _ => True) u6 x6_2) ∧ Aside0 (Below w.heap.size w w'))
                  case atStart => exact ⟨(0), (by first | rfl | (simp; done) | (simp [*]; done)), H', ⟨Nat.le_refl _⟩, ⟨by (with_reducible repeat (first | apply Kd.R_alloc | apply Kd.R_drewN | apply Kd.R_drew)); exact HO_3.out⟩, ⟨by (with_reducible repeat (first | apply Kd.S_alloc | apply Kd.S_drewN | apply Kd.S_drew)); exact HO_4.out⟩, ⟨by (with_reducible repeat (first | apply Kd.R_alloc | apply Kd.R_drewN | apply Kd.R_drew)); exact HO_6.out⟩, ⟨by repeat (first | (with_reducible first | exact HB.out | apply below_alloc | apply pw_below_drewN | apply below_drew1) | exact HB.out)⟩⟩
                  case round =>
                    clear H'
                    try clear c1
                    try clear p1
                    try clear q1
                    try clear hx1
                    try clear c2
                    try clear c2b0
                    try clear p2
                    try clear c3
                    try clear c3b0
                    try clear c4
                    try clear c4b0
                    try clear c5
                    try clear c5b0
                    try clear hx101_0
                    try clear p101
                    try clear p2
                    try clear q101
                    obtain ⟨x8_3, rfl, HA, HK3, HO_3, HO_4, HO_6, HB⟩ := hrel
                    cases gk with
                    | zero => exact absurd HA.out (by simp [tripartiteref01_Number.l2])
                    | succ k3 =>
                      have H := HA.out
                      clear HA
                      simp only [tripartiteref01_Number.l2] at H
                      by_cases c6 : x8_3 < (x3_2.length : Int)
                      · rw [if_pos c6] at H
                        have c6b0 : decide (x8_3 < (x3_2.length : Int)) = true := decide_eq_true c6
                        clear c6
                        by_cases c7 : 0 ≤ x8_3
                        · rw [if_pos c7] at H
                          have c7b0 : decide (0 ≤ x8_3) = true := decide_eq_true c7
                          clear c7
                          by_cases c8 : 0 ≤ x5_1
                          · rw [if_pos c8] at H
                            have c8b0 : decide (0 ≤ x5_1) = true := decide_eq_true c8
                            clear c8
                            by_cases c9 : x5_1 < (l0.length : Int)
                            · rw [if_pos c9] at H
                              have c9b0 : decide (x5_1 < (l0.length : Int)) = true := decide_eq_true c9
                              clear c9
                              by_cases c10 : 0 ≤ x7_2
                              · rw [if_pos c10] at H
                                have c10b0 : decide (0 ≤ x7_2) = true := decide_eq_true c10
                                clear c10
                                by_cases c11 : x7_2 < ((rd_L7 l0 x5_1).length : Int)
                                · rw [if_pos c11] at H
                                  have c11b0 : decide (x7_2 < ((rd_L7 l0 x5_1).length : Int)) = true := decide_eq_true c11
                                  clear c11
                                  by_cases c12 : (rdOf ByteArray.empty x3_2 x8_3).toList = (rdOf ByteArray.empty (rd_L7 l0 x5_1) x7_2).toList
                                  · rw [if_pos c12] at H
                                    have c12b0 : ((rdOf ByteArray.empty x3_2 x8_3).toList == (rdOf ByteArray.empty (rd_L7 l0 x5_1) x7_2).toList) = true := beq_iff_eq.mpr c12
                                    have c12b1 : ((rdOf ByteArray.empty x3_2 x8_3).toList != (rdOf ByteArray.empty (rd_L7 l0 x5_1) x7_2).toList) = false := bne_eq_false_iff_eq.mpr c12
                                    clear c12
                                    by_cases c13 : x8_3 = (x3_2.length : Int)
                                    · rw [if_pos c13] at H
                                      have c13b0 : (x8_3 == (x3_2.length : Int)) = true := beq_iff_eq.mpr c13
                                      have c13b1 : (x8_3 != (x3_2.length : Int)) = false := bne_eq_false_iff_eq.mpr c13
                                      clear c13
                                      by_cases c14 : x3_2.length < 8796093022208
                                      · rw [if_pos c14] at H
                                        have LMc14 := Aside0.mk c14
                                        clear c14
                                        obtain ⟨y110, hy110⟩ : ∃ y_ : List ByteArray, y_ = (x3_2 ++ [rdOf ByteArray.empty (rd_L7 l0 x5_1) x7_2]) := ⟨_, rfl⟩
                                        replace H : (if x6_2.length < 17592186044416 then (tripartiteref01_Number.l1 k3 l0 y110 x4_1 x5_1 (x6_2 ++ [x8_3]) (wrap64 (x7_2 + 1))) else (none)) = some r := by first | (rw [hy110]; with_reducible exact H) | (have H2_ := (Option.bind_some _ _).symm.trans H; rw [hy110]; with_reducible exact H2_) | (have H2_ := (Option.bind_some _ _).symm.trans H; with_reducible exact H2_) | with_reducible exact H | (rw [hy110]; exact H) | exact H
                                        have Ny110 := Aside0.mk hy110
                                        clear hy110
                                        by_cases c15 : x6_2.length < 17592186044416
                                        · rw [if_pos c15] at H
                                          have LMc15 := Aside0.mk c15
                                          clear c15
                                          obtain ⟨y113, hy113⟩ : ∃ y_ : List Int, y_ = (x6_2 ++ [x8_3]) := ⟨_, rfl⟩
                                          replace H : (tripartiteref01_Number.l1 k3 l0 y110 x4_1 x5_1 y113 (wrap64 (x7_2 + 1))) = some r := by first | (rw [hy113]; with_reducible exact H) | (have H2_ := (Option.bind_some _ _).symm.trans H; rw [hy113]; with_reducible exact H2_) | (have H2_ := (Option.bind_some _ _).symm.trans H; with_reducible exact H2_) | with_reducible exact H | (rw [hy113]; exact H) | exact H
                                          have Ny113 := Aside0.mk hy113
                                          clear hy113
                                          have H' := Aside0.mk H
                                          clear H
                                          obtain ⟨Ao16, co16, eo16⟩ := Kd.R_slice HO_3.out
                                          subst eo16
                                          have p105 : 0 ≤ (x8_3 : Int) := of_decide_eq_true (by first | (with_reducible assumption) | assumption)
                                          have q105 : x8_3 < (x3_2.length : Int) := of_decide_eq_true (by first | (with_reducible assumption) | assumption)
                                          obtain ⟨ad105, e105, hx105_0⟩ := Kd.at_string (Kd.R_reads' HO_3.out).2.2 x8_3 p105 q105
                                          cases e105
                                          replace p105 := eq_true p105
                                          replace q105 := eq_true q105
                                          have p106 : 0 ≤ (x5_1 : Int) := of_decide_eq_true (by first | (with_reducible assumption) | assumption)
                                          have q106 : x5_1 < (l0.length : Int) := of_decide_eq_true (by first | (with_reducible assumption) | assumption)
                                          obtain ⟨ad106, A106_0, c106_0, e106, hx106_0, hl106_0, hi106_0⟩ := at_L7 HR0.out x5_1 p106 q106
                                          obtain rfl : ad101 = ad106 := (by injection e106)
                                          replace hx106_0 := (HB.out.cell (World.block_lt_of_cell? w _ hx106_0)).trans hx106_0
                                          have HR106_0 := Aside0.mk hi106_0
                                          have HC106_0 := Aside0.mk hl106_0
                                          clear hi106_0 hl106_0
                                          replace p106 := eq_true p106
                                          replace q106 := eq_true q106
                                          have p107 : 0 ≤ (x7_2 : Int) := of_decide_eq_true (by first | (with_reducible assumption) | assumption)
                                          have q107 : x7_2 < ((rd_L7 l0 x5_1).length : Int) := of_decide_eq_true (by first | (with_reducible assumption) | assumption)
                                          obtain ⟨ad107, e107, hx107_0⟩ := Kd.at_string HR106_0.out x7_2 p107 q107
                                          cases e107
                                          replace hx107_0 := (HB.out.cell (World.block_lt_of_cell? w _ hx107_0)).trans hx107_0
                                          replace p107 := eq_true p107
                                          replace q107 := eq_true q107
                                          have p108 : 0 ≤ (x5_1 : Int) := of_decide_eq_true (by first | (with_reducible assumption) | assumption)
                                          have q108 : x5_1 < (l0.length : Int) := of_decide_eq_true (by first | (with_reducible assumption) | assumption)
                                          obtain ⟨ad108, A108_0, c108_0, e108, hx108_0, hl108_0, hi108_0⟩ := at_L7 HR0.out x5_1 p108 q108
                                          obtain rfl : ad101 = ad108 := (by injection e108)
                                          replace hx108_0 := (HB.out.cell (World.block_lt_of_cell? w _ hx108_0)).trans hx108_0
                                          have HR108_0 := Aside0.mk hi108_0
                                          have HC108_0 := Aside0.mk hl108_0
                                          clear hi108_0 hl108_0
                                          replace p108 := eq_true p108
                                          replace q108 := eq_true q108
                                          have ea_ := Option.some.inj (hx106_0.symm.trans hx108_0)
                                          injection ea_ with ea_ en_ ec_
                                          subst ea_
                                          subst ec_
                                          clear en_
                                          have p109 : 0 ≤ (x7_2 : Int) := of_decide_eq_true (by first | (with_reducible assumption) | assumption)
                                          have q109 : x7_2 < ((rd_L7 l0 x5_1).length : Int) := of_decide_eq_true (by first | (with_reducible assumption) | assumption)
                                          obtain ⟨ad109, e109, hx109_0⟩ := Kd.at_string HR108_0.out x7_2 p109 q109
                                          cases e109
                                          replace hx109_0 := (HB.out.cell (World.block_lt_of_cell? w _ hx109_0)).trans hx109_0
                                          replace p109 := eq_true p109
                                          replace q109 := eq_true q109
                                          go_wp2_with (first | ((with_reducible refine gate_builtin (b := .append) (xs := #[.tmp 48, .tmp 56]) rfl ?_); at_builtin; refine Kd.R_append Kd.string (w0 := w) w.heap.size rfl (.tmp 48) (.tmp 56) 27 9 (.string ⟨#[]⟩) 16 rfl Try.underlying27 info9 rfl (by decide) (by omega) (.slice (some ad105) x3_2.length co16) x3_2 (rdOf ByteArray.empty (rd_L7 l0 x5_1) x7_2) [.string (rdOf ByteArray.empty (rd_L7 l0 x5_1) x7_2)] (fun _ => True) (fun _ => False) rfl rfl ?aP (fun _ hk => hk.elim) ?aF ?aO ?aB ?aS ?aL ?_; (case aP => exact rfl); (case aB => exact (by repeat (first | (with_reducible first | exact HB.out | apply below_alloc | apply pw_below_drewN | apply below_drew1) | exact HB.out))); (case aF => exact (fun _ _ => trivial)); (case aO => exact (by (with_reducible repeat (first | apply Kd.R_alloc | apply Kd.R_drewN | apply Kd.R_drew)); exact HO_3.out)); (case aS => exact (below_size (by repeat (first | (with_reducible first | exact HB.out | apply below_alloc | apply pw_below_drewN | apply below_drew1) | exact HB.out)))); (case aL => have := LMc14.out; omega); intro v111 w17 ho hb hg hat; rw [← Ny110.out] at ho; have n0_ := Aside0.mk (Kd.S_over' (by (with_reducible repeat (first | apply Kd.S_alloc | apply Kd.S_drewN | apply Kd.S_drew)); exact HO_4.out) (Kd.R_typed (by (with_reducible repeat (first | apply Kd.R_alloc | apply Kd.R_drewN | apply Kd.R_drew)); exact HO_3.out)) (by decide) hg); have n1_ := Aside0.mk (Kd.R_over' (by (with_reducible repeat (first | apply Kd.R_alloc | apply Kd.R_drewN | apply Kd.R_drew)); exact HO_6.out) (Kd.R_typed (by (with_reducible repeat (first | apply Kd.R_alloc | apply Kd.R_drewN | apply Kd.R_drew)); exact HO_3.out)) (by decide) hg); have n2_ := Aside0.mk (hb); have n3_ := Aside0.mk (ho); clear HO_4; clear HO_6; clear HB; clear HO_3; have HO_4 := n0_; have HO_6 := n1_; have HB := n2_; have HO112 := n3_; clear n0_ n1_ n2_ n3_; clear ho hb hg hat) | ((with_reducible refine gate_builtin (b := .append) (xs := #[.tmp 58, .tmp 60]) rfl ?_); at_builtin; refine Kd.R_append (Kd.int .i64) (w0 := w) w.heap.size rfl (.tmp 58) (.tmp 60) 22 3 (.int .i64 0) 8 rfl Try.underlying22 info3 rfl (by decide) (by omega) u6 x6_2 x8_3 [.int .i64 x8_3] (fun _ => True) (fun _ => False) rfl rfl ?aP (fun _ hk => hk.elim) ?aF ?aO ?aB ?aS ?aL ?_; (case aP => exact rfl); (case aB => exact (by repeat (first | (with_reducible first | exact HB.out | apply below_alloc | apply pw_below_drewN | apply below_drew1) | exact HB.out))); (case aF => exact (fun _ _ => trivial)); (case aO => exact (by (with_reducible repeat (first | apply Kd.R_alloc | apply Kd.R_drewN | apply Kd.R_drew)); exact HO_6.out)); (case aS => exact (below_size (by repeat (first | (with_reducible first | exact HB.out | apply below_alloc | apply pw_below_drewN | apply below_drew1) | exact HB.out)))); (case aL => have := LMc15.out; omega); intro v114 w18 ho hb hg hat; rw [← Ny113.out] at ho; have n0_ := Aside0.mk (Kd.S_after (ok := (fun _ => True)) (by (with_reducible repeat (first | apply Kd.S_alloc | apply Kd.S_drewN | apply Kd.S_drew)); exact Kd.S_mono HO_4.out (fun _ hk => ⟨trivial, hk⟩)) hg hat); have n1_ := Aside0.mk (Kd.R_over' (by (with_reducible repeat (first | apply Kd.R_alloc | apply Kd.R_drewN | apply Kd.R_drew)); exact HO112.out) (Kd.R_typed (by (with_reducible repeat (first | apply Kd.R_alloc | apply Kd.R_drewN | apply Kd.R_drew)); exact HO_6.out)) (by decide) hg); have n2_ := Aside0.mk (hb); have n3_ := Aside0.mk (ho); clear HO_4; clear HO112; clear HB; clear HO_6; have HO_4 := n0_; have HO112 := n1_; have HB := n2_; have HO115 := n3_; clear n0_ n1_ n2_ n3_; clear ho hb hg hat))
                                          repeat (go_quiet (first | ((with_reducible refine gate_builtin (b := .append) (xs := #[.tmp 48, .tmp 56]) rfl ?_); at_builtin; refine Kd.R_append Kd.string (w0 := w) w.heap.size rfl (.tmp 48) (.tmp 56) 27 9 (.string ⟨#[]⟩) 16 rfl Try.underlying27 info9 rfl (by decide) (by omega) (.slice (some ad105) x3_2.length co16) x3_2 (rdOf ByteArray.empty (rd_L7 l0 x5_1) x7_2) [.string (rdOf ByteArray.empty (rd_L7 l0 x5_1) x7_2)] (fun _ => True) (fun _ => False) rfl rfl ?aP (fun _ hk => hk.elim) ?aF ?aO ?aB ?aS ?aL ?_; (case aP => exact rfl); (case aB => exact (by repeat (first | (with_reducible first | exact HB.out | apply below_alloc | apply pw_below_drewN | apply below_drew1) | exact HB.out))); (case aF => exact (fun _ _ => trivial)); (case aO => exact (by (with_reducible repeat (first | apply Kd.R_alloc | apply Kd.R_drewN | apply Kd.R_drew)); exact HO_3.out)); (case aS => exact (below_size (by repeat (first | (with_reducible first | exact HB.out | apply below_alloc | apply pw_below_drewN | apply below_drew1) | exact HB.out)))); (case aL => have := LMc14.out; omega); intro v111 w17 ho hb hg hat; rw [← Ny110.out] at ho; have n0_ := Aside0.mk (Kd.S_over' (by (with_reducible repeat (first | apply Kd.S_alloc | apply Kd.S_drewN | apply Kd.S_drew)); exact HO_4.out) (Kd.R_typed (by (with_reducible repeat (first | apply Kd.R_alloc | apply Kd.R_drewN | apply Kd.R_drew)); exact HO_3.out)) (by decide) hg); have n1_ := Aside0.mk (Kd.R_over' (by (with_reducible repeat (first | apply Kd.R_alloc | apply Kd.R_drewN | apply Kd.R_drew)); exact HO_6.out) (Kd.R_typed (by (with_reducible repeat (first | apply Kd.R_alloc | apply Kd.R_drewN | apply Kd.R_drew)); exact HO_3.out)) (by decide) hg); have n2_ := Aside0.mk (hb); have n3_ := Aside0.mk (ho); clear HO_4; clear HO_6; clear HB; clear HO_3; have HO_4 := n0_; have HO_6 := n1_; have HB := n2_; have HO112 := n3_; clear n0_ n1_ n2_ n3_; clear ho hb hg hat) | ((with_reducible refine gate_builtin (b := .append) (xs := #[.tmp 58, .tmp 60]) rfl ?_); at_builtin; refine Kd.R_append (Kd.int .i64) (w0 := w) w.heap.size rfl (.tmp 58) (.tmp 60) 22 3 (.int .i64 0) 8 rfl Try.underlying22 info3 rfl (by decide) (by omega) u6 x6_2 x8_3 [.int .i64 x8_3] (fun _ => True) (fun _ => False) rfl rfl ?aP (fun _ hk => hk.elim) ?aF ?aO ?aB ?aS ?aL ?_; (case aP => exact rfl); (case aB => exact (by repeat (first | (with_reducible first | exact HB.out | apply below_alloc | apply pw_below_drewN | apply below_drew1) | exact HB.out))); (case aF => exact (fun _ _ => trivial)); (case aO => exact (by (with_reducible repeat (first | apply Kd.R_alloc | apply Kd.R_drewN | apply Kd.R_drew)); exact HO_6.out)); (case aS => exact (below_size (by repeat (first | (with_reducible first | exact HB.out | apply below_alloc | apply pw_below_drewN | apply below_drew1) | exact HB.out)))); (case aL => have := LMc15.out; omega); intro v114 w18 ho hb hg hat; rw [← Ny113.out] at ho; have n0_ := Aside0.mk (Kd.S_after (ok := (fun _ => True)) (by (with_reducible repeat (first | apply Kd.S_alloc | apply Kd.S_drewN | apply Kd.S_drew)); exact Kd.S_mono HO_4.out (fun _ hk => ⟨trivial, hk⟩)) hg hat); have n1_ := Aside0.mk (Kd.R_over' (by (with_reducible repeat (first | apply Kd.R_alloc | apply Kd.R_drewN | apply Kd.R_drew)); exact HO112.out) (Kd.R_typed (by (with_reducible repeat (first | apply Kd.R_alloc | apply Kd.R_drewN | apply Kd.R_drew)); exact HO_6.out)) (by decide) hg); have n2_ := Aside0.mk (hb); have n3_ := Aside0.mk (ho); clear HO_4; clear HO112; clear HB; clear HO_6; have HO_4 := n0_; have HO112 := n1_; have HB := n2_; have HO115 := n3_; clear n0_ n1_ n2_ n3_; clear ho hb hg hat)); try go_wp2_with (first | ((with_reducible refine gate_builtin (b := .append) (xs := #[.tmp 48, .tmp 56]) rfl ?_); at_builtin; refine Kd.R_append Kd.string (w0 := w) w.heap.size rfl (.tmp 48) (.tmp 56) 27 9 (.string ⟨#[]⟩) 16 rfl Try.underlying27 info9 rfl (by decide) (by omega) (.slice (some ad105) x3_2.length co16) x3_2 (rdOf ByteArray.empty (rd_L7 l0 x5_1) x7_2) [.string (rdOf ByteArray.empty (rd_L7 l0 x5_1) x7_2)] (fun _ => True) (fun _ => False) rfl rfl ?aP (fun _ hk => hk.elim) ?aF ?aO ?aB ?aS ?aL ?_; (case aP => exact rfl); (case aB => exact (by repeat (first | (with_reducible first | exact HB.out | apply below_alloc | apply pw_below_drewN | apply below_drew1) | exact HB.out))); (case aF => exact (fun _ _ => trivial)); (case aO => exact (by (with_reducible repeat (first | apply Kd.R_alloc | apply Kd.R_drewN | apply Kd.R_drew)); exact HO_3.out)); (case aS => exact (below_size (by repeat (first | (with_reducible first | exact HB.out | apply below_alloc | apply pw_below_drewN | apply below_drew1) | exact HB.out)))); (case aL => have := LMc14.out; omega); intro v111 w17 ho hb hg hat; rw [← Ny110.out] at ho; have n0_ := Aside0.mk (Kd.S_over' (by (with_reducible repeat (first | apply Kd.S_alloc | apply Kd.S_drewN | apply Kd.S_drew)); exact HO_4.out) (Kd.R_typed (by (with_reducible repeat (first | apply Kd.R_alloc | apply Kd.R_drewN | apply Kd.R_drew)); exact HO_3.out)) (by decide) hg); have n1_ := Aside0.mk (Kd.R_over' (by (with_reducible repeat (first | apply Kd.R_alloc | apply Kd.R_drewN | apply Kd.R_drew)); exact HO_6.out) (Kd.R_typed (by (with_reducible repeat (first | apply Kd.R_alloc | apply Kd.R_drewN | apply Kd.R_drew)); exact HO_3.out)) (by decide) hg); have n2_ := Aside0.mk (hb); have n3_ := Aside0.mk (ho); clear HO_4; clear HO_6; clear HB; clear HO_3; have HO_4 := n0_; have HO_6 := n1_; have HB := n2_; have HO112 := n3_; clear n0_ n1_ n2_ n3_; clear ho hb hg hat) | ((with_reducible refine gate_builtin (b := .append) (xs := #[.tmp 58, .tmp 60]) rfl ?_); at_builtin; refine Kd.R_append (Kd.int .i64) (w0 := w) w.heap.size rfl (.tmp 58) (.tmp 60) 22 3 (.int .i64 0) 8 rfl Try.underlying22 info3 rfl (by decide) (by omega) u6 x6_2 x8_3 [.int .i64 x8_3] (fun _ => True) (fun _ => False) rfl rfl ?aP (fun _ hk => hk.elim) ?aF ?aO ?aB ?aS ?aL ?_; (case aP => exact rfl); (case aB => exact (by repeat (first | (with_reducible first | exact HB.out | apply below_alloc | apply pw_below_drewN | apply below_drew1) | exact HB.out))); (case aF => exact (fun _ _ => trivial)); (case aO => exact (by (with_reducible repeat (first | apply Kd.R_alloc | apply Kd.R_drewN | apply Kd.R_drew)); exact HO_6.out)); (case aS => exact (below_size (by repeat (first | (with_reducible first | exact HB.out | apply below_alloc | apply pw_below_drewN | apply below_drew1) | exact HB.out)))); (case aL => have := LMc15.out; omega); intro v114 w18 ho hb hg hat; rw [← Ny113.out] at ho; have n0_ := Aside0.mk (Kd.S_after (ok := (fun _ => True)) (by (with_reducible repeat (first | apply Kd.S_alloc | apply Kd.S_drewN | apply Kd.S_drew)); exact Kd.S_mono HO_4.out (fun _ hk => ⟨trivial, hk⟩)) hg hat); have n1_ := Aside0.mk (Kd.R_over' (by (with_reducible repeat (first | apply Kd.R_alloc | apply Kd.R_drewN | apply Kd.R_drew)); exact HO112.out) (Kd.R_typed (by (with_reducible repeat (first | apply Kd.R_alloc | apply Kd.R_drewN | apply Kd.R_drew)); exact HO_6.out)) (by decide) hg); have n2_ := Aside0.mk (hb); have n3_ := Aside0.mk (ho); clear HO_4; clear HO112; clear HB; clear HO_6; have HO_4 := n0_; have HO112 := n1_; have HB := n2_; have HO115 := n3_; clear n0_ n1_ n2_ n3_; clear ho hb hg hat)))
                                          go_roundg k3
                                          case measure => have := HK1.out; have := HK2.out; have := HK3.out; omega
                                          case rel => exact ⟨(y110), (y113), (wrap64 (x7_2 + 1)), (by first | rfl | (simp; done) | (simp [*]; done)), H', ⟨by have := HK1.out; have := HK2.out; have := HK3.out; omega⟩, ⟨by (with_reducible repeat (first | apply Kd.R_alloc | apply Kd.R_drewN | apply Kd.R_drew)); exact HO112.out⟩, ⟨by (with_reducible repeat (first | apply Kd.S_alloc | apply Kd.S_drewN | apply Kd.S_drew)); exact Kd.S_mono HO_4.out (fun _ hk => hk.2)⟩, ⟨by (with_reducible repeat (first | apply Kd.R_alloc | apply Kd.R_drewN | apply Kd.R_drew)); exact HO115.out⟩, ⟨by repeat (first | (with_reducible first | exact HB.out | apply below_alloc | apply pw_below_drewN | apply below_drew1) | exact HB.out)⟩⟩
                                        · rw [if_neg c15] at H
                                          exact absurd H (by simp)
                                      · rw [if_neg c14] at H
                                        exact absurd H (by simp)
                                    · rw [if_neg c13] at H
                                      have c13b0 : (x8_3 == (x3_2.length : Int)) = false := beq_eq_false_iff_ne.mpr c13
                                      have c13b1 : (x8_3 != (x3_2.length : Int)) = true := bne_iff_ne.mpr c13
                                      by_cases c19 : x6_2.length < 17592186044416
                                      · rw [if_pos c19] at H
                                        have LMc19 := Aside0.mk c19
                                        clear c19
                                        obtain ⟨y116, hy116⟩ : ∃ y_ : List Int, y_ = (x6_2 ++ [x8_3]) := ⟨_, rfl⟩
                                        replace H : (tripartiteref01_Number.l1 k3 l0 x3_2 x4_1 x5_1 y116 (wrap64 (x7_2 + 1))) = some r := by first | (rw [hy116]; with_reducible exact H) | (have H2_ := (Option.bind_some _ _).symm.trans H; rw [hy116]; with_reducible exact H2_) | (have H2_ := (Option.bind_some _ _).symm.trans H; with_reducible exact H2_) | with_reducible exact H | (rw [hy116]; exact H) | exact H
                                        have Ny116 := Aside0.mk hy116
                                        clear hy116
                                        have H' := Aside0.mk H
                                        clear H
                                        obtain ⟨Ao20, co20, eo20⟩ := Kd.R_slice HO_3.out
                                        subst eo20
                                        have p105 : 0 ≤ (x8_3 : Int) := of_decide_eq_true (by first | (with_reducible assumption) | assumption)
                                        have q105 : x8_3 < (x3_2.length : Int) := of_decide_eq_true (by first | (with_reducible assumption) | assumption)
                                        obtain ⟨ad105, e105, hx105_0⟩ := Kd.at_string (Kd.R_reads' HO_3.out).2.2 x8_3 p105 q105
                                        cases e105
                                        replace p105 := eq_true p105
                                        replace q105 := eq_true q105
                                        have p106 : 0 ≤ (x5_1 : Int) := of_decide_eq_true (by first | (with_reducible assumption) | assumption)
                                        have q106 : x5_1 < (l0.length : Int) := of_decide_eq_true (by first | (with_reducible assumption) | assumption)
                                        obtain ⟨ad106, A106_0, c106_0, e106, hx106_0, hl106_0, hi106_0⟩ := at_L7 HR0.out x5_1 p106 q106
                                        obtain rfl : ad101 = ad106 := (by injection e106)
                                        replace hx106_0 := (HB.out.cell (World.block_lt_of_cell? w _ hx106_0)).trans hx106_0
                                        have HR106_0 := Aside0.mk hi106_0
                                        have HC106_0 := Aside0.mk hl106_0
                                        clear hi106_0 hl106_0
                                        replace p106 := eq_true p106
                                        replace q106 := eq_true q106
                                        have p107 : 0 ≤ (x7_2 : Int) := of_decide_eq_true (by first | (with_reducible assumption) | assumption)
                                        have q107 : x7_2 < ((rd_L7 l0 x5_1).length : Int) := of_decide_eq_true (by first | (with_reducible assumption) | assumption)
                                        obtain ⟨ad107, e107, hx107_0⟩ := Kd.at_string HR106_0.out x7_2 p107 q107
                                        cases e107
                                        replace hx107_0 := (HB.out.cell (World.block_lt_of_cell? w _ hx107_0)).trans hx107_0
                                        replace p107 := eq_true p107
                                        replace q107 := eq_true q107
                                        go_wp2_with (first | ((with_reducible refine gate_builtin (b := .append) (xs := #[.tmp 58, .tmp 60]) rfl ?_); at_builtin; refine Kd.R_append (Kd.int .i64) (w0 := w) w.heap.size rfl (.tmp 58) (.tmp 60) 22 3 (.int .i64 0) 8 rfl Try.underlying22 info3 rfl (by decide) (by omega) u6 x6_2 x8_3 [.int .i64 x8_3] (fun _ => True) (fun _ => False) rfl rfl ?aP (fun _ hk => hk.elim) ?aF ?aO ?aB ?aS ?aL ?_; (case aP => exact rfl); (case aB => exact (by repeat (first | (with_reducible first | exact HB.out | apply below_alloc | apply pw_below_drewN | apply below_drew1) | exact HB.out))); (case aF => exact (fun _ _ => trivial)); (case aO => exact (by (with_reducible repeat (first | apply Kd.R_alloc | apply Kd.R_drewN | apply Kd.R_drew)); exact HO_6.out)); (case aS => exact (below_size (by repeat (first | (with_reducible first | exact HB.out | apply below_alloc | apply pw_below_drewN | apply below_drew1) | exact HB.out)))); (case aL => have := LMc19.out; omega); intro v117 w21 ho hb hg hat; rw [← Ny116.out] at ho; have n0_ := Aside0.mk (Kd.R_over' (by (with_reducible repeat (first | apply Kd.R_alloc | apply Kd.R_drewN | apply Kd.R_drew)); exact HO_3.out) (Kd.R_typed (by (with_reducible repeat (first | apply Kd.R_alloc | apply Kd.R_drewN | apply Kd.R_drew)); exact HO_6.out)) (by decide) hg); have n1_ := Aside0.mk (Kd.S_after (ok := (fun _ => True)) (by (with_reducible repeat (first | apply Kd.S_alloc | apply Kd.S_drewN | apply Kd.S_drew)); exact Kd.S_mono HO_4.out (fun _ hk => ⟨trivial, hk⟩)) hg hat); have n2_ := Aside0.mk (hb); have n3_ := Aside0.mk (ho); clear HO_3; clear HO_4; clear HB; clear HO_6; have HO_3 := n0_; have HO_4 := n1_; have HB := n2_; have HO118 := n3_; clear n0_ n1_ n2_ n3_; clear ho hb hg hat))
                                        repeat (go_quiet (first | ((with_reducible refine gate_builtin (b := .append) (xs := #[.tmp 58, .tmp 60]) rfl ?_); at_builtin; refine Kd.R_append (Kd.int .i64) (w0 := w) w.heap.size rfl (.tmp 58) (.tmp 60) 22 3 (.int .i64 0) 8 rfl Try.underlying22 info3 rfl (by decide) (by omega) u6 x6_2 x8_3 [.int .i64 x8_3] (fun _ => True) (fun _ => False) rfl rfl ?aP (fun _ hk => hk.elim) ?aF ?aO ?aB ?aS ?aL ?_; (case aP => exact rfl); (case aB => exact (by repeat (first | (with_reducible first | exact HB.out | apply below_alloc | apply pw_below_drewN | apply below_drew1) | exact HB.out))); (case aF => exact (fun _ _ => trivial)); (case aO => exact (by (with_reducible repeat (first | apply Kd.R_alloc | apply Kd.R_drewN | apply Kd.R_drew)); exact HO_6.out)); (case aS => exact (below_size (by repeat (first | (with_reducible first | exact HB.out | apply below_alloc | apply pw_below_drewN | apply below_drew1) | exact HB.out)))); (case aL => have := LMc19.out; omega); intro v117 w21 ho hb hg hat; rw [← Ny116.out] at ho; have n0_ := Aside0.mk (Kd.R_over' (by (with_reducible repeat (first | apply Kd.R_alloc | apply Kd.R_drewN | apply Kd.R_drew)); exact HO_3.out) (Kd.R_typed (by (with_reducible repeat (first | apply Kd.R_alloc | apply Kd.R_drewN | apply Kd.R_drew)); exact HO_6.out)) (by decide) hg); have n1_ := Aside0.mk (Kd.S_after (ok := (fun _ => True)) (by (with_reducible repeat (first | apply Kd.S_alloc | apply Kd.S_drewN | apply Kd.S_drew)); exact Kd.S_mono HO_4.out (fun _ hk => ⟨trivial, hk⟩)) hg hat); have n2_ := Aside0.mk (hb); have n3_ := Aside0.mk (ho); clear HO_3; clear HO_4; clear HB; clear HO_6; have HO_3 := n0_; have HO_4 := n1_; have HB := n2_; have HO118 := n3_; clear n0_ n1_ n2_ n3_; clear ho hb hg hat)); try go_wp2_with (first | ((with_reducible refine gate_builtin (b := .append) (xs := #[.tmp 58, .tmp 60]) rfl ?_); at_builtin; refine Kd.R_append (Kd.int .i64) (w0 := w) w.heap.size rfl (.tmp 58) (.tmp 60) 22 3 (.int .i64 0) 8 rfl Try.underlying22 info3 rfl (by decide) (by omega) u6 x6_2 x8_3 [.int .i64 x8_3] (fun _ => True) (fun _ => False) rfl rfl ?aP (fun _ hk => hk.elim) ?aF ?aO ?aB ?aS ?aL ?_; (case aP => exact rfl); (case aB => exact (by repeat (first | (with_reducible first | exact HB.out | apply below_alloc | apply pw_below_drewN | apply below_drew1) | exact HB.out))); (case aF => exact (fun _ _ => trivial)); (case aO => exact (by (with_reducible repeat (first | apply Kd.R_alloc | apply Kd.R_drewN | apply Kd.R_drew)); exact HO_6.out)); (case aS => exact (below_size (by repeat (first | (with_reducible first | exact HB.out | apply below_alloc | apply pw_below_drewN | apply below_drew1) | exact HB.out)))); (case aL => have := LMc19.out; omega); intro v117 w21 ho hb hg hat; rw [← Ny116.out] at ho; have n0_ := Aside0.mk (Kd.R_over' (by (with_reducible repeat (first | apply Kd.R_alloc | apply Kd.R_drewN | apply Kd.R_drew)); exact HO_3.out) (Kd.R_typed (by (with_reducible repeat (first | apply Kd.R_alloc | apply Kd.R_drewN | apply Kd.R_drew)); exact HO_6.out)) (by decide) hg); have n1_ := Aside0.mk (Kd.S_after (ok := (fun _ => True)) (by (with_reducible repeat (first | apply Kd.S_alloc | apply Kd.S_drewN | apply Kd.S_drew)); exact Kd.S_mono HO_4.out (fun _ hk => ⟨trivial, hk⟩)) hg hat); have n2_ := Aside0.mk (hb); have n3_ := Aside0.mk (ho); clear HO_3; clear HO_4; clear HB; clear HO_6; have HO_3 := n0_; have HO_4 := n1_; have HB := n2_; have HO118 := n3_; clear n0_ n1_ n2_ n3_; clear ho hb hg hat)))
                                        go_roundg k3
                                        case measure => have := HK1.out; have := HK2.out; have := HK3.out; omega
                                        case rel => exact ⟨(x3_2), (y116), (wrap64 (x7_2 + 1)), (by first | rfl | (simp; done) | (simp [*]; done)), H', ⟨by have := HK1.out; have := HK2.out; have := HK3.out; omega⟩, ⟨by (with_reducible repeat (first | apply Kd.R_alloc | apply Kd.R_drewN | apply Kd.R_drew)); exact HO_3.out⟩, ⟨by (with_reducible repeat (first | apply Kd.S_alloc | apply Kd.S_drewN | apply Kd.S_drew)); exact Kd.S_mono HO_4.out (fun _ hk => hk.2)⟩, ⟨by (with_reducible repeat (first | apply Kd.R_alloc | apply Kd.R_drewN | apply Kd.R_drew)); exact HO118.out⟩, ⟨by repeat (first | (with_reducible first | exact HB.out | apply below_alloc | apply pw_below_drewN | apply below_drew1) | exact HB.out)⟩⟩
                                      · rw [if_neg c19] at H
                                        exact absurd H (by simp)
                                  · rw [if_neg c12] at H
                                    have c12b0 : ((rdOf ByteArray.empty x3_2 x8_3).toList == (rdOf ByteArray.empty (rd_L7 l0 x5_1) x7_2).toList) = false := beq_eq_false_iff_ne.mpr c12
                                    have c12b1 : ((rdOf ByteArray.empty x3_2 x8_3).toList != (rdOf ByteArray.empty (rd_L7 l0 x5_1) x7_2).toList) = true := bne_iff_ne.mpr c12
                                    have H' := Aside0.mk H
                                    clear H
                                    obtain ⟨Ao22, co22, eo22⟩ := Kd.R_slice HO_3.out
                                    subst eo22
                                    have p105 : 0 ≤ (x8_3 : Int) := of_decide_eq_true (by first | (with_reducible assumption) | assumption)
                                    have q105 : x8_3 < (x3_2.length : Int) := of_decide_eq_true (by first | (with_reducible assumption) | assumption)
                                    obtain ⟨ad105, e105, hx105_0⟩ := Kd.at_string (Kd.R_reads' HO_3.out).2.2 x8_3 p105 q105
                                    cases e105
                                    replace p105 := eq_true p105
                                    replace q105 := eq_true q105
                                    have p106 : 0 ≤ (x5_1 : Int) := of_decide_eq_true (by first | (with_reducible assumption) | assumption)
                                    have q106 : x5_1 < (l0.length : Int) := of_decide_eq_true (by first | (with_reducible assumption) | assumption)
                                    obtain ⟨ad106, A106_0, c106_0, e106, hx106_0, hl106_0, hi106_0⟩ := at_L7 HR0.out x5_1 p106 q106
                                    obtain rfl : ad101 = ad106 := (by injection e106)
                                    replace hx106_0 := (HB.out.cell (World.block_lt_of_cell? w _ hx106_0)).trans hx106_0
                                    have HR106_0 := Aside0.mk hi106_0
                                    have HC106_0 := Aside0.mk hl106_0
                                    clear hi106_0 hl106_0
                                    replace p106 := eq_true p106
                                    replace q106 := eq_true q106
                                    have p107 : 0 ≤ (x7_2 : Int) := of_decide_eq_true (by first | (with_reducible assumption) | assumption)
                                    have q107 : x7_2 < ((rd_L7 l0 x5_1).length : Int) := of_decide_eq_true (by first | (with_reducible assumption) | assumption)
                                    obtain ⟨ad107, e107, hx107_0⟩ := Kd.at_string HR106_0.out x7_2 p107 q107
                                    cases e107
                                    replace hx107_0 := (HB.out.cell (World.block_lt_of_cell? w _ hx107_0)).trans hx107_0
                                    replace p107 := eq_true p107
                                    replace q107 := eq_true q107
                                    go_wp2
                                    repeat (go_quiet (fail); try go_wp2)
                                    go_roundg k3
                                    case measure => have := HK1.out; have := HK2.out; have := HK3.out; omega
                                    case rel => exact ⟨(wrap64 (x8_3 + 1)), (by first | rfl | (simp; done) | (simp [*]; done)), H', ⟨by have := HK1.out; have := HK2.out; have := HK3.out; omega⟩, ⟨by (with_reducible repeat (first | apply Kd.R_alloc | apply Kd.R_drewN | apply Kd.R_drew)); exact HO_3.out⟩, ⟨by (with_reducible repeat (first | apply Kd.S_alloc | apply Kd.S_drewN | apply Kd.S_drew)); exact HO_4.out⟩, ⟨by (with_reducible repeat (first | apply Kd.R_alloc | apply Kd.R_drewN | apply Kd.R_drew)); exact HO_6.out⟩, ⟨by repeat (first | (with_reducible first | exact HB.out | apply below_alloc | apply pw_below_drewN | apply below_drew1) | exact HB.out)⟩⟩
                                · rw [if_neg c11] at H
                                  exact absurd H (by simp)
                              · rw [if_neg c10] at H
                                exact absurd H (by simp)
                            · rw [if_neg c9] at H
                              exact absurd H (by simp)
                          · rw [if_neg c8] at H
                            exact absurd H (by simp)
                        · rw [if_neg c7] at H
                          exact absurd H (by simp)
                      · rw [if_neg c6] at H
                        have c6b0 : decide (x8_3 < (x3_2.length : Int)) = false := decide_eq_false c6
                        clear c6
                        by_cases c23 : x8_3 = (x3_2.length : Int)
                        · rw [if_pos c23] at H
                          have c23b0 : (x8_3 == (x3_2.length : Int)) = true := beq_iff_eq.mpr c23
                          have c23b1 : (x8_3 != (x3_2.length : Int)) = false := bne_eq_false_iff_eq.mpr c23
                          clear c23
                          by_cases c24 : 0 ≤ x5_1
                          · rw [if_pos c24] at H
                            have c24b0 : decide (0 ≤ x5_1) = true := decide_eq_true c24
                            clear c24
                            by_cases c25 : x5_1 < (l0.length : Int)
                            · rw [if_pos c25] at H
                              have c25b0 : decide (x5_1 < (l0.length : Int)) = true := decide_eq_true c25
                              clear c25
                              by_cases c26 : 0 ≤ x7_2
                              · rw [if_pos c26] at H
                                have c26b0 : decide (0 ≤ x7_2) = true := decide_eq_true c26
                                clear c26
                                by_cases c27 : x7_2 < ((rd_L7 l0 x5_1).length : Int)
                                · rw [if_pos c27] at H
                                  have c27b0 : decide (x7_2 < ((rd_L7 l0 x5_1).length : Int)) = true := decide_eq_true c27
                                  clear c27
                                  by_cases c28 : x3_2.length < 8796093022208
                                  · rw [if_pos c28] at H
                                    have LMc28 := Aside0.mk c28
                                    clear c28
                                    obtain ⟨y121, hy121⟩ : ∃ y_ : List ByteArray, y_ = (x3_2 ++ [rdOf ByteArray.empty (rd_L7 l0 x5_1) x7_2]) := ⟨_, rfl⟩
                                    replace H : (if x6_2.length < 17592186044416 then (tripartiteref01_Number.l1 k3 l0 y121 x4_1 x5_1 (x6_2 ++ [x8_3]) (wrap64 (x7_2 + 1))) else (none)) = some r := by first | (rw [hy121]; with_reducible exact H) | (have H2_ := (Option.bind_some _ _).symm.trans H; rw [hy121]; with_reducible exact H2_) | (have H2_ := (Option.bind_some _ _).symm.trans H; with_reducible exact H2_) | with_reducible exact H | (rw [hy121]; exact H) | exact H
                                    have Ny121 := Aside0.mk hy121
                                    clear hy121
                                    by_cases c29 : x6_2.length < 17592186044416
                                    · rw [if_pos c29] at H
                                      have LMc29 := Aside0.mk c29
                                      clear c29
                                      obtain ⟨y124, hy124⟩ : ∃ y_ : List Int, y_ = (x6_2 ++ [x8_3]) := ⟨_, rfl⟩
                                      replace H : (tripartiteref01_Number.l1 k3 l0 y121 x4_1 x5_1 y124 (wrap64 (x7_2 + 1))) = some r := by first | (rw [hy124]; with_reducible exact H) | (have H2_ := (Option.bind_some _ _).symm.trans H; rw [hy124]; with_reducible exact H2_) | (have H2_ := (Option.bind_some _ _).symm.trans H; with_reducible exact H2_) | with_reducible exact H | (rw [hy124]; exact H) | exact H
                                      have Ny124 := Aside0.mk hy124
                                      clear hy124
                                      have H' := Aside0.mk H
                                      clear H
                                      obtain ⟨Ao30, co30, eo30⟩ := Kd.R_slice HO_3.out
                                      subst eo30
                                      have p119 : 0 ≤ (x5_1 : Int) := of_decide_eq_true (by first | (with_reducible assumption) | assumption)
                                      have q119 : x5_1 < (l0.length : Int) := of_decide_eq_true (by first | (with_reducible assumption) | assumption)
                                      obtain ⟨ad119, A119_0, c119_0, e119, hx119_0, hl119_0, hi119_0⟩ := at_L7 HR0.out x5_1 p119 q119
                                      obtain rfl : ad101 = ad119 := (by injection e119)
                                      replace hx119_0 := (HB.out.cell (World.block_lt_of_cell? w _ hx119_0)).trans hx119_0
                                      have HR119_0 := Aside0.mk hi119_0
                                      have HC119_0 := Aside0.mk hl119_0
                                      clear hi119_0 hl119_0
                                      replace p119 := eq_true p119
                                      replace q119 := eq_true q119
                                      have p120 : 0 ≤ (x7_2 : Int) := of_decide_eq_true (by first | (with_reducible assumption) | assumption)
                                      have q120 : x7_2 < ((rd_L7 l0 x5_1).length : Int) := of_decide_eq_true (by first | (with_reducible assumption) | assumption)
                                      obtain ⟨ad120, e120, hx120_0⟩ := Kd.at_string HR119_0.out x7_2 p120 q120
                                      cases e120
                                      replace hx120_0 := (HB.out.cell (World.block_lt_of_cell? w _ hx120_0)).trans hx120_0
                                      replace p120 := eq_true p120
                                      replace q120 := eq_true q120
                                      go_wp2_with (first | ((with_reducible refine gate_builtin (b := .append) (xs := #[.tmp 48, .tmp 56]) rfl ?_); at_builtin; refine Kd.R_append Kd.string (w0 := w) w.heap.size rfl (.tmp 48) (.tmp 56) 27 9 (.string ⟨#[]⟩) 16 rfl Try.underlying27 info9 rfl (by decide) (by omega) (.slice Ao30 x3_2.length co30) x3_2 (rdOf ByteArray.empty (rd_L7 l0 x5_1) x7_2) [.string (rdOf ByteArray.empty (rd_L7 l0 x5_1) x7_2)] (fun _ => True) (fun _ => False) rfl rfl ?aP (fun _ hk => hk.elim) ?aF ?aO ?aB ?aS ?aL ?_; (case aP => exact rfl); (case aB => exact (by repeat (first | (with_reducible first | exact HB.out | apply below_alloc | apply pw_below_drewN | apply below_drew1) | exact HB.out))); (case aF => exact (fun _ _ => trivial)); (case aO => exact (by (with_reducible repeat (first | apply Kd.R_alloc | apply Kd.R_drewN | apply Kd.R_drew)); exact HO_3.out)); (case aS => exact (below_size (by repeat (first | (with_reducible first | exact HB.out | apply below_alloc | apply pw_below_drewN | apply below_drew1) | exact HB.out)))); (case aL => have := LMc28.out; omega); intro v122 w31 ho hb hg hat; rw [← Ny121.out] at ho; have n0_ := Aside0.mk (Kd.S_over' (by (with_reducible repeat (first | apply Kd.S_alloc | apply Kd.S_drewN | apply Kd.S_drew)); exact HO_4.out) (Kd.R_typed (by (with_reducible repeat (first | apply Kd.R_alloc | apply Kd.R_drewN | apply Kd.R_drew)); exact HO_3.out)) (by decide) hg); have n1_ := Aside0.mk (Kd.R_over' (by (with_reducible repeat (first | apply Kd.R_alloc | apply Kd.R_drewN | apply Kd.R_drew)); exact HO_6.out) (Kd.R_typed (by (with_reducible repeat (first | apply Kd.R_alloc | apply Kd.R_drewN | apply Kd.R_drew)); exact HO_3.out)) (by decide) hg); have n2_ := Aside0.mk (hb); have n3_ := Aside0.mk (ho); clear HO_4; clear HO_6; clear HB; clear HO_3; have HO_4 := n0_; have HO_6 := n1_; have HB := n2_; have HO123 := n3_; clear n0_ n1_ n2_ n3_; clear ho hb hg hat) | ((with_reducible refine gate_builtin (b := .append) (xs := #[.tmp 58, .tmp 60]) rfl ?_); at_builtin; refine Kd.R_append (Kd.int .i64) (w0 := w) w.heap.size rfl (.tmp 58) (.tmp 60) 22 3 (.int .i64 0) 8 rfl Try.underlying22 info3 rfl (by decide) (by omega) u6 x6_2 x8_3 [.int .i64 x8_3] (fun _ => True) (fun _ => False) rfl rfl ?aP (fun _ hk => hk.elim) ?aF ?aO ?aB ?aS ?aL ?_; (case aP => exact rfl); (case aB => exact (by repeat (first | (with_reducible first | exact HB.out | apply below_alloc | apply pw_below_drewN | apply below_drew1) | exact HB.out))); (case aF => exact (fun _ _ => trivial)); (case aO => exact (by (with_reducible repeat (first | apply Kd.R_alloc | apply Kd.R_drewN | apply Kd.R_drew)); exact HO_6.out)); (case aS => exact (below_size (by repeat (first | (with_reducible first | exact HB.out | apply below_alloc | apply pw_below_drewN | apply below_drew1) | exact HB.out)))); (case aL => have := LMc29.out; omega); intro v125 w32 ho hb hg hat; rw [← Ny124.out] at ho; have n0_ := Aside0.mk (Kd.S_after (ok := (fun _ => True)) (by (with_reducible repeat (first | apply Kd.S_alloc | apply Kd.S_drewN | apply Kd.S_drew)); exact Kd.S_mono HO_4.out (fun _ hk => ⟨trivial, hk⟩)) hg hat); have n1_ := Aside0.mk (Kd.R_over' (by (with_reducible repeat (first | apply Kd.R_alloc | apply Kd.R_drewN | apply Kd.R_drew)); exact HO123.out) (Kd.R_typed (by (with_reducible repeat (first | apply Kd.R_alloc | apply Kd.R_drewN | apply Kd.R_drew)); exact HO_6.out)) (by decide) hg); have n2_ := Aside0.mk (hb); have n3_ := Aside0.mk (ho); clear HO_4; clear HO123; clear HB; clear HO_6; have HO_4 := n0_; have HO123 := n1_; have HB := n2_; have HO126 := n3_; clear n0_ n1_ n2_ n3_; clear ho hb hg hat))
                                      repeat (go_quiet (first | ((with_reducible refine gate_builtin (b := .append) (xs := #[.tmp 48, .tmp 56]) rfl ?_); at_builtin; refine Kd.R_append Kd.string (w0 := w) w.heap.size rfl (.tmp 48) (.tmp 56) 27 9 (.string ⟨#[]⟩) 16 rfl Try.underlying27 info9 rfl (by decide) (by omega) (.slice Ao30 x3_2.length co30) x3_2 (rdOf ByteArray.empty (rd_L7 l0 x5_1) x7_2) [.string (rdOf ByteArray.empty (rd_L7 l0 x5_1) x7_2)] (fun _ => True) (fun _ => False) rfl rfl ?aP (fun _ hk => hk.elim) ?aF ?aO ?aB ?aS ?aL ?_; (case aP => exact rfl); (case aB => exact (by repeat (first | (with_reducible first | exact HB.out | apply below_alloc | apply pw_below_drewN | apply below_drew1) | exact HB.out))); (case aF => exact (fun _ _ => trivial)); (case aO => exact (by (with_reducible repeat (first | apply Kd.R_alloc | apply Kd.R_drewN | apply Kd.R_drew)); exact HO_3.out)); (case aS => exact (below_size (by repeat (first | (with_reducible first | exact HB.out | apply below_alloc | apply pw_below_drewN | apply below_drew1) | exact HB.out)))); (case aL => have := LMc28.out; omega); intro v122 w31 ho hb hg hat; rw [← Ny121.out] at ho; have n0_ := Aside0.mk (Kd.S_over' (by (with_reducible repeat (first | apply Kd.S_alloc | apply Kd.S_drewN | apply Kd.S_drew)); exact HO_4.out) (Kd.R_typed (by (with_reducible repeat (first | apply Kd.R_alloc | apply Kd.R_drewN | apply Kd.R_drew)); exact HO_3.out)) (by decide) hg); have n1_ := Aside0.mk (Kd.R_over' (by (with_reducible repeat (first | apply Kd.R_alloc | apply Kd.R_drewN | apply Kd.R_drew)); exact HO_6.out) (Kd.R_typed (by (with_reducible repeat (first | apply Kd.R_alloc | apply Kd.R_drewN | apply Kd.R_drew)); exact HO_3.out)) (by decide) hg); have n2_ := Aside0.mk (hb); have n3_ := Aside0.mk (ho); clear HO_4; clear HO_6; clear HB; clear HO_3; have HO_4 := n0_; have HO_6 := n1_; have HB := n2_; have HO123 := n3_; clear n0_ n1_ n2_ n3_; clear ho hb hg hat) | ((with_reducible refine gate_builtin (b := .append) (xs := #[.tmp 58, .tmp 60]) rfl ?_); at_builtin; refine Kd.R_append (Kd.int .i64) (w0 := w) w.heap.size rfl (.tmp 58) (.tmp 60) 22 3 (.int .i64 0) 8 rfl Try.underlying22 info3 rfl (by decide) (by omega) u6 x6_2 x8_3 [.int .i64 x8_3] (fun _ => True) (fun _ => False) rfl rfl ?aP (fun _ hk => hk.elim) ?aF ?aO ?aB ?aS ?aL ?_; (case aP => exact rfl); (case aB => exact (by repeat (first | (with_reducible first | exact HB.out | apply below_alloc | apply pw_below_drewN | apply below_drew1) | exact HB.out))); (case aF => exact (fun _ _ => trivial)); (case aO => exact (by (with_reducible repeat (first | apply Kd.R_alloc | apply Kd.R_drewN | apply Kd.R_drew)); exact HO_6.out)); (case aS => exact (below_size (by repeat (first | (with_reducible first | exact HB.out | apply below_alloc | apply pw_below_drewN | apply below_drew1) | exact HB.out)))); (case aL => have := LMc29.out; omega); intro v125 w32 ho hb hg hat; rw [← Ny124.out] at ho; have n0_ := Aside0.mk (Kd.S_after (ok := (fun _ => True)) (by (with_reducible repeat (first | apply Kd.S_alloc | apply Kd.S_drewN | apply Kd.S_drew)); exact Kd.S_mono HO_4.out (fun _ hk => ⟨trivial, hk⟩)) hg hat); have n1_ := Aside0.mk (Kd.R_over' (by (with_reducible repeat (first | apply Kd.R_alloc | apply Kd.R_drewN | apply Kd.R_drew)); exact HO123.out) (Kd.R_typed (by (with_reducible repeat (first | apply Kd.R_alloc | apply Kd.R_drewN | apply Kd.R_drew)); exact HO_6.out)) (by decide) hg); have n2_ := Aside0.mk (hb); have n3_ := Aside0.mk (ho); clear HO_4; clear HO123; clear HB; clear HO_6; have HO_4 := n0_; have HO123 := n1_; have HB := n2_; have HO126 := n3_; clear n0_ n1_ n2_ n3_; clear ho hb hg hat)); try go_wp2_with (first | ((with_reducible refine gate_builtin (b := .append) (xs := #[.tmp 48, .tmp 56]) rfl ?_); at_builtin; refine Kd.R_append Kd.string (w0 := w) w.heap.size rfl (.tmp 48) (.tmp 56) 27 9 (.string ⟨#[]⟩) 16 rfl Try.underlying27 info9 rfl (by decide) (by omega) (.slice Ao30 x3_2.length co30) x3_2 (rdOf ByteArray.empty (rd_L7 l0 x5_1) x7_2) [.string (rdOf ByteArray.empty (rd_L7 l0 x5_1) x7_2)] (fun _ => True) (fun _ => False) rfl rfl ?aP (fun _ hk => hk.elim) ?aF ?aO ?aB ?aS ?aL ?_; (case aP => exact rfl); (case aB => exact (by repeat (first | (with_reducible first | exact HB.out | apply below_alloc | apply pw_below_drewN | apply below_drew1) | exact HB.out))); (case aF => exact (fun _ _ => trivial)); (case aO => exact (by (with_reducible repeat (first | apply Kd.R_alloc | apply Kd.R_drewN | apply Kd.R_drew)); exact HO_3.out)); (case aS => exact (below_size (by repeat (first | (with_reducible first | exact HB.out | apply below_alloc | apply pw_below_drewN | apply below_drew1) | exact HB.out)))); (case aL => have := LMc28.out; omega); intro v122 w31 ho hb hg hat; rw [← Ny121.out] at ho; have n0_ := Aside0.mk (Kd.S_over' (by (with_reducible repeat (first | apply Kd.S_alloc | apply Kd.S_drewN | apply Kd.S_drew)); exact HO_4.out) (Kd.R_typed (by (with_reducible repeat (first | apply Kd.R_alloc | apply Kd.R_drewN | apply Kd.R_drew)); exact HO_3.out)) (by decide) hg); have n1_ := Aside0.mk (Kd.R_over' (by (with_reducible repeat (first | apply Kd.R_alloc | apply Kd.R_drewN | apply Kd.R_drew)); exact HO_6.out) (Kd.R_typed (by (with_reducible repeat (first | apply Kd.R_alloc | apply Kd.R_drewN | apply Kd.R_drew)); exact HO_3.out)) (by decide) hg); have n2_ := Aside0.mk (hb); have n3_ := Aside0.mk (ho); clear HO_4; clear HO_6; clear HB; clear HO_3; have HO_4 := n0_; have HO_6 := n1_; have HB := n2_; have HO123 := n3_; clear n0_ n1_ n2_ n3_; clear ho hb hg hat) | ((with_reducible refine gate_builtin (b := .append) (xs := #[.tmp 58, .tmp 60]) rfl ?_); at_builtin; refine Kd.R_append (Kd.int .i64) (w0 := w) w.heap.size rfl (.tmp 58) (.tmp 60) 22 3 (.int .i64 0) 8 rfl Try.underlying22 info3 rfl (by decide) (by omega) u6 x6_2 x8_3 [.int .i64 x8_3] (fun _ => True) (fun _ => False) rfl rfl ?aP (fun _ hk => hk.elim) ?aF ?aO ?aB ?aS ?aL ?_; (case aP => exact rfl); (case aB => exact (by repeat (first | (with_reducible first | exact HB.out | apply below_alloc | apply pw_below_drewN | apply below_drew1) | exact HB.out))); (case aF => exact (fun _ _ => trivial)); (case aO => exact (by (with_reducible repeat (first | apply Kd.R_alloc | apply Kd.R_drewN | apply Kd.R_drew)); exact HO_6.out)); (case aS => exact (below_size (by repeat (first | (with_reducible first | exact HB.out | apply below_alloc | apply pw_below_drewN | apply below_drew1) | exact HB.out)))); (case aL => have := LMc29.out; omega); intro v125 w32 ho hb hg hat; rw [← Ny124.out] at ho; have n0_ := Aside0.mk (Kd.S_after (ok := (fun _ => True)) (by (with_reducible repeat (first | apply Kd.S_alloc | apply Kd.S_drewN | apply Kd.S_drew)); exact Kd.S_mono HO_4.out (fun _ hk => ⟨trivial, hk⟩)) hg hat); have n1_ := Aside0.mk (Kd.R_over' (by (with_reducible repeat (first | apply Kd.R_alloc | apply Kd.R_drewN | apply Kd.R_drew)); exact HO123.out) (Kd.R_typed (by (with_reducible repeat (first | apply Kd.R_alloc | apply Kd.R_drewN | apply Kd.R_drew)); exact HO_6.out)) (by decide) hg); have n2_ := Aside0.mk (hb); have n3_ := Aside0.mk (ho); clear HO_4; clear HO123; clear HB; clear HO_6; have HO_4 := n0_; have HO123 := n1_; have HB := n2_; have HO126 := n3_; clear n0_ n1_ n2_ n3_; clear ho hb hg hat)))
                                      go_roundg k3
                                      case measure => have := HK1.out; have := HK2.out; have := HK3.out; omega
                                      case rel => exact ⟨(y121), (y124), (wrap64 (x7_2 + 1)), (by first | rfl | (simp; done) | (simp [*]; done)), H', ⟨by have := HK1.out; have := HK2.out; have := HK3.out; omega⟩, ⟨by (with_reducible repeat (first | apply Kd.R_alloc | apply Kd.R_drewN | apply Kd.R_drew)); exact HO123.out⟩, ⟨by (with_reducible repeat (first | apply Kd.S_alloc | apply Kd.S_drewN | apply Kd.S_drew)); exact Kd.S_mono HO_4.out (fun _ hk => hk.2)⟩, ⟨by (with_reducible repeat (first | apply Kd.R_alloc | apply Kd.R_drewN | apply Kd.R_drew)); exact HO126.out⟩, ⟨by repeat (first | (with_reducible first | exact HB.out | apply below_alloc | apply pw_below_drewN | apply below_drew1) | exact HB.out)⟩⟩
                                    · rw [if_neg c29] at H
                                      exact absurd H (by simp)
                                  · rw [if_neg c28] at H
                                    exact absurd H (by simp)
                                · rw [if_neg c27] at H
                                  exact absurd H (by simp)
                              · rw [if_neg c26] at H
                                exact absurd H (by simp)
                            · rw [if_neg c25] at H
                              exact absurd H (by simp)
                          · rw [if_neg c24] at H
                            exact absurd H (by simp)
                        · rw [if_neg c23] at H
                          have c23b0 : (x8_3 == (x3_2.length : Int)) = false := beq_eq_false_iff_ne.mpr c23
                          have c23b1 : (x8_3 != (x3_2.length : Int)) = true := bne_iff_ne.mpr c23
                          by_cases c33 : x6_2.length < 17592186044416
                          · rw [if_pos c33] at H
                            have LMc33 := Aside0.mk c33
                            clear c33
                            obtain ⟨y127, hy127⟩ : ∃ y_ : List Int, y_ = (x6_2 ++ [x8_3]) := ⟨_, rfl⟩
                            replace H : (tripartiteref01_Number.l1 k3 l0 x3_2 x4_1 x5_1 y127 (wrap64 (x7_2 + 1))) = some r := by first | (rw [hy127]; with_reducible exact H) | (have H2_ := (Option.bind_some _ _).symm.trans H; rw [hy127]; with_reducible exact H2_) | (have H2_ := (Option.bind_some _ _).symm.trans H; with_reducible exact H2_) | with_reducible exact H | (rw [hy127]; exact H) | exact H
                            have Ny127 := Aside0.mk hy127
                            clear hy127
                            have H' := Aside0.mk H
                            clear H
                            obtain ⟨Ao34, co34, eo34⟩ := Kd.R_slice HO_3.out
                            subst eo34
                            go_wp2_with (first | ((with_reducible refine gate_builtin (b := .append) (xs := #[.tmp 58, .tmp 60]) rfl ?_); at_builtin; refine Kd.R_append (Kd.int .i64) (w0 := w) w.heap.size rfl (.tmp 58) (.tmp 60) 22 3 (.int .i64 0) 8 rfl Try.underlying22 info3 rfl (by decide) (by omega) u6 x6_2 x8_3 [.int .i64 x8_3] (fun _ => True) (fun _ => False) rfl rfl ?aP (fun _ hk => hk.elim) ?aF ?aO ?aB ?aS ?aL ?_; (case aP => exact rfl); (case aB => exact (by repeat (first | (with_reducible first | exact HB.out | apply below_alloc | apply pw_below_drewN | apply below_drew1) | exact HB.out))); (case aF => exact (fun _ _ => trivial)); (case aO => exact (by (with_reducible repeat (first | apply Kd.R_alloc | apply Kd.R_drewN | apply Kd.R_drew)); exact HO_6.out)); (case aS => exact (below_size (by repeat (first | (with_reducible first | exact HB.out | apply below_alloc | apply pw_below_drewN | apply below_drew1) | exact HB.out)))); (case aL => have := LMc33.out; omega); intro v128 w35 ho hb hg hat; rw [← Ny127.out] at ho; have n0_ := Aside0.mk (Kd.R_over' (by (with_reducible repeat (first | apply Kd.R_alloc | apply Kd.R_drewN | apply Kd.R_drew)); exact HO_3.out) (Kd.R_typed (by (with_reducible repeat (first | apply Kd.R_alloc | apply Kd.R_drewN | apply Kd.R_drew)); exact HO_6.out)) (by decide) hg); have n1_ := Aside0.mk (Kd.S_after (ok := (fun _ => True)) (by (with_reducible repeat (first | apply Kd.S_alloc | apply Kd.S_drewN | apply Kd.S_drew)); exact Kd.S_mono HO_4.out (fun _ hk => ⟨trivial, hk⟩)) hg hat); have n2_ := Aside0.mk (hb); have n3_ := Aside0.mk (ho); clear HO_3; clear HO_4; clear HB; clear HO_6; have HO_3 := n0_; have HO_4 := n1_; have HB := n2_; have HO129 := n3_; clear n0_ n1_ n2_ n3_; clear ho hb hg hat))
                            repeat (go_quiet (first | ((with_reducible refine gate_builtin (b := .append) (xs := #[.tmp 58, .tmp 60]) rfl ?_); at_builtin; refine Kd.R_append (Kd.int .i64) (w0 := w) w.heap.size rfl (.tmp 58) (.tmp 60) 22 3 (.int .i64 0) 8 rfl Try.underlying22 info3 rfl (by decide) (by omega) u6 x6_2 x8_3 [.int .i64 x8_3] (fun _ => True) (fun _ => False) rfl rfl ?aP (fun _ hk => hk.elim) ?aF ?aO ?aB ?aS ?aL ?_; (case aP => exact rfl); (case aB => exact (by repeat (first | (with_reducible first | exact HB.out | apply below_alloc | apply pw_below_drewN | apply below_drew1) | exact HB.out))); (case aF => exact (fun _ _ => trivial)); (case aO => exact (by (with_reducible repeat (first | apply Kd.R_alloc | apply Kd.R_drewN | apply Kd.R_drew)); exact HO_6.out)); (case aS => exact (below_size (by repeat (first | (with_reducible first | exact HB.out | apply below_alloc | apply pw_below_drewN | apply below_drew1) | exact HB.out)))); (case aL => have := LMc33.out; omega); intro v128 w35 ho hb hg hat; rw [← Ny127.out] at ho; have n0_ := Aside0.mk (Kd.R_over' (by (with_reducible repeat (first | apply Kd.R_alloc | apply Kd.R_drewN | apply Kd.R_drew)); exact HO_3.out) (Kd.R_typed (by (with_reducible repeat (first | apply Kd.R_alloc | apply Kd.R_drewN | apply Kd.R_drew)); exact HO_6.out)) (by decide) hg); have n1_ := Aside0.mk (Kd.S_after (ok := (fun _ => True)) (by (with_reducible repeat (first | apply Kd.S_alloc | apply Kd.S_drewN | apply Kd.S_drew)); exact Kd.S_mono HO_4.out (fun _ hk => ⟨trivial, hk⟩)) hg hat); have n2_ := Aside0.mk (hb); have n3_ := Aside0.mk (ho); clear HO_3; clear HO_4; clear HB; clear HO_6; have HO_3 := n0_; have HO_4 := n1_; have HB := n2_; have HO129 := n3_; clear n0_ n1_ n2_ n3_; clear ho hb hg hat)); try go_wp2_with (first | ((with_reducible refine gate_builtin (b := .append) (xs := #[.tmp 58, .tmp 60]) rfl ?_); at_builtin; refine Kd.R_append (Kd.int .i64) (w0 := w) w.heap.size rfl (.tmp 58) (.tmp 60) 22 3 (.int .i64 0) 8 rfl Try.underlying22 info3 rfl (by decide) (by omega) u6 x6_2 x8_3 [.int .i64 x8_3] (fun _ => True) (fun _ => False) rfl rfl ?aP (fun _ hk => hk.elim) ?aF ?aO ?aB ?aS ?aL ?_; (case aP => exact rfl); (case aB => exact (by repeat (first | (with_reducible first | exact HB.out | apply below_alloc | apply pw_below_drewN | apply below_drew1) | exact HB.out))); (case aF => exact (fun _ _ => trivial)); (case aO => exact (by (with_reducible repeat (first | apply Kd.R_alloc | apply Kd.R_drewN | apply Kd.R_drew)); exact HO_6.out)); (case aS => exact (below_size (by repeat (first | (with_reducible first | exact HB.out | apply below_alloc | apply pw_below_drewN | apply below_drew1) | exact HB.out)))); (case aL => have := LMc33.out; omega); intro v128 w35 ho hb hg hat; rw [← Ny127.out] at ho; have n0_ := Aside0.mk (Kd.R_over' (by (with_reducible repeat (first | apply Kd.R_alloc | apply Kd.R_drewN | apply Kd.R_drew)); exact HO_3.out) (Kd.R_typed (by (with_reducible repeat (first | apply Kd.R_alloc | apply Kd.R_drewN | apply Kd.R_drew)); exact HO_6.out)) (by decide) hg); have n1_ := Aside0.mk (Kd.S_after (ok := (fun _ => True)) (by (with_reducible repeat (first | apply Kd.S_alloc | apply Kd.S_drewN | apply Kd.S_drew)); exact Kd.S_mono HO_4.out (fun _ hk => ⟨trivial, hk⟩)) hg hat); have n2_ := Aside0.mk (hb); have n3_ := Aside0.mk (ho); clear HO_3; clear HO_4; clear HB; clear HO_6; have HO_3 := n0_; have HO_4 := n1_; have HB := n2_; have HO129 := n3_; clear n0_ n1_ n2_ n3_; clear ho hb hg hat)))
                            go_roundg k3
                            case measure => have := HK1.out; have := HK2.out; have := HK3.out; omega
                            case rel => exact ⟨(x3_2), (y127), (wrap64 (x7_2 + 1)), (by first | rfl | (simp; done) | (simp [*]; done)), H', ⟨by have := HK1.out; have := HK2.out; have := HK3.out; omega⟩, ⟨by (with_reducible repeat (first | apply Kd.R_alloc | apply Kd.R_drewN | apply Kd.R_drew)); exact HO_3.out⟩, ⟨by (with_reducible repeat (first | apply Kd.S_alloc | apply Kd.S_drewN | apply Kd.S_drew)); exact Kd.S_mono HO_4.out (fun _ hk => hk.2)⟩, ⟨by (with_reducible repeat (first | apply Kd.R_alloc | apply Kd.R_drewN | apply Kd.R_drew)); exact HO129.out⟩, ⟨by repeat (first | (with_reducible first | exact HB.out | apply below_alloc | apply pw_below_drewN | apply below_drew1) | exact HB.out)⟩⟩
                          · rw [if_neg c33] at H
                            exact absurd H (by simp)
                · rw [if_neg c5] at H
                  have c5b0 : decide (x7_2 < ((rd_L7 l0 x5_1).length : Int)) = false := decide_eq_false c5
                  clear c5
                  by_cases c36 : x4_1.length < 5864062014805
                  · rw [if_pos c36] at H
                    have LMc36 := Aside0.mk c36
                    clear c36
                    obtain ⟨y102, hy102⟩ : ∃ y_ : List (List Int), y_ = (x4_1 ++ [x6_2]) := ⟨_, rfl⟩
                    replace H : (tripartiteref01_Number.l0 k2 l0 x3_2 y102 (wrap64 (x5_1 + 1))) = some r := by first | (rw [hy102]; with_reducible exact H) | (have H2_ := (Option.bind_some _ _).symm.trans H; rw [hy102]; with_reducible exact H2_) | (have H2_ := (Option.bind_some _ _).symm.trans H; with_reducible exact H2_) | with_reducible exact H | (rw [hy102]; exact H) | exact H
                    have Ny102 := Aside0.mk hy102
                    clear hy102
                    have H' := Aside0.mk H
                    clear H
                    have p101 : 0 ≤ (x5_1 : Int) := of_decide_eq_true (by first | (with_reducible assumption) | assumption)
                    have q101 : x5_1 < (l0.length : Int) := of_decide_eq_true (by first | (with_reducible assumption) | assumption)
                    obtain ⟨ad101, A101_0, c101_0, e101, hx101_0, hl101_0, hi101_0⟩ := at_L7 HR0.out x5_1 p101 q101
                    cases e101
                    replace hx101_0 := (HB.out.cell (World.block_lt_of_cell? w _ hx101_0)).trans hx101_0
                    have HR101_0 := Aside0.mk hi101_0
                    have HC101_0 := Aside0.mk hl101_0
                    clear hi101_0 hl101_0
                    replace p101 := eq_true p101
                    replace q101 := eq_true q101
                    obtain ⟨Ao38, co38, eo38⟩ := Kd.R_slice HO_6.out
                    subst eo38
                    go_wp2_with (first | ((with_reducible refine gate_builtin (b := .append) (xs := #[.tmp 62, .tmp 64]) rfl ?_); at_builtin; refine Kd.S_append (Kd.slice 3 (Kd.int .i64)) (w0 := w) w.heap.size rfl (.tmp 62) (.tmp 64) 134 22 (.slice none 0 0) 24 rfl Try.underlying134 info22 rfl (by decide) (by omega) u4 x4_1 x6_2 [.slice Ao38 x6_2.length co38] (fun _ => True) (fun k_ => some k_ = (.slice Ao38 x6_2.length co38 : Value).ownBlock) rfl rfl ?aP (fun k_ hk_ => ((Kd.R_mono (ok' := fun k_ => ((fun _ => True)) k_ ∧ some k_ ≠ (u4 : Value).ownBlock) (Kd.R_apart' (HO_6.out) (Kd.S_typed HO_4.out) (by decide)) (fun k_ hk => ⟨trivial, hk.2⟩))).1 k_ hk_.symm) ?aF ?aO ?aB ?aS ?aL ?_; (case aP => exact Kd.M_row (Kd.R_mono (Kd.R_tight rfl (Kd.R_mono (ok' := fun k_ => ((fun _ => True)) k_ ∧ some k_ ≠ (u4 : Value).ownBlock) (Kd.R_apart' (HO_6.out) (Kd.S_typed HO_4.out) (by decide)) (fun k_ hk => ⟨trivial, hk.2⟩))) (fun _ h_ => h_))); (case aB => exact (by repeat (first | (with_reducible first | exact HB.out | apply below_alloc | apply pw_below_drewN | apply below_drew1) | exact HB.out))); (case aF => exact (fun _ _ => trivial)); (case aO => exact (by (with_reducible repeat (first | apply Kd.S_alloc | apply Kd.S_drewN | apply Kd.S_drew)); exact Kd.S_mono HO_4.out (fun k_ hk => ⟨trivial, fun e_ => hk e_⟩))); (case aS => exact (below_size (by repeat (first | (with_reducible first | exact HB.out | apply below_alloc | apply pw_below_drewN | apply below_drew1) | exact HB.out)))); (case aL => have := LMc36.out; omega); intro v103 w37 ho hb hg hat; rw [← Ny102.out] at ho; have n0_ := Aside0.mk (Kd.R_over' (by (with_reducible repeat (first | apply Kd.R_alloc | apply Kd.R_drewN | apply Kd.R_drew)); exact HO_3.out) (Kd.S_typed (by (with_reducible repeat (first | apply Kd.S_alloc | apply Kd.S_drewN | apply Kd.S_drew)); exact HO_4.out)) (by decide) hg); have n1_ := Aside0.mk (hb); have n2_ := Aside0.mk (ho); clear HO_3; clear HB; clear HO_4; clear HO_6; have HO_3 := n0_; have HB := n1_; have HO104 := n2_; clear n0_ n1_ n2_; clear ho hb hg hat))
                    repeat (go_quiet (first | ((with_reducible refine gate_builtin (b := .append) (xs := #[.tmp 62, .tmp 64]) rfl ?_); at_builtin; refine Kd.S_append (Kd.slice 3 (Kd.int .i64)) (w0 := w) w.heap.size rfl (.tmp 62) (.tmp 64) 134 22 (.slice none 0 0) 24 rfl Try.underlying134 info22 rfl (by decide) (by omega) u4 x4_1 x6_2 [.slice Ao38 x6_2.length co38] (fun _ => True) (fun k_ => some k_ = (.slice Ao38 x6_2.length co38 : Value).ownBlock) rfl rfl ?aP (fun k_ hk_ => ((Kd.R_mono (ok' := fun k_ => ((fun _ => True)) k_ ∧ some k_ ≠ (u4 : Value).ownBlock) (Kd.R_apart' (HO_6.out) (Kd.S_typed HO_4.out) (by decide)) (fun k_ hk => ⟨trivial, hk.2⟩))).1 k_ hk_.symm) ?aF ?aO ?aB ?aS ?aL ?_; (case aP => exact Kd.M_row (Kd.R_mono (Kd.R_tight rfl (Kd.R_mono (ok' := fun k_ => ((fun _ => True)) k_ ∧ some k_ ≠ (u4 : Value).ownBlock) (Kd.R_apart' (HO_6.out) (Kd.S_typed HO_4.out) (by decide)) (fun k_ hk => ⟨trivial, hk.2⟩))) (fun _ h_ => h_))); (case aB => exact (by repeat (first | (with_reducible first | exact HB.out | apply below_alloc | apply pw_below_drewN | apply below_drew1) | exact HB.out))); (case aF => exact (fun _ _ => trivial)); (case aO => exact (by (with_reducible repeat (first | apply Kd.S_alloc | apply Kd.S_drewN | apply Kd.S_drew)); exact Kd.S_mono HO_4.out (fun k_ hk => ⟨trivial, fun e_ => hk e_⟩))); (case aS => exact (below_size (by repeat (first | (with_reducible first | exact HB.out | apply below_alloc | apply pw_below_drewN | apply below_drew1) | exact HB.out)))); (case aL => have := LMc36.out; omega); intro v103 w37 ho hb hg hat; rw [← Ny102.out] at ho; have n0_ := Aside0.mk (Kd.R_over' (by (with_reducible repeat (first | apply Kd.R_alloc | apply Kd.R_drewN | apply Kd.R_drew)); exact HO_3.out) (Kd.S_typed (by (with_reducible repeat (first | apply Kd.S_alloc | apply Kd.S_drewN | apply Kd.S_drew)); exact HO_4.out)) (by decide) hg); have n1_ := Aside0.mk (hb); have n2_ := Aside0.mk (ho); clear HO_3; clear HB; clear HO_4; clear HO_6; have HO_3 := n0_; have HB := n1_; have HO104 := n2_; clear n0_ n1_ n2_; clear ho hb hg hat)); try go_wp2_with (first | ((with_reducible refine gate_builtin (b := .append) (xs := #[.tmp 62, .tmp 64]) rfl ?_); at_builtin; refine Kd.S_append (Kd.slice 3 (Kd.int .i64)) (w0 := w) w.heap.size rfl (.tmp 62) (.tmp 64) 134 22 (.slice none 0 0) 24 rfl Try.underlying134 info22 rfl (by decide) (by omega) u4 x4_1 x6_2 [.slice Ao38 x6_2.length co38] (fun _ => True) (fun k_ => some k_ = (.slice Ao38 x6_2.length co38 : Value).ownBlock) rfl rfl ?aP (fun k_ hk_ => ((Kd.R_mono (ok' := fun k_ => ((fun _ => True)) k_ ∧ some k_ ≠ (u4 : Value).ownBlock) (Kd.R_apart' (HO_6.out) (Kd.S_typed HO_4.out) (by decide)) (fun k_ hk => ⟨trivial, hk.2⟩))).1 k_ hk_.symm) ?aF ?aO ?aB ?aS ?aL ?_; (case aP => exact Kd.M_row (Kd.R_mono (Kd.R_tight rfl (Kd.R_mono (ok' := fun k_ => ((fun _ => True)) k_ ∧ some k_ ≠ (u4 : Value).ownBlock) (Kd.R_apart' (HO_6.out) (Kd.S_typed HO_4.out) (by decide)) (fun k_ hk => ⟨trivial, hk.2⟩))) (fun _ h_ => h_))); (case aB => exact (by repeat (first | (with_reducible first | exact HB.out | apply below_alloc | apply pw_below_drewN | apply below_drew1) | exact HB.out))); (case aF => exact (fun _ _ => trivial)); (case aO => exact (by (with_reducible repeat (first | apply Kd.S_alloc | apply Kd.S_drewN | apply Kd.S_drew)); exact Kd.S_mono HO_4.out (fun k_ hk => ⟨trivial, fun e_ => hk e_⟩))); (case aS => exact (below_size (by repeat (first | (with_reducible first | exact HB.out | apply below_alloc | apply pw_below_drewN | apply below_drew1) | exact HB.out)))); (case aL => have := LMc36.out; omega); intro v103 w37 ho hb hg hat; rw [← Ny102.out] at ho; have n0_ := Aside0.mk (Kd.R_over' (by (with_reducible repeat (first | apply Kd.R_alloc | apply Kd.R_drewN | apply Kd.R_drew)); exact HO_3.out) (Kd.S_typed (by (with_reducible repeat (first | apply Kd.S_alloc | apply Kd.S_drewN | apply Kd.S_drew)); exact HO_4.out)) (by decide) hg); have n1_ := Aside0.mk (hb); have n2_ := Aside0.mk (ho); clear HO_3; clear HB; clear HO_4; clear HO_6; have HO_3 := n0_; have HB := n1_; have HO104 := n2_; clear n0_ n1_ n2_; clear ho hb hg hat)))
                    go_roundg k2
                    case measure => have := HK1.out; have := HK2.out; omega
                    case rel => exact ⟨(x3_2), (y102), (wrap64 (x5_1 + 1)), (by first | rfl | (simp; done) | (simp [*]; done)), H', ⟨by have := HK1.out; have := HK2.out; omega⟩, ⟨by (with_reducible repeat (first | apply Kd.R_alloc | apply Kd.R_drewN | apply Kd.R_drew)); exact HO_3.out⟩, ⟨by (with_reducible repeat (first | apply Kd.S_alloc | apply Kd.S_drewN | apply Kd.S_drew)); exact HO104.out⟩, ⟨by repeat (first | (with_reducible first | exact HB.out | apply below_alloc | apply pw_below_drewN | apply below_drew1) | exact HB.out)⟩⟩
                  · rw [if_neg c36] at H
                    exact absurd H (by simp)
              · rw [if_neg c4] at H
                exact absurd H (by simp)
            · rw [if_neg c3] at H
              exact absurd H (by simp)
      · rw [if_neg c2] at H
        have c2b0 : decide (x5_1 < (l0.length : Int)) = false := decide_eq_false c2
        clear c2
        obtain rfl := Option.some.inj H
        go_wp2
        repeat (go_quiet (fail); try go_wp2)
        go_ret
        exact ⟨_, by first | rfl | (simp [errW_none, errW_some] <;> rfl) | (simp [*, errW_none, errW_some] <;> rfl), by (with_reducible repeat (first | apply Kd.S_alloc | apply Kd.S_drewN | apply Kd.S_drew)); exact HO_4.out, by repeat (first | (with_reducible first | exact HB.out | apply below_alloc | apply pw_below_drewN | apply below_drew1) | exact HB.out)⟩

end Go.Proofs.Ytadafplbgophfaa.PA
end
section
-- Written by a program of this seat out of the translation. Not trusted: Lean checks it.
namespace Go.Proofs.Ytadafplbgophfaa.PA
open Go.RowKit Go.Proofs.YtadafplbgophfaaW.PrintWords Go.Proofs.YtadafplbgophfaaW.PrintLast Go.Proofs.YtadafplbgophfaaW.PrintMore
attribute [local go_sem] max2_int min2_int max_two min_two max_three min_three max_four min_four   -- for this text's walks alone
set_option linter.unusedVariables false
set_option linter.unusedSimpArgs false

/-! ### tripartiteref04_one: function 89 -/
def tripartiteref04_one.f (l0 : List (S144)) (a1 : Int) (a2 : ByteArray) : Option ((List (S144))) := (some (([] : List (S144)) : List (S144))).bind fun y101 => (if y101.length + l0.length < 4398046511104 then ((some (y101 ++ l0 : List (S144))).bind fun y104 => (if (l0.length : Int) > 0 then (if 0 ≤ (wrap64 ((l0.length : Int) - 1)) then (if (wrap64 ((l0.length : Int) - 1)) < (l0.length : Int) then (if ((rd_T144 l0 (wrap64 ((l0.length : Int) - 1))).f0) = a1 then ((some (([] : List ByteArray) : List ByteArray)).bind fun y108 => (if y108.length + ((rd_T144 l0 (wrap64 ((l0.length : Int) - 1))).f1).length < 8796093022208 then ((some (y108 ++ ((rd_T144 l0 (wrap64 ((l0.length : Int) - 1))).f1) : List ByteArray)).bind fun y112 => (if y112.length < 8796093022208 then (if (wrap64 ((l0.length : Int) - 1)) < (y104.length : Int) then (some (y104.set ((wrap64 ((l0.length : Int) - 1)) : Int).toNat (⟨a1, (y112 ++ [a2])⟩ : S144))) else (none)) else (none))) else (none))) else (if y104.length < 4398046511104 then (some (y104 ++ [(⟨a1, (([a2] : List ByteArray))⟩ : S144)])) else (none))) else (none)) else (none)) else (if y104.length < 4398046511104 then (some (y104 ++ [(⟨a1, (([a2] : List ByteArray))⟩ : S144)])) else (none)))) else (none))
set_option maxHeartbeats 8000000 in
set_option maxRecDepth 100000 in
theorem tripartiteref04_one.calls (P0_ : Nat → Prop) (A0 : Option Addr) (c0 : Nat) (l0 : List (S144)) (a1 : Int) (a2 : ByteArray) (r : List (S144)) (w : World) (hs0 : Kd.V k144 144 w w.heap.size (fun k_ => P0_ k_) (.slice A0 l0.length c0) l0) (h : tripartiteref04_one.f l0 a1 a2 = some r) :
    Calls Try.prog 89 #[.slice A0 l0.length c0, .int .i64 a1, .string a2] w fun e w' => ∃ v0_ : Value, e = .returned (v0_) ∧ Kd.N k144 144 w' w.heap.size (fun k_ => (P0_ k_ ∨ w.heap.size ≤ k_)) v0_ r ∧ Below w.heap.size w w' := by
  have hu144 := Try.underlying144
  have HO0 := Aside0.mk (show Kd.V k144 144 w w.heap.size (fun k_ => (P0_ k_ ∨ w.heap.size ≤ k_)) (.slice A0 l0.length c0) l0 from Kd.V_mono hs0 (fun k_ hk => .inl hk))
  have HB := Aside0.mk (Below.refl w.heap.size w)
  have H : ((some (([] : List (S144)) : List (S144))).bind fun y101 => (if y101.length + l0.length < 4398046511104 then ((some (y101 ++ l0 : List (S144))).bind fun y104 => (if (l0.length : Int) > 0 then (if 0 ≤ (wrap64 ((l0.length : Int) - 1)) then (if (wrap64 ((l0.length : Int) - 1)) < (l0.length : Int) then (if ((rd_T144 l0 (wrap64 ((l0.length : Int) - 1))).f0) = a1 then ((some (([] : List ByteArray) : List ByteArray)).bind fun y108 => (if y108.length + ((rd_T144 l0 (wrap64 ((l0.length : Int) - 1))).f1).length < 8796093022208 then ((some (y108 ++ ((rd_T144 l0 (wrap64 ((l0.length : Int) - 1))).f1) : List ByteArray)).bind fun y112 => (if y112.length < 8796093022208 then (if (wrap64 ((l0.length : Int) - 1)) < (y104.length : Int) then (some (y104.set ((wrap64 ((l0.length : Int) - 1)) : Int).toNat (⟨a1, (y112 ++ [a2])⟩ : S144))) else (none)) else (none))) else (none))) else (if y104.length < 4398046511104 then (some (y104 ++ [(⟨a1, (([a2] : List ByteArray))⟩ : S144)])) else (none))) else (none)) else (none)) else (if y104.length < 4398046511104 then (some (y104 ++ [(⟨a1, (([a2] : List ByteArray))⟩ : S144)])) else (none)))) else (none))) = some r := h
  clear h
  obtain ⟨y101, hy101⟩ : ∃ y_ : List (S144), y_ = (([] : List (S144))) := ⟨_, rfl⟩
  replace H : (if y101.length + l0.length < 4398046511104 then ((some (y101 ++ l0 : List (S144))).bind fun y104 => (if (l0.length : Int) > 0 then (if 0 ≤ (wrap64 ((l0.length : Int) - 1)) then (if (wrap64 ((l0.length : Int) - 1)) < (l0.length : Int) then (if ((rd_T144 l0 (wrap64 ((l0.length : Int) - 1))).f0) = a1 then ((some (([] : List ByteArray) : List ByteArray)).bind fun y108 => (if y108.length + ((rd_T144 l0 (wrap64 ((l0.length : Int) - 1))).f1).length < 8796093022208 then ((some (y108 ++ ((rd_T144 l0 (wrap64 ((l0.length : Int) - 1))).f1) : List ByteArray)).bind fun y112 => (if y112.length < 8796093022208 then (if (wrap64 ((l0.length : Int) - 1)) < (y104.length : Int) then (some (y104.set ((wrap64 ((l0.length : Int) - 1)) : Int).toNat (⟨a1, (y112 ++ [a2])⟩ : S144))) else (none)) else (none))) else (none))) else (if y104.length < 4398046511104 then (some (y104 ++ [(⟨a1, (([a2] : List ByteArray))⟩ : S144)])) else (none))) else (none)) else (none)) else (if y104.length < 4398046511104 then (some (y104 ++ [(⟨a1, (([a2] : List ByteArray))⟩ : S144)])) else (none)))) else (none)) = some r := by first | (rw [hy101]; with_reducible exact H) | (have H2_ := (Option.bind_some _ _).symm.trans H; rw [hy101]; with_reducible exact H2_) | (have H2_ := (Option.bind_some _ _).symm.trans H; with_reducible exact H2_) | with_reducible exact H | (rw [hy101]; exact H) | exact H
  have Ny101 := Aside0.mk hy101
  clear hy101
  by_cases c4 : y101.length + l0.length < 4398046511104
  · rw [if_pos c4] at H
    have LMc4 := Aside0.mk c4
    clear c4
    obtain ⟨y104, hy104⟩ : ∃ y_ : List (S144), y_ = (y101 ++ l0) := ⟨_, rfl⟩
    replace H : (if (l0.length : Int) > 0 then (if 0 ≤ (wrap64 ((l0.length : Int) - 1)) then (if (wrap64 ((l0.length : Int) - 1)) < (l0.length : Int) then (if ((rd_T144 l0 (wrap64 ((l0.length : Int) - 1))).f0) = a1 then ((some (([] : List ByteArray) : List ByteArray)).bind fun y108 => (if y108.length + ((rd_T144 l0 (wrap64 ((l0.length : Int) - 1))).f1).length < 8796093022208 then ((some (y108 ++ ((rd_T144 l0 (wrap64 ((l0.length : Int) - 1))).f1) : List ByteArray)).bind fun y112 => (if y112.length < 8796093022208 then (if (wrap64 ((l0.length : Int) - 1)) < (y104.length : Int) then (some (y104.set ((wrap64 ((l0.length : Int) - 1)) : Int).toNat (⟨a1, (y112 ++ [a2])⟩ : S144))) else (none)) else (none))) else (none))) else (if y104.length < 4398046511104 then (some (y104 ++ [(⟨a1, (([a2] : List ByteArray))⟩ : S144)])) else (none))) else (none)) else (none)) else (if y104.length < 4398046511104 then (some (y104 ++ [(⟨a1, (([a2] : List ByteArray))⟩ : S144)])) else (none))) = some r := by first | (rw [hy104]; with_reducible exact H) | (have H2_ := (Option.bind_some _ _).symm.trans H; rw [hy104]; with_reducible exact H2_) | (have H2_ := (Option.bind_some _ _).symm.trans H; with_reducible exact H2_) | with_reducible exact H | (rw [hy104]; exact H) | exact H
    have Ny104 := Aside0.mk hy104
    clear hy104
    by_cases c5 : (l0.length : Int) > 0
    · rw [if_pos c5] at H
      have c5b0 : decide (0 < (l0.length : Int)) = true := decide_eq_true c5
      have c5b1 : decide (0 < l0.length) = true := decide_eq_true (by omega)
      clear c5
      obtain ⟨ji6, hji6⟩ : ∃ j_ : Int, (wrap64 ((l0.length : Int) - 1)) = j_ := ⟨_, rfl⟩
      replace H : (if 0 ≤ (ji6) then (if (ji6) < (l0.length : Int) then (if ((rd_T144 l0 (ji6)).f0) = a1 then ((some (([] : List ByteArray) : List ByteArray)).bind fun y108 => (if y108.length + ((rd_T144 l0 (ji6)).f1).length < 8796093022208 then ((some (y108 ++ ((rd_T144 l0 (ji6)).f1) : List ByteArray)).bind fun y112 => (if y112.length < 8796093022208 then (if (ji6) < (y104.length : Int) then (some (y104.set ((ji6) : Int).toNat (⟨a1, (y112 ++ [a2])⟩ : S144))) else (none)) else (none))) else (none))) else (if y104.length < 4398046511104 then (some (y104 ++ [(⟨a1, (([a2] : List ByteArray))⟩ : S144)])) else (none))) else (none)) else (none)) = some r := by first | (rw [hji6] at H; exact H) | (simp only [hji6] at H ⊢; exact H)
      have hji6w : (IntKind.i64.wrap ((l0.length : Int) - 1)) = ji6 := (i64_w _).trans hji6
      by_cases c7 : 0 ≤ (ji6)
      · rw [if_pos c7] at H
        have c7b0 : decide (0 ≤ (ji6)) = true := decide_eq_true c7
        clear c7
        by_cases c8 : (ji6) < (l0.length : Int)
        · rw [if_pos c8] at H
          have c8b0 : decide ((ji6) < (l0.length : Int)) = true := decide_eq_true c8
          clear c8
          by_cases c9 : ((rd_T144 l0 (ji6)).f0) = a1
          · rw [if_pos c9] at H
            have c9b0 : (((rd_T144 l0 (ji6)).f0) == a1) = true := beq_iff_eq.mpr c9
            have c9b1 : (((rd_T144 l0 (ji6)).f0) != a1) = false := bne_eq_false_iff_eq.mpr c9
            clear c9
            obtain ⟨y108, hy108⟩ : ∃ y_ : List ByteArray, y_ = (([] : List ByteArray)) := ⟨_, rfl⟩
            replace H : (if y108.length + ((rd_T144 l0 (ji6)).f1).length < 8796093022208 then ((some (y108 ++ ((rd_T144 l0 (ji6)).f1) : List ByteArray)).bind fun y112 => (if y112.length < 8796093022208 then (if (ji6) < (y104.length : Int) then (some (y104.set ((ji6) : Int).toNat (⟨a1, (y112 ++ [a2])⟩ : S144))) else (none)) else (none))) else (none)) = some r := by first | (rw [hy108]; with_reducible exact H) | (have H2_ := (Option.bind_some _ _).symm.trans H; rw [hy108]; with_reducible exact H2_) | (have H2_ := (Option.bind_some _ _).symm.trans H; with_reducible exact H2_) | with_reducible exact H | (rw [hy108]; exact H) | exact H
            have Ny108 := Aside0.mk hy108
            clear hy108
            by_cases c10 : y108.length + ((rd_T144 l0 (ji6)).f1).length < 8796093022208
            · rw [if_pos c10] at H
              have LMc10 := Aside0.mk c10
              clear c10
              obtain ⟨y112, hy112⟩ : ∃ y_ : List ByteArray, y_ = (y108 ++ ((rd_T144 l0 (ji6)).f1)) := ⟨_, rfl⟩
              replace H : (if y112.length < 8796093022208 then (if (ji6) < (y104.length : Int) then (some (y104.set ((ji6) : Int).toNat (⟨a1, (y112 ++ [a2])⟩ : S144))) else (none)) else (none)) = some r := by first | (rw [hy112]; with_reducible exact H) | (have H2_ := (Option.bind_some _ _).symm.trans H; rw [hy112]; with_reducible exact H2_) | (have H2_ := (Option.bind_some _ _).symm.trans H; with_reducible exact H2_) | with_reducible exact H | (rw [hy112]; exact H) | exact H
              have Ny112 := Aside0.mk hy112
              clear hy112
              by_cases c11 : y112.length < 8796093022208
              · rw [if_pos c11] at H
                have LMc11 := Aside0.mk c11
                clear c11
                obtain ⟨y115, hy115⟩ : ∃ y_ : List ByteArray, y_ = (y112 ++ [a2]) := ⟨_, rfl⟩
                replace H : (if (ji6) < (y104.length : Int) then (some (y104.set ((ji6) : Int).toNat (⟨a1, y115⟩ : S144))) else (none)) = some r := by first | (rw [hy115]; with_reducible exact H) | (have H2_ := (Option.bind_some _ _).symm.trans H; rw [hy115]; with_reducible exact H2_) | (have H2_ := (Option.bind_some _ _).symm.trans H; with_reducible exact H2_) | with_reducible exact H | (rw [hy115]; exact H) | exact H
                have Ny115 := Aside0.mk hy115
                clear hy115
                by_cases c12 : (ji6) < (y104.length : Int)
                · rw [if_pos c12] at H
                  have c12b0 : decide ((ji6) < (y104.length : Int)) = true := decide_eq_true c12
                  clear c12
                  obtain ⟨y118, hy118⟩ : ∃ y_ : List (S144), y_ = (y104.set ((ji6) : Int).toNat (⟨a1, y115⟩ : S144)) := ⟨_, rfl⟩
                  replace H : (some y118) = some r := by first | (rw [hy118]; with_reducible exact H) | (have H2_ := (Option.bind_some _ _).symm.trans H; rw [hy118]; with_reducible exact H2_) | (have H2_ := (Option.bind_some _ _).symm.trans H; with_reducible exact H2_) | with_reducible exact H | (rw [hy118]; exact H) | exact H
                  have Ny118 := Aside0.mk hy118
                  clear hy118
                  obtain rfl := Option.some.inj H
                  go_enter Try.func89, Try.ntmps89
                  go_wp2_with (first | ((with_reducible refine gate_dst (N := 11) rfl ?_); refine Kd.N_lit k144 _ 144 ?hg (N' := 11) ?hd (xs := ([] : List (S144))) (inner := []) (ok := (fun k_ => (P0_ k_ ∨ w.heap.size ≤ k_))) (okp := (fun k_ => (P0_ k_ ∨ w.heap.size ≤ k_))) ?hr ?hp (fun _ hk => hk) ((show ∀ k_, w.heap.size ≤ k_ → (fun k_ => (P0_ k_ ∨ w.heap.size ≤ k_)) k_ from fun k_ hk => (.inr (Nat.le_trans (below_size (by repeat (first | (with_reducible first | exact HB.out | apply below_alloc | apply pw_below_drewN | apply below_drew1) | exact HB.out))) hk))) _ (Nat.le_refl _)) (Below.refl _ _) (Nat.le_refl _) (by simp) ?_; (case hd => rfl); (case hg => rfl); (case hr => first | (go_simp; done) | (go_simp; rfl)); (case hp => exact (Reps.none _ _)); intro v102 w14 ho15 hb hg_ hnew_; clear hg_ hnew_; (first | rw [← Ny101.out] at ho15 | (simp only [Int.reduceToNat] at ho15; rw [← Ny101.out] at ho15)); have n0_ := Aside0.mk (Kd.V_elder' (by (with_reducible repeat (first | apply Kd.V_alloc | apply Kd.V_drewN | apply Kd.V_drew)); exact HO0.out) (Kd.N_base ho15) hb); have n1_ := Aside0.mk (Kd.N_lower ho15 (below_size (by repeat (first | (with_reducible first | exact HB.out | apply below_alloc | apply pw_below_drewN | apply below_drew1) | exact HB.out)))); have n2_ := Aside0.mk (below_step (by repeat (first | (with_reducible first | exact HB.out | apply below_alloc | apply pw_below_drewN | apply below_drew1) | exact HB.out)) hb); clear HO0; clear HB; have HO0 := n0_; have HO103 := n1_; have HB := n2_; clear n0_ n1_ n2_; clear hb ho15) | ((with_reducible refine gate_builtin (b := .append) (xs := #[.tmp 11, .tmp 12]) rfl ?_); at_builtin; refine Kd.N_append_rows k144 (w0 := w) w.heap.size rfl (.tmp 11) (.tmp 12) 48 144 (.agg #[(.int .i64 0), (.slice none 0 0)]) 32 rfl Try.underlying48 info144 rfl (by decide) (by omega) v102 y101 l0 _ _ _ (fun k_ => (P0_ k_ ∨ w.heap.size ≤ k_)) (fun k_ => ((fun k_ => (P0_ k_ ∨ w.heap.size ≤ k_))) k_ ∧ some k_ ≠ (v102 : Value).ownBlock) rfl rfl ?aO ?aR (fun _ hk => hk) ?aF ?aB ?aS ?aL ?_; (case aR => exact (by skip; exact Kd.V_F (Kd.V_mono (ok' := (fun k_ => ((fun k_ => (P0_ k_ ∨ w.heap.size ≤ k_))) k_ ∧ some k_ ≠ (v102 : Value).ownBlock)) (HO0.out) (fun k_ hk => ⟨hk.1, hk.2⟩)))); (case aB => exact (by repeat (first | (with_reducible first | exact HB.out | apply below_alloc | apply pw_below_drewN | apply below_drew1) | exact HB.out))); (case aF => exact (fun k_ hk => (.inr (Nat.le_trans (below_size (by repeat (first | (with_reducible first | exact HB.out | apply below_alloc | apply pw_below_drewN | apply below_drew1) | exact HB.out))) hk)))); (case aO => exact (by (with_reducible repeat (first | apply Kd.N_alloc | apply Kd.N_drewN | apply Kd.N_drew)); exact HO103.out)); (case aS => exact (below_size (by repeat (first | (with_reducible first | exact HB.out | apply below_alloc | apply pw_below_drewN | apply below_drew1) | exact HB.out)))); (case aL => have := LMc4.out; omega); intro v105 w16 ho hb hg hat; rw [← Ny104.out] at ho; have n0_ := Aside0.mk (Kd.V_afterv (ok := (fun k_ => (P0_ k_ ∨ w.heap.size ≤ k_))) (by (with_reducible repeat (first | apply Kd.V_alloc | apply Kd.V_drewN | apply Kd.V_drew)); exact HO0.out) hg hat); have n1_ := Aside0.mk (hb); have n2_ := Aside0.mk (ho); clear HO0; clear HB; clear HO103; have HO0 := n0_; have HB := n1_; have HO106 := n2_; clear n0_ n1_ n2_; clear ho hb hg hat; have p107 : 0 ≤ ((ji6) : Int) := of_decide_eq_true (by first | (with_reducible assumption) | assumption); have q107 : (ji6) < (l0.length : Int) := of_decide_eq_true (by first | (with_reducible assumption) | assumption); obtain ⟨ad107, A107_1, c107_1, e107, hx107_0, hx107_1, hl107_1, hi107_1⟩ := at_T144 (Kd.V_reads' HO0.out).2.2 (ji6) p107 q107; cases e107; obtain ⟨ce107, hce107, hMe107, hcc107⟩ := Kd.V_get HO0.out z144 (ji6) p107 (by first | exact q107 | exact of_decide_eq_true (by first | (with_reducible assumption) | assumption) | (have e_ := (Kd.V_reads' HO0.out).1; omega)); obtain ⟨ua107_1, uc107_1, rfl, ul107_1, ge107_1⟩ := k144_openF hMe107; have hv107_1 := hcc107 1 _ rfl; rw [add_field _ _ 1 (by omega)] at hv107_1; replace hv107_1 := Option.some.inj (hv107_1.symm.trans hx107_1); injection hv107_1 with hva_ hvn_ hvc_; rw [hva_] at ge107_1; rw [hvc_] at ul107_1; have HL107_1 := Aside0.mk (show Kd.V Kd.string 9 _ w.heap.size _ _ ((rd_T144 l0 (ji6)).f1) from Kd.V_mk ul107_1 ge107_1); clear hva_ hvn_ hvc_ ge107_1 ul107_1; clear hcc107 hce107; have HR107_1 := Aside0.mk hi107_1; have HC107_1 := Aside0.mk hl107_1; clear hi107_1 hl107_1; replace p107 := eq_true p107; replace q107 := eq_true q107) | ((with_reducible refine gate_dst (N := 30) rfl ?_); refine Kd.R_lit Kd.string _ 9 ?hg (N := 30) ?hd (xs := ([] : List ByteArray)) (inner := []) (ok := fun _ => True) (okp := fun _ => True) ?hr ?hp (fun _ hk => hk) trivial (Below.refl _ _) (Nat.le_refl _) (by simp) ?_; (case hd => rfl); (case hg => rfl); (case hr => first | (go_simp; done) | (go_simp; rfl)); (case hp => exact (Reps.none _ _)); intro v109 w17 ho18 hb hg_ hnew_; clear hg_ hnew_; (first | rw [← Ny108.out] at ho18 | (simp only [Int.reduceToNat] at ho18; rw [← Ny108.out] at ho18)); have n0_ := Aside0.mk (Kd.V_elder' (by (with_reducible repeat (first | apply Kd.V_alloc | apply Kd.V_drewN | apply Kd.V_drew)); exact HO0.out) (Kd.R_base ho18) hb); have n1_ := Aside0.mk (Kd.N_elder' (by (with_reducible repeat (first | apply Kd.N_alloc | apply Kd.N_drewN | apply Kd.N_drew)); exact HO106.out) (Kd.R_base ho18) hb); have n2_ := Aside0.mk (Kd.V_elder' (by (with_reducible repeat (first | apply Kd.V_alloc | apply Kd.V_drewN | apply Kd.V_drew)); exact HL107_1.out) (Kd.R_base ho18) hb); have n3_ := Aside0.mk (Kd.R_lower (Kd.R_newM (M := fun k_ => (w.heap.size ≤ k_)) ho18 (below_size (by repeat (first | (with_reducible first | exact HB.out | apply below_alloc | apply pw_below_drewN | apply below_drew1) | exact HB.out))) (fun k_ h_ => h_)) (below_size (by repeat (first | (with_reducible first | exact HB.out | apply below_alloc | apply pw_below_drewN | apply below_drew1) | exact HB.out)))); have n4_ := Aside0.mk (Kd.C_below (by repeat (first | (with_reducible exact HR107_1.out) | (with_reducible refine Kd.C_alloc ?_ _) | (with_reducible refine Kd.C_drewN ?_ _) | (with_reducible refine Kd.C_drew ?_) | exact HR107_1.out)) hb); have n5_ := Aside0.mk (below_step (by repeat (first | (with_reducible first | exact HB.out | apply below_alloc | apply pw_below_drewN | apply below_drew1) | exact HB.out)) hb); clear HO0; clear HO106; clear HL107_1; clear HR107_1; clear HB; have HO0 := n0_; have HO106 := n1_; have HL107_1 := n2_; have HO110 := n3_; have HR107_1 := n4_; have HB := n5_; clear n0_ n1_ n2_ n3_ n4_ n5_; clear hb ho18; have p111 : 0 ≤ ((ji6) : Int) := of_decide_eq_true (by first | (with_reducible assumption) | assumption); have q111 : (ji6) < (l0.length : Int) := of_decide_eq_true (by first | (with_reducible assumption) | assumption); obtain ⟨ad111, A111_1, c111_1, e111, hx111_0, hx111_1, hl111_1, hi111_1⟩ := at_T144 (Kd.V_reads' HO0.out).2.2 (ji6) p111 q111; obtain rfl : ad107 = ad111 := (by injection e111); obtain ⟨ce111, hce111, hMe111, hcc111⟩ := Kd.V_get HO0.out z144 (ji6) p111 (by first | exact q111 | exact of_decide_eq_true (by first | (with_reducible assumption) | assumption) | (have e_ := (Kd.V_reads' HO0.out).1; omega)); obtain ⟨ua111_1, uc111_1, rfl, ul111_1, ge111_1⟩ := k144_openF hMe111; have hv111_1 := hcc111 1 _ rfl; rw [add_field _ _ 1 (by omega)] at hv111_1; replace hv111_1 := Option.some.inj (hv111_1.symm.trans hx111_1); injection hv111_1 with hva_ hvn_ hvc_; rw [hva_] at ge111_1; rw [hvc_] at ul111_1; have HL111_1 := Aside0.mk (show Kd.V Kd.string 9 _ w.heap.size _ _ ((rd_T144 l0 (ji6)).f1) from Kd.V_mk ul111_1 ge111_1); clear hva_ hvn_ hvc_ ge111_1 ul111_1; clear hcc111 hce111; have HR111_1 := Aside0.mk hi111_1; have HC111_1 := Aside0.mk hl111_1; clear hi111_1 hl111_1; replace p111 := eq_true p111; replace q111 := eq_true q111) | ((with_reducible refine gate_builtin (b := .append) (xs := #[.tmp 30, .tmp 36]) rfl ?_); at_builtin; refine Kd.R_append_rows Kd.string (w0 := w) w.heap.size rfl (.tmp 30) (.tmp 36) 27 9 (.string ⟨#[]⟩) 16 rfl Try.underlying27 info9 rfl (by decide) (by omega) v109 y108 ((rd_T144 l0 (ji6)).f1) _ _ _ (fun k_ => (w.heap.size ≤ k_)) (fun _ => False) rfl rfl ?aO ?aR (fun _ _ h => h) (fun _ h => h.elim) ?aF ?aB ?aS ?aL ?_; (case aR => repeat (first | exact (by repeat (first | (with_reducible exact HR111_1.out) | (with_reducible refine Kd.C_alloc ?_ _) | (with_reducible refine Kd.C_drewN ?_ _) | (with_reducible refine Kd.C_drew ?_) | exact HR111_1.out)) | (with_reducible refine Kd.C_alloc ?_ _) | (with_reducible refine Kd.C_drewN ?_ _) | (with_reducible refine Kd.C_drew ?_))); (case aB => exact (by repeat (first | (with_reducible first | exact HB.out | apply below_alloc | apply pw_below_drewN | apply below_drew1) | exact HB.out))); (case aF => exact (fun k_ hk => (Nat.le_trans (below_size (by repeat (first | (with_reducible first | exact HB.out | apply below_alloc | apply pw_below_drewN | apply below_drew1) | exact HB.out))) hk))); (case aO => exact (by (with_reducible repeat (first | apply Kd.R_alloc | apply Kd.R_drewN | apply Kd.R_drew)); exact Kd.R_mono HO110.out (fun _ hk => hk.1))); (case aS => exact (below_size (by repeat (first | (with_reducible first | exact HB.out | apply below_alloc | apply pw_below_drewN | apply below_drew1) | exact HB.out)))); (case aL => have := LMc10.out; omega); intro v113 w19 ho hb hg hat; rw [← Ny112.out] at ho; have n0_ := Aside0.mk (Kd.V_afterv (ok := (fun k_ => (P0_ k_ ∨ w.heap.size ≤ k_) ∧ some k_ ≠ (v105 : Value).ownBlock)) (by (with_reducible repeat (first | apply Kd.V_alloc | apply Kd.V_drewN | apply Kd.V_drew)); exact HO0.out) hg hat); have n1_ := Aside0.mk (Kd.N_afterv (ok := (fun k_ => (P0_ k_ ∨ w.heap.size ≤ k_))) (by (with_reducible repeat (first | apply Kd.N_alloc | apply Kd.N_drewN | apply Kd.N_drew)); exact HO106.out) hg hat); have n2_ := Aside0.mk (Kd.V_afterv (ok := (fun k_ => (P0_ k_ ∨ w.heap.size ≤ k_) ∧ some k_ ≠ (v105 : Value).ownBlock)) (by (with_reducible repeat (first | apply Kd.V_alloc | apply Kd.V_drewN | apply Kd.V_drew)); exact HL107_1.out) hg hat); have n3_ := Aside0.mk (Kd.V_afterv (ok := (fun k_ => (P0_ k_ ∨ w.heap.size ≤ k_) ∧ some k_ ≠ (v105 : Value).ownBlock)) (by (with_reducible repeat (first | apply Kd.V_alloc | apply Kd.V_drewN | apply Kd.V_drew)); exact HL111_1.out) hg hat); have n4_ := Aside0.mk (hb); have n5_ := Aside0.mk (ho); clear HO0; clear HO106; clear HL107_1; clear HL111_1; clear HB; clear HO110; have HO0 := n0_; have HO106 := n1_; have HL107_1 := n2_; have HL111_1 := n3_; have HB := n4_; have HO114 := n5_; clear n0_ n1_ n2_ n3_ n4_ n5_; clear ho hb hg hat) | ((with_reducible refine gate_builtin (b := .append) (xs := #[.tmp 37, .tmp 39]) rfl ?_); at_builtin; refine Kd.R_append Kd.string (w0 := w) w.heap.size rfl (.tmp 37) (.tmp 39) 27 9 (.string ⟨#[]⟩) 16 rfl Try.underlying27 info9 rfl (by decide) (by omega) v113 y112 a2 [.string a2] (fun k_ => (w.heap.size ≤ k_)) (fun _ => False) rfl rfl ?aP (fun _ hk => hk.elim) ?aF ?aO ?aB ?aS ?aL ?_; (case aP => exact rfl); (case aB => exact (by repeat (first | (with_reducible first | exact HB.out | apply below_alloc | apply pw_below_drewN | apply below_drew1) | exact HB.out))); (case aF => exact (fun k_ hk => (Nat.le_trans (below_size (by repeat (first | (with_reducible first | exact HB.out | apply below_alloc | apply pw_below_drewN | apply below_drew1) | exact HB.out))) hk))); (case aO => exact (by (with_reducible repeat (first | apply Kd.R_alloc | apply Kd.R_drewN | apply Kd.R_drew)); exact HO114.out)); (case aS => exact (below_size (by repeat (first | (with_reducible first | exact HB.out | apply below_alloc | apply pw_below_drewN | apply below_drew1) | exact HB.out)))); (case aL => have := LMc11.out; omega); intro v116 w20 ho hb hg hat; rw [← Ny115.out] at ho; have n0_ := Aside0.mk (Kd.V_afterv (ok := (fun k_ => (P0_ k_ ∨ w.heap.size ≤ k_) ∧ some k_ ≠ (v105 : Value).ownBlock)) (by (with_reducible repeat (first | apply Kd.V_alloc | apply Kd.V_drewN | apply Kd.V_drew)); exact HO0.out) hg hat); have n1_ := Aside0.mk (Kd.N_afterv (ok := (fun k_ => (P0_ k_ ∨ w.heap.size ≤ k_))) (by (with_reducible repeat (first | apply Kd.N_alloc | apply Kd.N_drewN | apply Kd.N_drew)); exact HO106.out) hg hat); have n2_ := Aside0.mk (Kd.V_afterv (ok := (fun k_ => (P0_ k_ ∨ w.heap.size ≤ k_) ∧ some k_ ≠ (v105 : Value).ownBlock)) (by (with_reducible repeat (first | apply Kd.V_alloc | apply Kd.V_drewN | apply Kd.V_drew)); exact HL107_1.out) hg hat); have n3_ := Aside0.mk (Kd.V_afterv (ok := (fun k_ => (P0_ k_ ∨ w.heap.size ≤ k_) ∧ some k_ ≠ (v105 : Value).ownBlock)) (by (with_reducible repeat (first | apply Kd.V_alloc | apply Kd.V_drewN | apply Kd.V_drew)); exact HL111_1.out) hg hat); have n4_ := Aside0.mk (hb); have n5_ := Aside0.mk (ho); clear HO0; clear HO106; clear HL107_1; clear HL111_1; clear HB; clear HO114; have HO0 := n0_; have HO106 := n1_; have HL107_1 := n2_; have HL111_1 := n3_; have HB := n4_; have HO117 := n5_; clear n0_ n1_ n2_ n3_ n4_ n5_; clear ho hb hg hat; obtain ⟨Ao21, co21, eo21⟩ := Kd.R_slice HO117.out; subst eo21; have p13 : 0 ≤ ((ji6) : Int) := of_decide_eq_true (by first | (with_reducible assumption) | assumption); have q13 : ((ji6) : Int) < ((y104.length : Int) : Int) := of_decide_eq_true (by first | (with_reducible assumption) | assumption); obtain ⟨go13, co13, eo13, gb13, gl13, cl13, HG13⟩ := Kd.N_form HO106.out (by omega); (first | cases eo13 | (injection eo13 with ea_ en_ ec_; (first | subst ea_ | (injection ea_ with ea_; subst ea_)); subst ec_; clear en_)); have GB13 := Aside0.mk gb13; have GG13 := Aside0.mk HG13; clear gb13 gl13 HG13; obtain ⟨ce13, hcl13, hM13, hcc13, hfr13⟩ := Kd.N_elem HO106.out z144 ((ji6) : Int) p13 q13; obtain ⟨ua13_1, uc13_1, rfl, ul13_1, ge13_1⟩ := k144_openF hM13; have hx13_0 : w20.cell? ⟨go13, ((ji6) : Int).toNat * 2, none⟩ = some (.int .i64 ((rd_T144 y104 (ji6)).f0)) := hcc13 0 _ rfl; have hx13_1 : w20.cell? ⟨go13, ((ji6) : Int).toNat * 2 + 1, none⟩ = some (.slice ua13_1 ((rd_T144 y104 (ji6)).f1).length uc13_1) := hcc13 1 _ rfl; have hf13_0 : w20.frozen? ⟨go13, ((ji6) : Int).toNat * 2, none⟩ = false := hfr13 0; have hf13_1 : w20.frozen? ⟨go13, ((ji6) : Int).toNat * 2 + 1, none⟩ = false := hfr13 1; clear hcl13 hcc13 hfr13 hM13; replace p13 := eq_true p13; replace q13 := eq_true q13; have HX22 := Aside0.mk (show Kd.N k144 144 w20 w.heap.size (fun k_ => (P0_ k_ ∨ w.heap.size ≤ k_)) (.slice (some ⟨go13, 0, none⟩) y104.length co13) y104 from (by (with_reducible repeat (first | apply Kd.N_alloc | apply Kd.N_drewN | apply Kd.N_drew)); exact Kd.N_mono HO106.out (fun _ hk => hk.1))); obtain ⟨ce22, hcl22, hM22, hcc22, hfr22⟩ := Kd.N_elem HX22.out z144 ((ji6) : Int) (of_decide_eq_true (by first | (with_reducible assumption) | assumption)) (by have h_ : ((ji6) : Int) < ((y104.length : Int) : Int) := of_decide_eq_true (by first | (with_reducible assumption) | assumption); first | exact h_ | (have e_ := (Kd.N_reads' HO106.out).1; omega) | simpa using h_); obtain ⟨ua22_1, uc22_1, rfl, ul22_1, ge22_1⟩ := k144_openF hM22; have HP22 := Kd.N_seg HX22.out ((ji6) : Int) (of_decide_eq_true (by first | (with_reducible assumption) | assumption)) (by have h_ : ((ji6) : Int) < ((y104.length : Int) : Int) := of_decide_eq_true (by first | (with_reducible assumption) | assumption); first | exact h_ | (have e_ := (Kd.N_reads' HO106.out).1; omega) | simpa using h_) (seg := [.int .i64 a1, .slice Ao21 y115.length co21]) (j := 0) hcl22 hcc22 (show 2 ≤ 2 from by decide) (x' := (⟨a1, y115⟩ : S144)) (k144_mkF _ _ (⟨a1, y115⟩ : S144) (Kd.R_reads' (Kd.R_mono (ok' := (fun k_ => ((fun k_ => (P0_ k_ ∨ w.heap.size ≤ k_))) k_ ∧ k_ ≠ go13)) (Kd.R_apart' (HO117.out) (Kd.N_typed HO106.out) (by decide)) (fun k_ hk => ⟨(.inr (hk.1)), fun e_ => (hk.2) (by rw [e_]; rfl)⟩))).2.1 (Kd.R_F (Kd.R_mono (ok' := (fun k_ => ((fun k_ => (P0_ k_ ∨ w.heap.size ≤ k_))) k_ ∧ k_ ≠ go13)) (Kd.R_apart' (HO117.out) (Kd.N_typed HO106.out) (by decide)) (fun k_ hk => ⟨(.inr (hk.1)), fun e_ => (hk.2) (by rw [e_]; rfl)⟩)))) (fun _ hk => hk); have hx22_0 := hcc22 0 _ rfl; (try simp only [show (k144).sz = 2 from rfl, Nat.mul_one, Nat.add_zero] at hx22_0); have hf22_0 := hfr22 0; (try simp only [show (k144).sz = 2 from rfl, Nat.mul_one, Nat.add_zero] at hf22_0); have hx22_1 := hcc22 1 _ rfl; (try simp only [show (k144).sz = 2 from rfl, Nat.mul_one, Nat.add_zero] at hx22_1); have hf22_1 := hfr22 1; (try simp only [show (k144).sz = 2 from rfl, Nat.mul_one, Nat.add_zero] at hf22_1); clear hcl22 hcc22 hfr22 hM22) | ((with_reducible refine gate_store (t := 144) (p := 42) rfl ?_); refine store_event (t := 144) (p := 42) (v := ?vo_w23) (w1 := ((w20.setCell ⟨go13, ((ji6) : Int).toNat * 2, none⟩ (.int .i64 a1)).setCell ⟨go13, ((ji6) : Int).toNat * 2 + 1, none⟩ (.slice Ao21 y115.length co21))) ?hg ?ho ?hn ?hr ?_; (case ho => rfl); (case hg => rfl); (case hn => rfl); (case hr => first | (go_simp; done) | (go_simp; rfl)); intro w23 hw; have hg : w20.grownBy w23 (some go13) := (by rw [hw]; exact HP22.2); have hp_ : Kd.N k144 144 w23 w.heap.size (fun k_ => (P0_ k_ ∨ w.heap.size ≤ k_)) (.slice (some ⟨go13, 0, none⟩) y104.length co13) y118 := (by rw [hw, Ny118.out]; exact HP22.1); clear HP22; have n0_ := Aside0.mk (Kd.V_afterv (v := (.slice (some ⟨go13, 0, none⟩) y104.length co13)) (v1 := (.slice (some ⟨go13, 0, none⟩) y104.length co13)) (ok := (fun k_ => (P0_ k_ ∨ w.heap.size ≤ k_) ∧ some k_ ≠ (.slice Ao21 y115.length co21 : Value).ownBlock)) (by (with_reducible repeat (first | apply Kd.V_alloc | apply Kd.V_drewN | apply Kd.V_drew)); exact Kd.V_mono HO0.out (fun _ hk => ⟨⟨hk.1.1, hk.2⟩, hk.1.2⟩)) hg (.inl rfl)); have n1_ := Aside0.mk (hp_); have n2_ := Aside0.mk (Kd.V_afterv (v := (.slice (some ⟨go13, 0, none⟩) y104.length co13)) (v1 := (.slice (some ⟨go13, 0, none⟩) y104.length co13)) (ok := (fun k_ => (P0_ k_ ∨ w.heap.size ≤ k_) ∧ some k_ ≠ (.slice Ao21 y115.length co21 : Value).ownBlock)) (by (with_reducible repeat (first | apply Kd.V_alloc | apply Kd.V_drewN | apply Kd.V_drew)); exact Kd.V_mono HL107_1.out (fun _ hk => ⟨⟨hk.1.1, hk.2⟩, hk.1.2⟩)) hg (.inl rfl)); have n3_ := Aside0.mk (Kd.V_afterv (v := (.slice (some ⟨go13, 0, none⟩) y104.length co13)) (v1 := (.slice (some ⟨go13, 0, none⟩) y104.length co13)) (ok := (fun k_ => (P0_ k_ ∨ w.heap.size ≤ k_) ∧ some k_ ≠ (.slice Ao21 y115.length co21 : Value).ownBlock)) (by (with_reducible repeat (first | apply Kd.V_alloc | apply Kd.V_drewN | apply Kd.V_drew)); exact Kd.V_mono HL111_1.out (fun _ hk => ⟨⟨hk.1.1, hk.2⟩, hk.1.2⟩)) hg (.inl rfl)); have n4_ := Aside0.mk ((by rw [hw]; exact below_set (below_set (HB.out) GB13.out) GB13.out : Below w.heap.size w w23)); clear HO0; clear HO106; clear HL107_1; clear HL111_1; clear HB; clear HO117; have HO0 := n0_; have HO106 := n1_; have HL107_1 := n2_; have HL111_1 := n3_; have HB := n4_; clear n0_ n1_ n2_ n3_ n4_; clear hg hw hp_))
                  go_ret
                  exact ⟨_, by first | rfl | (simp [errW_none, errW_some] <;> rfl) | (simp only [← hji6]; first | rfl | (simp [errW_none, errW_some] <;> rfl)) | (simp [*, errW_none, errW_some] <;> rfl), by (with_reducible repeat (first | apply Kd.N_alloc | apply Kd.N_drewN | apply Kd.N_drew)); exact HO106.out, by repeat (first | (with_reducible first | exact HB.out | apply below_alloc | apply pw_below_drewN | apply below_drew1) | exact HB.out)⟩
                · rw [if_neg c12] at H
                  exact absurd H (by simp)
              · rw [if_neg c11] at H
                exact absurd H (by simp)
            · rw [if_neg c10] at H
              exact absurd H (by simp)
          · rw [if_neg c9] at H
            have c9b0 : (((rd_T144 l0 (ji6)).f0) == a1) = false := beq_eq_false_iff_ne.mpr c9
            have c9b1 : (((rd_T144 l0 (ji6)).f0) != a1) = true := bne_iff_ne.mpr c9
            obtain ⟨y119, hy119⟩ : ∃ y_ : List ByteArray, y_ = (([a2] : List ByteArray)) := ⟨_, rfl⟩
            replace H : (if y104.length < 4398046511104 then (some (y104 ++ [(⟨a1, y119⟩ : S144)])) else (none)) = some r := by first | (rw [hy119]; with_reducible exact H) | (have H2_ := (Option.bind_some _ _).symm.trans H; rw [hy119]; with_reducible exact H2_) | (have H2_ := (Option.bind_some _ _).symm.trans H; with_reducible exact H2_) | with_reducible exact H | (rw [hy119]; exact H) | exact H
            have Ny119 := Aside0.mk hy119
            clear hy119
            by_cases c24 : y104.length < 4398046511104
            · rw [if_pos c24] at H
              have LMc24 := Aside0.mk c24
              clear c24
              obtain ⟨y122, hy122⟩ : ∃ y_ : List (S144), y_ = (y104 ++ [(⟨a1, y119⟩ : S144)]) := ⟨_, rfl⟩
              replace H : (some y122) = some r := by first | (rw [hy122]; with_reducible exact H) | (have H2_ := (Option.bind_some _ _).symm.trans H; rw [hy122]; with_reducible exact H2_) | (have H2_ := (Option.bind_some _ _).symm.trans H; with_reducible exact H2_) | with_reducible exact H | (rw [hy122]; exact H) | exact H
              have Ny122 := Aside0.mk hy122
              clear hy122
              obtain rfl := Option.some.inj H
              go_enter Try.func89, Try.ntmps89
              go_wp2_with (first | ((with_reducible refine gate_dst (N := 11) rfl ?_); refine Kd.N_lit k144 _ 144 ?hg (N' := 11) ?hd (xs := ([] : List (S144))) (inner := []) (ok := (fun k_ => (P0_ k_ ∨ w.heap.size ≤ k_))) (okp := (fun k_ => (P0_ k_ ∨ w.heap.size ≤ k_))) ?hr ?hp (fun _ hk => hk) ((show ∀ k_, w.heap.size ≤ k_ → (fun k_ => (P0_ k_ ∨ w.heap.size ≤ k_)) k_ from fun k_ hk => (.inr (Nat.le_trans (below_size (by repeat (first | (with_reducible first | exact HB.out | apply below_alloc | apply pw_below_drewN | apply below_drew1) | exact HB.out))) hk))) _ (Nat.le_refl _)) (Below.refl _ _) (Nat.le_refl _) (by simp) ?_; (case hd => rfl); (case hg => rfl); (case hr => first | (go_simp; done) | (go_simp; rfl)); (case hp => exact (Reps.none _ _)); intro v102 w25 ho26 hb hg_ hnew_; clear hg_ hnew_; (first | rw [← Ny101.out] at ho26 | (simp only [Int.reduceToNat] at ho26; rw [← Ny101.out] at ho26)); have n0_ := Aside0.mk (Kd.V_elder' (by (with_reducible repeat (first | apply Kd.V_alloc | apply Kd.V_drewN | apply Kd.V_drew)); exact HO0.out) (Kd.N_base ho26) hb); have n1_ := Aside0.mk (Kd.N_lower ho26 (below_size (by repeat (first | (with_reducible first | exact HB.out | apply below_alloc | apply pw_below_drewN | apply below_drew1) | exact HB.out)))); have n2_ := Aside0.mk (below_step (by repeat (first | (with_reducible first | exact HB.out | apply below_alloc | apply pw_below_drewN | apply below_drew1) | exact HB.out)) hb); clear HO0; clear HB; have HO0 := n0_; have HO103 := n1_; have HB := n2_; clear n0_ n1_ n2_; clear hb ho26) | ((with_reducible refine gate_builtin (b := .append) (xs := #[.tmp 11, .tmp 12]) rfl ?_); at_builtin; refine Kd.N_append_rows k144 (w0 := w) w.heap.size rfl (.tmp 11) (.tmp 12) 48 144 (.agg #[(.int .i64 0), (.slice none 0 0)]) 32 rfl Try.underlying48 info144 rfl (by decide) (by omega) v102 y101 l0 _ _ _ (fun k_ => (P0_ k_ ∨ w.heap.size ≤ k_)) (fun k_ => ((fun k_ => (P0_ k_ ∨ w.heap.size ≤ k_))) k_ ∧ some k_ ≠ (v102 : Value).ownBlock) rfl rfl ?aO ?aR (fun _ hk => hk) ?aF ?aB ?aS ?aL ?_; (case aR => exact (by skip; exact Kd.V_F (Kd.V_mono (ok' := (fun k_ => ((fun k_ => (P0_ k_ ∨ w.heap.size ≤ k_))) k_ ∧ some k_ ≠ (v102 : Value).ownBlock)) (HO0.out) (fun k_ hk => ⟨hk.1, hk.2⟩)))); (case aB => exact (by repeat (first | (with_reducible first | exact HB.out | apply below_alloc | apply pw_below_drewN | apply below_drew1) | exact HB.out))); (case aF => exact (fun k_ hk => (.inr (Nat.le_trans (below_size (by repeat (first | (with_reducible first | exact HB.out | apply below_alloc | apply pw_below_drewN | apply below_drew1) | exact HB.out))) hk)))); (case aO => exact (by (with_reducible repeat (first | apply Kd.N_alloc | apply Kd.N_drewN | apply Kd.N_drew)); exact HO103.out)); (case aS => exact (below_size (by repeat (first | (with_reducible first | exact HB.out | apply below_alloc | apply pw_below_drewN | apply below_drew1) | exact HB.out)))); (case aL => have := LMc4.out; omega); intro v105 w27 ho hb hg hat; rw [← Ny104.out] at ho; have n0_ := Aside0.mk (Kd.V_afterv (ok := (fun k_ => (P0_ k_ ∨ w.heap.size ≤ k_))) (by (with_reducible repeat (first | apply Kd.V_alloc | apply Kd.V_drewN | apply Kd.V_drew)); exact HO0.out) hg hat); have n1_ := Aside0.mk (hb); have n2_ := Aside0.mk (ho); clear HO0; clear HB; clear HO103; have HO0 := n0_; have HB := n1_; have HO106 := n2_; clear n0_ n1_ n2_; clear ho hb hg hat; have p107 : 0 ≤ ((ji6) : Int) := of_decide_eq_true (by first | (with_reducible assumption) | assumption); have q107 : (ji6) < (l0.length : Int) := of_decide_eq_true (by first | (with_reducible assumption) | assumption); obtain ⟨ad107, A107_1, c107_1, e107, hx107_0, hx107_1, hl107_1, hi107_1⟩ := at_T144 (Kd.V_reads' HO0.out).2.2 (ji6) p107 q107; cases e107; obtain ⟨ce107, hce107, hMe107, hcc107⟩ := Kd.V_get HO0.out z144 (ji6) p107 (by first | exact q107 | exact of_decide_eq_true (by first | (with_reducible assumption) | assumption) | (have e_ := (Kd.V_reads' HO0.out).1; omega)); obtain ⟨ua107_1, uc107_1, rfl, ul107_1, ge107_1⟩ := k144_openF hMe107; have hv107_1 := hcc107 1 _ rfl; rw [add_field _ _ 1 (by omega)] at hv107_1; replace hv107_1 := Option.some.inj (hv107_1.symm.trans hx107_1); injection hv107_1 with hva_ hvn_ hvc_; rw [hva_] at ge107_1; rw [hvc_] at ul107_1; have HL107_1 := Aside0.mk (show Kd.V Kd.string 9 _ w.heap.size _ _ ((rd_T144 l0 (ji6)).f1) from Kd.V_mk ul107_1 ge107_1); clear hva_ hvn_ hvc_ ge107_1 ul107_1; clear hcc107 hce107; have HR107_1 := Aside0.mk hi107_1; have HC107_1 := Aside0.mk hl107_1; clear hi107_1 hl107_1; replace p107 := eq_true p107; replace q107 := eq_true q107) | ((with_reducible refine gate_dst (N := 47) rfl ?_); refine Kd.R_lit Kd.string _ 9 ?hg (N := 47) ?hd (xs := ([a2] : List ByteArray)) (inner := [.string a2]) (ok := fun _ => True) (okp := fun _ => True) ?hr ?hp (fun _ hk => hk) trivial (Below.refl _ _) (Nat.le_refl _) (by simp) ?_; (case hd => rfl); (case hg => rfl); (case hr => first | (go_simp; done) | (go_simp; rfl)); (case hp => exact (Reps.one (show Kd.M Kd.string _ _ _ a2 [.string a2] from rfl) (Reps.none _ _))); intro v120 w28 ho29 hb hg_ hnew_; clear hg_ hnew_; (first | rw [← Ny119.out] at ho29 | (simp only [Int.reduceToNat] at ho29; rw [← Ny119.out] at ho29)); have n0_ := Aside0.mk (Kd.V_elder' (by (with_reducible repeat (first | apply Kd.V_alloc | apply Kd.V_drewN | apply Kd.V_drew)); exact HO0.out) (Kd.R_base ho29) hb); have n1_ := Aside0.mk (Kd.N_elder' (by (with_reducible repeat (first | apply Kd.N_alloc | apply Kd.N_drewN | apply Kd.N_drew)); exact HO106.out) (Kd.R_base ho29) hb); have n2_ := Aside0.mk (Kd.V_elder' (by (with_reducible repeat (first | apply Kd.V_alloc | apply Kd.V_drewN | apply Kd.V_drew)); exact HL107_1.out) (Kd.R_base ho29) hb); have n3_ := Aside0.mk (Kd.R_lower (Kd.R_newM (M := fun k_ => (w.heap.size ≤ k_)) ho29 (below_size (by repeat (first | (with_reducible first | exact HB.out | apply below_alloc | apply pw_below_drewN | apply below_drew1) | exact HB.out))) (fun k_ h_ => h_)) (below_size (by repeat (first | (with_reducible first | exact HB.out | apply below_alloc | apply pw_below_drewN | apply below_drew1) | exact HB.out)))); have n4_ := Aside0.mk (Kd.C_below (by repeat (first | (with_reducible exact HR107_1.out) | (with_reducible refine Kd.C_alloc ?_ _) | (with_reducible refine Kd.C_drewN ?_ _) | (with_reducible refine Kd.C_drew ?_) | exact HR107_1.out)) hb); have n5_ := Aside0.mk (below_step (by repeat (first | (with_reducible first | exact HB.out | apply below_alloc | apply pw_below_drewN | apply below_drew1) | exact HB.out)) hb); clear HO0; clear HO106; clear HL107_1; clear HR107_1; clear HB; have HO0 := n0_; have HO106 := n1_; have HL107_1 := n2_; have HO121 := n3_; have HR107_1 := n4_; have HB := n5_; clear n0_ n1_ n2_ n3_ n4_ n5_; clear hb ho29; obtain ⟨Ao30, co30, eo30⟩ := Kd.R_slice HO121.out; subst eo30) | ((with_reducible refine gate_builtin (b := .append) (xs := #[.tmp 44, .tmp 49]) rfl ?_); at_builtin; refine Kd.N_append k144 (w0 := w) w.heap.size rfl (.tmp 44) (.tmp 49) 48 144 (.agg #[(.int .i64 0), (.slice none 0 0)]) 32 rfl Try.underlying48 info144 rfl (by decide) (by omega) v105 y104 (⟨a1, y119⟩ : S144) [.int .i64 a1, .slice Ao30 y119.length co30] (fun k_ => (P0_ k_ ∨ w.heap.size ≤ k_)) (fun k_ => ((fun k_ => (P0_ k_ ∨ w.heap.size ≤ k_))) k_ ∧ some k_ ≠ (v105 : Value).ownBlock) rfl rfl ?aP (fun _ hk => hk) ?aF ?aO ?aB ?aS ?aL ?_; (case aP => exact (k144_mkF _ _ (⟨a1, y119⟩ : S144) (Kd.R_reads' (Kd.R_mono (ok' := (fun k_ => ((fun k_ => (P0_ k_ ∨ w.heap.size ≤ k_))) k_ ∧ some k_ ≠ (v105 : Value).ownBlock)) (Kd.R_apart' (HO121.out) (Kd.N_typed HO106.out) (by decide)) (fun k_ hk => ⟨(.inr (hk.1.1)), hk.2⟩))).2.1 (Kd.R_F (Kd.R_mono (ok' := (fun k_ => ((fun k_ => (P0_ k_ ∨ w.heap.size ≤ k_))) k_ ∧ some k_ ≠ (v105 : Value).ownBlock)) (Kd.R_apart' (HO121.out) (Kd.N_typed HO106.out) (by decide)) (fun k_ hk => ⟨(.inr (hk.1.1)), hk.2⟩))))); (case aB => exact (by repeat (first | (with_reducible first | exact HB.out | apply below_alloc | apply pw_below_drewN | apply below_drew1) | exact HB.out))); (case aF => exact (fun k_ hk => (.inr (Nat.le_trans (below_size (by repeat (first | (with_reducible first | exact HB.out | apply below_alloc | apply pw_below_drewN | apply below_drew1) | exact HB.out))) hk)))); (case aO => exact (by (with_reducible repeat (first | apply Kd.N_alloc | apply Kd.N_drewN | apply Kd.N_drew)); exact Kd.N_mono HO106.out (fun _ hk => hk.1))); (case aS => exact (below_size (by repeat (first | (with_reducible first | exact HB.out | apply below_alloc | apply pw_below_drewN | apply below_drew1) | exact HB.out)))); (case aL => have := LMc24.out; omega); intro v123 w31 ho hb hg hat; rw [← Ny122.out] at ho; have n0_ := Aside0.mk (Kd.V_afterv (ok := (fun k_ => (P0_ k_ ∨ w.heap.size ≤ k_) ∧ some k_ ≠ (.slice Ao30 y119.length co30 : Value).ownBlock)) (by (with_reducible repeat (first | apply Kd.V_alloc | apply Kd.V_drewN | apply Kd.V_drew)); exact Kd.V_mono HO0.out (fun _ hk => ⟨⟨hk.1.1, hk.2⟩, hk.1.2⟩)) hg hat); have n1_ := Aside0.mk (Kd.V_afterv (ok := (fun k_ => (P0_ k_ ∨ w.heap.size ≤ k_) ∧ some k_ ≠ (.slice Ao30 y119.length co30 : Value).ownBlock)) (by (with_reducible repeat (first | apply Kd.V_alloc | apply Kd.V_drewN | apply Kd.V_drew)); exact Kd.V_mono HL107_1.out (fun _ hk => ⟨⟨hk.1.1, hk.2⟩, hk.1.2⟩)) hg hat); have n2_ := Aside0.mk (hb); have n3_ := Aside0.mk (ho); clear HO0; clear HL107_1; clear HB; clear HO106; clear HO121; have HO0 := n0_; have HL107_1 := n1_; have HB := n2_; have HO124 := n3_; clear n0_ n1_ n2_ n3_; clear ho hb hg hat))
              go_ret
              exact ⟨_, by first | rfl | (simp [errW_none, errW_some] <;> rfl) | (simp only [← hji6]; first | rfl | (simp [errW_none, errW_some] <;> rfl)) | (simp [*, errW_none, errW_some] <;> rfl), by (with_reducible repeat (first | apply Kd.N_alloc | apply Kd.N_drewN | apply Kd.N_drew)); exact HO124.out, by repeat (first | (with_reducible first | exact HB.out | apply below_alloc | apply pw_below_drewN | apply below_drew1) | exact HB.out)⟩
            · rw [if_neg c24] at H
              exact absurd H (by simp)
        · rw [if_neg c8] at H
          exact absurd H (by simp)
      · rw [if_neg c7] at H
        exact absurd H (by simp)
    · rw [if_neg c5] at H
      have c5b0 : decide (0 < (l0.length : Int)) = false := decide_eq_false c5
      have c5b1 : decide (0 < l0.length) = false := decide_eq_false (by omega)
      clear c5
      obtain ⟨y125, hy125⟩ : ∃ y_ : List ByteArray, y_ = (([a2] : List ByteArray)) := ⟨_, rfl⟩
      replace H : (if y104.length < 4398046511104 then (some (y104 ++ [(⟨a1, y125⟩ : S144)])) else (none)) = some r := by first | (rw [hy125]; with_reducible exact H) | (have H2_ := (Option.bind_some _ _).symm.trans H; rw [hy125]; with_reducible exact H2_) | (have H2_ := (Option.bind_some _ _).symm.trans H; with_reducible exact H2_) | with_reducible exact H | (rw [hy125]; exact H) | exact H
      have Ny125 := Aside0.mk hy125
      clear hy125
      by_cases c32 : y104.length < 4398046511104
      · rw [if_pos c32] at H
        have LMc32 := Aside0.mk c32
        clear c32
        obtain ⟨y128, hy128⟩ : ∃ y_ : List (S144), y_ = (y104 ++ [(⟨a1, y125⟩ : S144)]) := ⟨_, rfl⟩
        replace H : (some y128) = some r := by first | (rw [hy128]; with_reducible exact H) | (have H2_ := (Option.bind_some _ _).symm.trans H; rw [hy128]; with_reducible exact H2_) | (have H2_ := (Option.bind_some _ _).symm.trans H; with_reducible exact H2_) | with_reducible exact H | (rw [hy128]; exact H) | exact H
        have Ny128 := Aside0.mk hy128
        clear hy128
        obtain rfl := Option.some.inj H
        go_enter Try.func89, Try.ntmps89
        go_wp2_with (first | ((with_reducible refine gate_dst (N := 11) rfl ?_); refine Kd.N_lit k144 _ 144 ?hg (N' := 11) ?hd (xs := ([] : List (S144))) (inner := []) (ok := (fun k_ => (P0_ k_ ∨ w.heap.size ≤ k_))) (okp := (fun k_ => (P0_ k_ ∨ w.heap.size ≤ k_))) ?hr ?hp (fun _ hk => hk) ((show ∀ k_, w.heap.size ≤ k_ → (fun k_ => (P0_ k_ ∨ w.heap.size ≤ k_)) k_ from fun k_ hk => (.inr (Nat.le_trans (below_size (by repeat (first | (with_reducible first | exact HB.out | apply below_alloc | apply pw_below_drewN | apply below_drew1) | exact HB.out))) hk))) _ (Nat.le_refl _)) (Below.refl _ _) (Nat.le_refl _) (by simp) ?_; (case hd => rfl); (case hg => rfl); (case hr => first | (go_simp; done) | (go_simp; rfl)); (case hp => exact (Reps.none _ _)); intro v102 w33 ho34 hb hg_ hnew_; clear hg_ hnew_; (first | rw [← Ny101.out] at ho34 | (simp only [Int.reduceToNat] at ho34; rw [← Ny101.out] at ho34)); have n0_ := Aside0.mk (Kd.V_elder' (by (with_reducible repeat (first | apply Kd.V_alloc | apply Kd.V_drewN | apply Kd.V_drew)); exact HO0.out) (Kd.N_base ho34) hb); have n1_ := Aside0.mk (Kd.N_lower ho34 (below_size (by repeat (first | (with_reducible first | exact HB.out | apply below_alloc | apply pw_below_drewN | apply below_drew1) | exact HB.out)))); have n2_ := Aside0.mk (below_step (by repeat (first | (with_reducible first | exact HB.out | apply below_alloc | apply pw_below_drewN | apply below_drew1) | exact HB.out)) hb); clear HO0; clear HB; have HO0 := n0_; have HO103 := n1_; have HB := n2_; clear n0_ n1_ n2_; clear hb ho34) | ((with_reducible refine gate_builtin (b := .append) (xs := #[.tmp 11, .tmp 12]) rfl ?_); at_builtin; refine Kd.N_append_rows k144 (w0 := w) w.heap.size rfl (.tmp 11) (.tmp 12) 48 144 (.agg #[(.int .i64 0), (.slice none 0 0)]) 32 rfl Try.underlying48 info144 rfl (by decide) (by omega) v102 y101 l0 _ _ _ (fun k_ => (P0_ k_ ∨ w.heap.size ≤ k_)) (fun k_ => ((fun k_ => (P0_ k_ ∨ w.heap.size ≤ k_))) k_ ∧ some k_ ≠ (v102 : Value).ownBlock) rfl rfl ?aO ?aR (fun _ hk => hk) ?aF ?aB ?aS ?aL ?_; (case aR => exact (by skip; exact Kd.V_F (Kd.V_mono (ok' := (fun k_ => ((fun k_ => (P0_ k_ ∨ w.heap.size ≤ k_))) k_ ∧ some k_ ≠ (v102 : Value).ownBlock)) (HO0.out) (fun k_ hk => ⟨hk.1, hk.2⟩)))); (case aB => exact (by repeat (first | (with_reducible first | exact HB.out | apply below_alloc | apply pw_below_drewN | apply below_drew1) | exact HB.out))); (case aF => exact (fun k_ hk => (.inr (Nat.le_trans (below_size (by repeat (first | (with_reducible first | exact HB.out | apply below_alloc | apply pw_below_drewN | apply below_drew1) | exact HB.out))) hk)))); (case aO => exact (by (with_reducible repeat (first | apply Kd.N_alloc | apply Kd.N_drewN | apply Kd.N_drew)); exact HO103.out)); (case aS => exact (below_size (by repeat (first | (with_reducible first | exact HB.out | apply below_alloc | apply pw_below_drewN | apply below_drew1) | exact HB.out)))); (case aL => have := LMc4.out; omega); intro v105 w35 ho hb hg hat; rw [← Ny104.out] at ho; have n0_ := Aside0.mk (Kd.V_afterv (ok := (fun k_ => (P0_ k_ ∨ w.heap.size ≤ k_))) (by (with_reducible repeat (first | apply Kd.V_alloc | apply Kd.V_drewN | apply Kd.V_drew)); exact HO0.out) hg hat); have n1_ := Aside0.mk (hb); have n2_ := Aside0.mk (ho); clear HO0; clear HB; clear HO103; have HO0 := n0_; have HB := n1_; have HO106 := n2_; clear n0_ n1_ n2_; clear ho hb hg hat) | ((with_reducible refine gate_dst (N := 47) rfl ?_); refine Kd.R_lit Kd.string _ 9 ?hg (N := 47) ?hd (xs := ([a2] : List ByteArray)) (inner := [.string a2]) (ok := fun _ => True) (okp := fun _ => True) ?hr ?hp (fun _ hk => hk) trivial (Below.refl _ _) (Nat.le_refl _) (by simp) ?_; (case hd => rfl); (case hg => rfl); (case hr => first | (go_simp; done) | (go_simp; rfl)); (case hp => exact (Reps.one (show Kd.M Kd.string _ _ _ a2 [.string a2] from rfl) (Reps.none _ _))); intro v126 w36 ho37 hb hg_ hnew_; clear hg_ hnew_; (first | rw [← Ny125.out] at ho37 | (simp only [Int.reduceToNat] at ho37; rw [← Ny125.out] at ho37)); have n0_ := Aside0.mk (Kd.V_elder' (by (with_reducible repeat (first | apply Kd.V_alloc | apply Kd.V_drewN | apply Kd.V_drew)); exact HO0.out) (Kd.R_base ho37) hb); have n1_ := Aside0.mk (Kd.N_elder' (by (with_reducible repeat (first | apply Kd.N_alloc | apply Kd.N_drewN | apply Kd.N_drew)); exact HO106.out) (Kd.R_base ho37) hb); have n2_ := Aside0.mk (Kd.R_lower (Kd.R_newM (M := fun k_ => (w.heap.size ≤ k_)) ho37 (below_size (by repeat (first | (with_reducible first | exact HB.out | apply below_alloc | apply pw_below_drewN | apply below_drew1) | exact HB.out))) (fun k_ h_ => h_)) (below_size (by repeat (first | (with_reducible first | exact HB.out | apply below_alloc | apply pw_below_drewN | apply below_drew1) | exact HB.out)))); have n3_ := Aside0.mk (below_step (by repeat (first | (with_reducible first | exact HB.out | apply below_alloc | apply pw_below_drewN | apply below_drew1) | exact HB.out)) hb); clear HO0; clear HO106; clear HB; have HO0 := n0_; have HO106 := n1_; have HO127 := n2_; have HB := n3_; clear n0_ n1_ n2_ n3_; clear hb ho37; obtain ⟨Ao38, co38, eo38⟩ := Kd.R_slice HO127.out; subst eo38) | ((with_reducible refine gate_builtin (b := .append) (xs := #[.tmp 44, .tmp 49]) rfl ?_); at_builtin; refine Kd.N_append k144 (w0 := w) w.heap.size rfl (.tmp 44) (.tmp 49) 48 144 (.agg #[(.int .i64 0), (.slice none 0 0)]) 32 rfl Try.underlying48 info144 rfl (by decide) (by omega) v105 y104 (⟨a1, y125⟩ : S144) [.int .i64 a1, .slice Ao38 y125.length co38] (fun k_ => (P0_ k_ ∨ w.heap.size ≤ k_)) (fun k_ => ((fun k_ => (P0_ k_ ∨ w.heap.size ≤ k_))) k_ ∧ some k_ ≠ (v105 : Value).ownBlock) rfl rfl ?aP (fun _ hk => hk) ?aF ?aO ?aB ?aS ?aL ?_; (case aP => exact (k144_mkF _ _ (⟨a1, y125⟩ : S144) (Kd.R_reads' (Kd.R_mono (ok' := (fun k_ => ((fun k_ => (P0_ k_ ∨ w.heap.size ≤ k_))) k_ ∧ some k_ ≠ (v105 : Value).ownBlock)) (Kd.R_apart' (HO127.out) (Kd.N_typed HO106.out) (by decide)) (fun k_ hk => ⟨(.inr (hk.1.1)), hk.2⟩))).2.1 (Kd.R_F (Kd.R_mono (ok' := (fun k_ => ((fun k_ => (P0_ k_ ∨ w.heap.size ≤ k_))) k_ ∧ some k_ ≠ (v105 : Value).ownBlock)) (Kd.R_apart' (HO127.out) (Kd.N_typed HO106.out) (by decide)) (fun k_ hk => ⟨(.inr (hk.1.1)), hk.2⟩))))); (case aB => exact (by repeat (first | (with_reducible first | exact HB.out | apply below_alloc | apply pw_below_drewN | apply below_drew1) | exact HB.out))); (case aF => exact (fun k_ hk => (.inr (Nat.le_trans (below_size (by repeat (first | (with_reducible first | exact HB.out | apply below_alloc | apply pw_below_drewN | apply below_drew1) | exact HB.out))) hk)))); (case aO => exact (by (with_reducible repeat (first | apply Kd.N_alloc | apply Kd.N_drewN | apply Kd.N_drew)); exact Kd.N_mono HO106.out (fun _ hk => hk.1))); (case aS => exact (below_size (by repeat (first | (with_reducible first | exact HB.out | apply below_alloc | apply pw_below_drewN | apply below_drew1) | exact HB.out)))); (case aL => have := LMc32.out; omega); intro v129 w39 ho hb hg hat; rw [← Ny128.out] at ho; have n0_ := Aside0.mk (Kd.V_afterv (ok := (fun k_ => (P0_ k_ ∨ w.heap.size ≤ k_) ∧ some k_ ≠ (.slice Ao38 y125.length co38 : Value).ownBlock)) (by (with_reducible repeat (first | apply Kd.V_alloc | apply Kd.V_drewN | apply Kd.V_drew)); exact Kd.V_mono HO0.out (fun _ hk => ⟨⟨hk.1.1, hk.2⟩, hk.1.2⟩)) hg hat); have n1_ := Aside0.mk (hb); have n2_ := Aside0.mk (ho); clear HO0; clear HB; clear HO106; clear HO127; have HO0 := n0_; have HB := n1_; have HO130 := n2_; clear n0_ n1_ n2_; clear ho hb hg hat))
        go_ret
        exact ⟨_, by first | rfl | (simp [errW_none, errW_some] <;> rfl) | (simp [*, errW_none, errW_some] <;> rfl), by (with_reducible repeat (first | apply Kd.N_alloc | apply Kd.N_drewN | apply Kd.N_drew)); exact HO130.out, by repeat (first | (with_reducible first | exact HB.out | apply below_alloc | apply pw_below_drewN | apply below_drew1) | exact HB.out)⟩
      · rw [if_neg c32] at H
        exact absurd H (by simp)
  · rw [if_neg c4] at H
    exact absurd H (by simp)

end Go.Proofs.Ytadafplbgophfaa.PA
end
section
/- tripartiteref04.Of, walked by hand: the script that a matching tells, text by text. -/
namespace Go.Proofs.Ytadafplbgophfaa.PA
set_option linter.unusedSimpArgs false
set_option linter.unusedVariables false
open Go.RowKit Go.Proofs.YtadafplbgophfaaW.PrintWords Go.Proofs.YtadafplbgophfaaW.PrintLast Go.Proofs.YtadafplbgophfaaW.PrintMore

/-- texts come to a script, one by one -/
def ones (kind : Int) : List ByteArray → List S144 → Option (List S144)
  | [], out => some out
  | s :: t, out => (tripartiteref04_one.f out kind s).bind (ones kind t)
def rofGo (a b : List ByteArray) : List S37 → Int → Int → List S144 → Option (List S144)
  | [], i, k, out => if 0 ≤ i ∧ i ≤ a.length ∧ 0 ≤ k ∧ k ≤ b.length then (ones 1 (a.drop i.toNat) out).bind fun o1 => ones 2 (b.drop k.toNat) o1 else none
  | p :: l, i, k, out => if 0 ≤ i ∧ i ≤ p.f0 ∧ p.f0 < a.length ∧ 0 ≤ k ∧ k ≤ p.f1 ∧ p.f1 < b.length then
      (ones 1 ((a.take p.f0.toNat).drop i.toNat) out).bind fun o1 => (ones 2 ((b.take p.f1.toNat).drop k.toNat) o1).bind fun o2 => (tripartiteref04_one.f o2 0 (rdOf ByteArray.empty a p.f0)).bind fun o3 => rofGo a b l (p.f0 + 1) (p.f1 + 1) o3 else none
def tripartiteref04_Of.f (k : Nat) (a b : List ByteArray) (l : List S37) : Option (List S144 × Bool) :=
  if a.length ≤ 1000000000 ∧ b.length ≤ 1000000000 ∧ l.length ≤ 1000000000 then (tripartiteref01_Number.f k [a, b]).bind fun n => if n.length = 2 then (tripartiteref03_Right.f k (rd_L6 n 0) (rd_L6 n 1) l).bind fun ok => if ok then (rofGo a b l 0 0 []).map fun r => (r, true) else some ([], false) else none else none

abbrev N35 (w wr : World) (v : Value) (out : List S144) : Prop := Kd.N k144 144 wr w.heap.size (fun _ => True) v out
theorem N35.asV {w wr : World} {v : Value} {out : List S144} (h : N35 w wr v out) : ∃ A c, v = .slice A out.length c ∧ Kd.V k144 144 wr wr.heap.size (fun _ => True) (.slice A out.length c) out := by
  obtain ⟨A, c, rfl, hl, _⟩ := Kd.N_reads h
  exact ⟨A, c, rfl, A, c, rfl, hl, Kd.N_F h⟩
theorem N35.then_ {w wr w2 : World} {v : Value} {out : List S144} (hb : w.heap.size ≤ wr.heap.size) (h : Kd.N k144 144 w2 wr.heap.size (fun k_ => ((fun _ => True) k_ ∨ wr.heap.size ≤ k_)) v out) : N35 w w2 v out :=
  Kd.N_lower (Kd.N_mono h (fun _ _ => trivial)) hb

/-- Where the inner loops stand: the pair's block, the script so far. -/
structure In35 (w W : World) (gt : Nat) (tA tB : Int) (v : Value) (out : List S144) : Prop where
  below : Below w.heap.size w W
  blk : W.heap[gt]? = some (.cells #[.int .i64 tA, .int .i64 tB] 37 (0, 0))
  row : N35 w W v out
theorem In35.start {w wr : World} {tA tB : Int} {v : Value} {out : List S144} (hb : Below w.heap.size w wr) (hn : N35 w wr v out) : In35 w (wr.alloc (.cells #[.int .i64 tA, .int .i64 tB] 37 (0, 0))) wr.heap.size tA tB v out :=
  ⟨below_alloc hb _, blk_new wr _, Kd.N_alloc hn _⟩
theorem In35.step {w W W2 : World} {gt : Nat} {tA tB : Int} {v v2 : Value} {out out2 : List S144} (h : In35 w W gt tA tB v out) (hN : Kd.N k144 144 W2 W.heap.size (fun k_ => ((fun _ => True) k_ ∨ W.heap.size ≤ k_)) v2 out2) (hB : Below W.heap.size W W2) : In35 w W2 gt tA tB v2 out2 :=
  ⟨below_step h.below hB, blk_below h.blk hB, N35.then_ h.below.size hN⟩
theorem seg_cons (l : List ByteArray) (i tt : Int) (h0 : 0 ≤ i) (h1 : i < tt) (h2 : tt ≤ l.length) : (l.take tt.toNat).drop i.toNat = rdOf ByteArray.empty l i :: (l.take tt.toNat).drop (i + 1).toNat := by
  have hlt : i.toNat < (l.take tt.toNat).length := by rw [List.length_take]; omega
  rw [List.drop_eq_getElem_cons hlt, show (i + 1).toNat = i.toNat + 1 by omega]
  have hl : i.toNat < l.length := by omega
  simp [rdOf, List.getD_eq_getElem?_getD, hl]
theorem seg_nil (l : List ByteArray) (m : Nat) : (l.take m).drop m = [] := by
  rw [List.drop_eq_nil_iff, List.length_take]; omega

set_option maxHeartbeats 4000000 in
set_option maxRecDepth 100000 in
theorem tripartiteref04_Of.calls (k : Nat) (A0 : Option Addr) (c0 : Nat) (l0 : List ByteArray) (A1 : Option Addr) (c1 : Nat) (l1 : List ByteArray) (A2 : Option Addr) (c2 : Nat) (l2 : List S37) (r1 : List S144) (r2 : Bool) (w : World) (hr0 : Kd.C Kd.string w A0 l0.length l0) (hc0 : l0.length ≤ c0) (hr1 : Kd.C Kd.string w A1 l1.length l1) (hc1 : l1.length ≤ c1) (hr2 : Kd.C k37 w A2 l2.length l2) (hc2 : l2.length ≤ c2) (h : tripartiteref04_Of.f k l0 l1 l2 = some (r1, r2)) :
    Calls Try.prog 35 #[.slice A0 l0.length c0, .slice A1 l1.length c1, .slice A2 l2.length c2] w fun e w' => ∃ v0_ : Value, e = .returned (.tuple #[v0_, .bool r2]) ∧ Kd.N k144 144 w' w.heap.size (fun _ => True) v0_ r1 ∧ Below w.heap.size w w' := by
  unfold tripartiteref04_Of.f at h
  split at h
  case isFalse => cases h
  rename_i hG
  obtain ⟨hla, hlb, hl2⟩ := hG
  obtain ⟨nn, hnn, h⟩ := Option.bind_eq_some_iff.1 h
  split at h
  case isFalse => cases h
  rename_i hn2
  obtain ⟨ok, hok, h⟩ := Option.bind_eq_some_iff.1 h
  have hu144 := Try.underlying144
  have hu37 := Try.underlying37
  have HR0 := Aside0.mk hr0
  have HC0 := Aside0.mk hc0
  have HR1 := Aside0.mk hr1
  have HC1 := Aside0.mk hc1
  have HR2 := Aside0.mk hr2
  have HC2 := Aside0.mk hc2
  have HN := Aside0.mk hnn
  have HOK := Aside0.mk hok
  have HH := Aside0.mk h
  clear hr0 hc0 hr1 hc1 hr2 hc2 hnn hok h
  go_enter Try.func35, Try.ntmps35
  go_wp2_with fail
  have HL0 : Aside0 (Kd.C (Kd.slice 9 Kd.string) (w.alloc (.cells #[.slice A0 l0.length c0, .slice A1 l1.length c1] 27 (0, 0))) (some ⟨w.heap.size, 0, none⟩) [l0, l1].length [l0, l1]) := ⟨C_lit (Kd.slice 9 Kd.string) rfl w 27 [l0, l1] [.slice A0 l0.length c0, .slice A1 l1.length c1] rfl (by simp) (fun j p u hp hu => by
    match j, hp, hu with
    | 0, hp, hu => cases hp; cases hu; exact ⟨A0, c0, rfl, HC0.out, HR0.out⟩
    | 1, hp, hu => cases hp; cases hu; exact ⟨A1, c1, rfl, HC1.out, HR1.out⟩
    | (j + 2), hp, hu => simp at hp)⟩
  refine (tripartiteref01_Number.calls k (some ⟨w.heap.size, 0, none⟩) 2 [l0, l1] nn _ HL0.out (Nat.le_refl _) HN.out).mono ?_
  rintro e w1 ⟨v0_, rfl, hR, hB⟩
  have HB1 := Aside0.mk (below_then (below_alloc (Below.refl w.heap.size w) (.cells #[.slice A0 l0.length c0, .slice A1 l1.length c1] 27 (0, 0))) (below_alloc (Below.refl w.heap.size w) _).size hB)
  obtain ⟨A, c, rfl, hc, hC⟩ := Kd.R_reads (Kd.S_R hR)
  obtain ⟨ad, AX, cX, eA, hx, hlx, hcx⟩ := at_L6 hC (0 : Int) (by decide) (by omega)
  obtain ⟨ad', AY, cY, eA', hy, hly, hcy⟩ := at_L6 hC (1 : Int) (by decide) (by omega)
  cases eA
  cases eA'
  have h := HH.out
  have hok := HOK.out
  generalize rd_L6 nn 0 = x at hx hlx hcx hok
  generalize rd_L6 nn 1 = y at hy hly hcy hok
  have HOK2 := Aside0.mk hok
  have HX := Aside0.mk hcx
  have HXL := Aside0.mk hlx
  have HY := Aside0.mk hcy
  have HYL := Aside0.mk hly
  simp only [Int.toNat_zero, Int.toNat_one] at hx hy
  clear hR hB hC hc hlx hcx hly hcy HL0 HOK hok
  replace hx : w1.cell? ad = some (.slice AX x.length cX) := by simpa [Addr.add] using hx
  replace hy : w1.cell? ⟨ad.block, ad.off + 1, none⟩ = some (.slice AY y.length cY) := by simpa [Addr.add] using hy
  rw [hn2]
  clear hn2
  go_wp2_with fail
  go_region_held3 (fun w' => w'.cell? ad = some (.slice AX x.length cX) ∧ w'.cell? ⟨ad.block, ad.off + 1, none⟩ = some (.slice AY y.length cY)) (go_keep)
    (first | (go_at_call 33; refine (tripartiteref03_Right.calls k AX cX x AY cY y A2 c2 l2 ok _ (Kd.C_drew HX.out) HXL.out (Kd.C_drew HY.out) HYL.out (Kd.C_drew (Kd.C_below HR2.out HB1.out)) HC2.out HOK2.out).mono ?_; rintro e w2 ⟨rfl, hb⟩; have hb2 := below_step HB1.out (below_then (below_drew (Below.refl w1.heap.size w1)) (Nat.le_refl _) hb); replace hx := pw_cell_below hb hx; replace hy := pw_cell_below hb hy))
  have HB2 := Aside0.mk hb2
  clear hb hb2 hx hy HX HY HXL HYL HB1 HOK2 HN
  cases ok
  · rw [if_neg (by simp)] at h
    simp only [Option.some.injEq, Prod.mk.injEq] at h
    obtain ⟨rfl, rfl⟩ := h
    simp only [Bool.not_false]
    go_wp2_with fail
    go_ret2
    exact ⟨_, rfl, Kd.N_nil _ _ _ _ _, HB2.out⟩
  · rw [if_pos rfl] at h
    obtain ⟨rr, hrr, he⟩ := Option.map_eq_some_iff.1 h
    simp only [Prod.mk.injEq] at he
    obtain ⟨rfl, rfl⟩ := he
    have HG := Aside0.mk hrr
    clear h HH hrr
    simp only [Bool.not_true]
    go_wp2_with fail
    go_loopw [9, 10, 11, 12] (fun v9 v10 v11 v12 wr => ∃ (n : Nat) (i k : Int) (out : List S144), n ≤ l2.length + 1 ∧ v10 = .int .i64 i ∧ v11 = .int .i64 k ∧ v12 = .int .i64 (n : Int) ∧ Aside0 (Below w.heap.size w wr) ∧ Aside0 (N35 w wr v9 out) ∧ Aside0 (n ≤ l2.length → rofGo l0 l1 (l2.drop n) i k out = some rr) ∧ Aside0 (n = l2.length + 1 → out = rr)) (fun _ _ _ v12 _ => l2.length + 1 - (intOf v12).toNat)
    case atStart =>
      exact ⟨0, 0, 0, [], Nat.zero_le _, rfl, rfl, rfl, HB2, ⟨Kd.N_nil _ _ _ _ _⟩, ⟨fun _ => HG.out⟩, ⟨fun h => by omega⟩⟩
    case round =>
      obtain ⟨n, i, kk, out, hn, rfl, rfl, rfl, HB, HO, HE, HF⟩ := hrel
      by_cases hlt : n < l2.length
      · have p0 : (0 : Int) ≤ (n : Int) := by omega
        have q0 : (n : Int) < (l2.length : Int) := by omega
        obtain ⟨ad2, eA, hx0, hx1⟩ := at_T37 HR2.out (n : Int) p0 q0
        cases eA
        replace hx0 := pw_cell_below HB.out hx0
        replace hx1 := pw_cell_below HB.out hx1
        have hrd : rd_T37 l2 (n : Int) = l2[n] := by simp [rd_T37, List.getD_eq_getElem?_getD, hlt]
        rw [hrd, Int.toNat_natCast] at hx0 hx1
        have hb := HE.out (by omega)
        rw [List.drop_eq_getElem_cons hlt] at hb
        generalize l2[n] = q at hx0 hx1 hb
        unfold rofGo at hb
        split at hb
        case isFalse => cases hb
        rename_i hG
        obtain ⟨hi0, hi1, hi2, hk0, hk1, hk2⟩ := hG
        obtain ⟨o1, g1, hb⟩ := Option.bind_eq_some_iff.1 hb
        obtain ⟨o2, g2, hb⟩ := Option.bind_eq_some_iff.1 hb
        obtain ⟨o3, g3, hb⟩ := Option.bind_eq_some_iff.1 hb
        have hle : decide (n ≤ l2.length) = true := decide_eq_true (by omega)
        replace hx0 := pw_cell_below (below_alloc (Below.refl _ _) (.cells #[.int .i64 (l0.length : Int), .int .i64 (l1.length : Int)] 37 (0, 0))) hx0
        replace hx1 := pw_cell_below (below_alloc (Below.refl _ _) (.cells #[.int .i64 (l0.length : Int), .int .i64 (l1.length : Int)] 37 (0, 0))) hx1
        have hcut : decide ((n : Int) < (l2.length : Int)) = true := decide_eq_true q0
        have G1 := Aside0.mk g1
        have G2 := Aside0.mk g2
        have G3 := Aside0.mk g3
        have HBB := Aside0.mk hb
        clear hb g1 g2 g3 HE HF
        go_wp2_with fail
        have HS := In35.start (tA := q.f0) (tB := q.f1) HB.out HO.out
        generalize wr.heap.size = gt at HS ⊢
        have HS1 := Aside0.mk HS
        clear HS HO hx0 hx1 hle
        go_loopw [9, 10] (fun v9 vi W => ∃ (i' : Int) (o : List S144), i ≤ i' ∧ i' ≤ q.f0 ∧ vi = .int .i64 i' ∧ Aside0 (In35 w W gt q.f0 q.f1 v9 o) ∧ Aside0 (ones 1 ((l0.take (q.f0).toNat).drop i'.toNat) o = some o1)) (fun _ vi _ => (q.f0 - intOf vi).toNat)
        case atStart => exact ⟨i, out, Int.le_refl _, hi1, rfl, HS1, G1⟩
        case round =>
          obtain ⟨i', o, hfa, hfb, rfl, HI, HGI⟩ := hrel
          have hcA := (blk_cell HI.out.blk 0).trans (show _ = some _ from rfl)
          by_cases hin : i' < q.f0
          · have hind : decide (i' < q.f0) = true := decide_eq_true hin
            obtain ⟨ad3, e3, hx3⟩ := Kd.at_string HR0.out i' (by omega) (by omega)
            cases e3
            replace hx3 := pw_cell_below HI.out.below hx3
            have hone := HGI.out
            rw [seg_cons l0 i' (q.f0) (by omega) hin (by omega)] at hone
            simp only [ones] at hone
            obtain ⟨o', e1, e2⟩ := Option.bind_eq_some_iff.1 hone
            generalize rdOf ByteArray.empty l0 i' = sA at hx3 e1
            have HE1 := Aside0.mk e1
            have HE2 := Aside0.mk e2
            obtain ⟨A4, c4, rfl, hV⟩ := HI.out.row.asV
            have HV := Aside0.mk hV
            have hp : decide ((0 : Int) ≤ i') = true := decide_eq_true (by omega)
            have hq : decide (i' < (l0.length : Int)) = true := decide_eq_true (by omega)
            clear hone e1 e2 HGI hV
            go_wp2_with fail
            refine (tripartiteref04_one.calls (fun _ => True) A4 c4 o 1 sA o' _ HV.out HE1.out).mono ?_
            rintro e W2 ⟨v2, rfl, hN, hB⟩
            have HI2 := Aside0.mk (HI.out.step hN hB)
            obtain ⟨A5, n5, c5, rfl⟩ : ∃ A n c, v2 = Value.slice A n c := by obtain ⟨A, c, h⟩ := Kd.N_slice hN; exact ⟨A, _, c, h⟩
            clear hN hB
            go_wp2_with fail
            go_roundw
            case rel => exact ⟨i' + 1, o', by omega, by omega, rfl, HI2, HE2⟩
            case measure => simp [intOf]; omega
          · obtain rfl : i' = q.f0 := by omega
            have hind : decide (q.f0 < q.f0) = false := decide_eq_false (by omega)
            have hone := HGI.out
            rw [seg_nil] at hone
            simp only [ones, Option.some.injEq] at hone
            subst hone
            have HI1 := HI
            clear HI HGI
            go_wp2_with fail
            clear hcA hind hin hfa hfb
            go_loopw [9, 11] (fun v9 vi W => ∃ (i' : Int) (o : List S144), kk ≤ i' ∧ i' ≤ q.f1 ∧ vi = .int .i64 i' ∧ Aside0 (In35 w W gt q.f0 q.f1 v9 o) ∧ Aside0 (ones 2 ((l1.take (q.f1).toNat).drop i'.toNat) o = some o2)) (fun _ vi _ => (q.f1 - intOf vi).toNat)
            case atStart => exact ⟨kk, _, Int.le_refl _, hk1, rfl, HI1, G2⟩
            case round =>
              obtain ⟨i', o, hfa, hfb, rfl, HI, HGI⟩ := hrel
              have hcA := (blk_cell HI.out.blk 1).trans (show _ = some _ from rfl)
              by_cases hin : i' < q.f1
              · have hind : decide (i' < q.f1) = true := decide_eq_true hin
                obtain ⟨ad3, e3, hx3⟩ := Kd.at_string HR1.out i' (by omega) (by omega)
                cases e3
                replace hx3 := pw_cell_below HI.out.below hx3
                have hone := HGI.out
                rw [seg_cons l1 i' (q.f1) (by omega) hin (by omega)] at hone
                simp only [ones] at hone
                obtain ⟨o', e1, e2⟩ := Option.bind_eq_some_iff.1 hone
                generalize rdOf ByteArray.empty l1 i' = sA at hx3 e1
                have HE1 := Aside0.mk e1
                have HE2 := Aside0.mk e2
                obtain ⟨A4, c4, rfl, hV⟩ := HI.out.row.asV
                have HV := Aside0.mk hV
                have hp : decide ((0 : Int) ≤ i') = true := decide_eq_true (by omega)
                have hq : decide (i' < (l1.length : Int)) = true := decide_eq_true (by omega)
                clear hone e1 e2 HGI hV
                go_wp2_with fail
                refine (tripartiteref04_one.calls (fun _ => True) A4 c4 o 2 sA o' _ HV.out HE1.out).mono ?_
                rintro e W2 ⟨v2, rfl, hN, hB⟩
                have HI2 := Aside0.mk (HI.out.step hN hB)
                obtain ⟨A5, n5, c5, rfl⟩ : ∃ A n c, v2 = Value.slice A n c := by obtain ⟨A, c, h⟩ := Kd.N_slice hN; exact ⟨A, _, c, h⟩
                clear hN hB
                go_wp2_with fail
                go_roundw
                case rel => exact ⟨i' + 1, o', by omega, by omega, rfl, HI2, HE2⟩
                case measure => simp [intOf]; omega
              · obtain rfl : i' = q.f1 := by omega
                have hind : decide (q.f1 < q.f1) = false := decide_eq_false (by omega)
                have hone := HGI.out
                rw [seg_nil] at hone
                simp only [ones, Option.some.injEq] at hone
                subst hone
                have HI2b := HI
                clear HI HGI
                go_wp2_with fail
                clear hcA hind hin hfa hfb
                obtain ⟨ad3, e3, hx3⟩ := Kd.at_string HR0.out q.f0 (by omega) (by omega)
                cases e3
                replace hx3 := pw_cell_below HI2b.out.below hx3
                have g3 := G3.out
                generalize rdOf ByteArray.empty l0 q.f0 = sA at hx3 g3
                have HE1 := Aside0.mk g3
                obtain ⟨A4, c4, rfl, hV⟩ := HI2b.out.row.asV
                have HV := Aside0.mk hV
                have hp : decide ((0 : Int) ≤ q.f0) = true := decide_eq_true (by omega)
                have hq : decide (q.f0 < (l0.length : Int)) = true := decide_eq_true (by omega)
                clear hV g3 G3 hp hq
                have hI : ∀ W : World, (Instr.indexAt 27 (.slice (some ad3) l0.length c0) (.int .i64 q.f0)).run Try.prog W = .ok (.pointer (some (ad3.add q.f0.toNat))) W := fun W => by
                  have hT : Try.prog.underlying 27 = some (.slice (Try.prog.elem 27)) := by simp [go_sem, Try.underlying27]
                  rw [run_indexAt_slice W 27 ad3 _ _ .i64 q.f0 hT, if_pos ⟨by omega, hi2⟩]
                  clear hT
                  go_simp
                go_wp2_with fail
                simp only [hI]
                go_wp2_with fail
                refine (tripartiteref04_one.calls (fun _ => True) A4 c4 _ 0 sA o3 _ HV.out HE1.out).mono ?_
                rintro e W2 ⟨v2, rfl, hN, hB⟩
                have HI3 := Aside0.mk (HI2b.out.step hN hB)
                obtain ⟨A5, n5, c5, rfl⟩ : ∃ A n c, v2 = Value.slice A n c := by obtain ⟨A, c, h⟩ := Kd.N_slice hN; exact ⟨A, _, c, h⟩
                clear hN hB
                go_wp2_with fail
                go_roundw
                case rel => exact ⟨n + 1, _, _, o3, by omega, rfl, rfl, by go_num, ⟨HI3.out.below⟩, ⟨HI3.out.row⟩, ⟨fun _ => HBB.out⟩, ⟨fun h => absurd h (by omega)⟩⟩
                case measure => simp [intOf] <;> omega
      · by_cases hend : n = l2.length + 1
        · subst hend
          have hcut : decide (((l2.length + 1 : Nat) : Int) ≤ (l2.length : Int)) = false := decide_eq_false (by omega)
          obtain ⟨A4, c4, rfl, _⟩ := HO.out.asV
          go_wp2_with fail
          go_ret2
          rw [← HF.out trivial]
          exact ⟨_, rfl, HO.out, HB.out⟩
        · obtain rfl : n = l2.length := by omega
          have hb := HE.out (Nat.le_refl _)
          rw [List.drop_of_length_le (Nat.le_refl _)] at hb
          unfold rofGo at hb
          split at hb
          case isFalse => cases hb
          rename_i hG
          obtain ⟨hi0, hi1, hk0, hk1⟩ := hG
          obtain ⟨o1, g1, g2⟩ := Option.bind_eq_some_iff.1 hb
          have t0 : (l0.take (l0.length : Int).toNat).drop i.toNat = l0.drop i.toNat := by rw [Int.toNat_natCast, List.take_length]
          have t1 : (l1.take (l1.length : Int).toNat).drop kk.toNat = l1.drop kk.toNat := by rw [Int.toNat_natCast, List.take_length]
          have G1 : Aside0 (ones 1 ((l0.take (l0.length : Int).toNat).drop i.toNat) out = some o1) := ⟨by rw [t0]; exact g1⟩
          have G2 : Aside0 (ones 2 ((l1.take (l1.length : Int).toNat).drop kk.toNat) o1 = some rr) := ⟨by rw [t1]; exact g2⟩
          clear hb g1 g2 t0 t1 HE HF
          have HS := In35.start (tA := (l0.length : Int)) (tB := (l1.length : Int)) HB.out HO.out
          have hcut : decide ((l2.length : Int) < (l2.length : Int)) = false := decide_eq_false (by omega)
          go_wp2_with fail
          generalize wr.heap.size = gt at HS ⊢
          have HS1 := Aside0.mk HS
          clear HS HO
          go_loopw [9, 10] (fun v9 vi W => ∃ (i' : Int) (o : List S144), i ≤ i' ∧ i' ≤ (l0.length : Int) ∧ vi = .int .i64 i' ∧ Aside0 (In35 w W gt (l0.length : Int) (l1.length : Int) v9 o) ∧ Aside0 (ones 1 ((l0.take ((l0.length : Int)).toNat).drop i'.toNat) o = some o1)) (fun _ vi _ => ((l0.length : Int) - intOf vi).toNat)
          case atStart => exact ⟨i, out, Int.le_refl _, hi1, rfl, HS1, G1⟩
          case round =>
            obtain ⟨i', o, hfa, hfb, rfl, HI, HGI⟩ := hrel
            have hcA := (blk_cell HI.out.blk 0).trans (show _ = some _ from rfl)
            by_cases hin : i' < (l0.length : Int)
            · have hind : decide (i' < (l0.length : Int)) = true := decide_eq_true hin
              obtain ⟨ad3, e3, hx3⟩ := Kd.at_string HR0.out i' (by omega) (by omega)
              cases e3
              replace hx3 := pw_cell_below HI.out.below hx3
              have hone := HGI.out
              rw [seg_cons l0 i' ((l0.length : Int)) (by omega) hin (by omega)] at hone
              simp only [ones] at hone
              obtain ⟨o', e1, e2⟩ := Option.bind_eq_some_iff.1 hone
              generalize rdOf ByteArray.empty l0 i' = sA at hx3 e1
              have HE1 := Aside0.mk e1
              have HE2 := Aside0.mk e2
              obtain ⟨A4, c4, rfl, hV⟩ := HI.out.row.asV
              have HV := Aside0.mk hV
              have hp : decide ((0 : Int) ≤ i') = true := decide_eq_true (by omega)
              have hq : decide (i' < (l0.length : Int)) = true := decide_eq_true (by omega)
              clear hone e1 e2 HGI hV
              go_wp2_with fail
              refine (tripartiteref04_one.calls (fun _ => True) A4 c4 o 1 sA o' _ HV.out HE1.out).mono ?_
              rintro e W2 ⟨v2, rfl, hN, hB⟩
              have HI2 := Aside0.mk (HI.out.step hN hB)
              obtain ⟨A5, n5, c5, rfl⟩ : ∃ A n c, v2 = Value.slice A n c := by obtain ⟨A, c, h⟩ := Kd.N_slice hN; exact ⟨A, _, c, h⟩
              clear hN hB
              go_wp2_with fail
              go_roundw
              case rel => exact ⟨i' + 1, o', by omega, by omega, rfl, HI2, HE2⟩
              case measure => simp [intOf]; omega
            · obtain rfl : i' = (l0.length : Int) := by omega
              have hind : decide ((l0.length : Int) < (l0.length : Int)) = false := decide_eq_false (by omega)
              have hone := HGI.out
              rw [seg_nil] at hone
              simp only [ones, Option.some.injEq] at hone
              subst hone
              have HI1 := HI
              clear HI HGI
              go_wp2_with fail
              clear hcA hind hin hfa hfb
              go_loopw [9, 11] (fun v9 vi W => ∃ (i' : Int) (o : List S144), kk ≤ i' ∧ i' ≤ (l1.length : Int) ∧ vi = .int .i64 i' ∧ Aside0 (In35 w W gt (l0.length : Int) (l1.length : Int) v9 o) ∧ Aside0 (ones 2 ((l1.take ((l1.length : Int)).toNat).drop i'.toNat) o = some rr)) (fun _ vi _ => ((l1.length : Int) - intOf vi).toNat)
              case atStart => exact ⟨kk, _, Int.le_refl _, hk1, rfl, HI1, G2⟩
              case round =>
                obtain ⟨i', o, hfa, hfb, rfl, HI, HGI⟩ := hrel
                have hcA := (blk_cell HI.out.blk 1).trans (show _ = some _ from rfl)
                by_cases hin : i' < (l1.length : Int)
                · have hind : decide (i' < (l1.length : Int)) = true := decide_eq_true hin
                  obtain ⟨ad3, e3, hx3⟩ := Kd.at_string HR1.out i' (by omega) (by omega)
                  cases e3
                  replace hx3 := pw_cell_below HI.out.below hx3
                  have hone := HGI.out
                  rw [seg_cons l1 i' ((l1.length : Int)) (by omega) hin (by omega)] at hone
                  simp only [ones] at hone
                  obtain ⟨o', e1, e2⟩ := Option.bind_eq_some_iff.1 hone
                  generalize rdOf ByteArray.empty l1 i' = sA at hx3 e1
                  have HE1 := Aside0.mk e1
                  have HE2 := Aside0.mk e2
                  obtain ⟨A4, c4, rfl, hV⟩ := HI.out.row.asV
                  have HV := Aside0.mk hV
                  have hp : decide ((0 : Int) ≤ i') = true := decide_eq_true (by omega)
                  have hq : decide (i' < (l1.length : Int)) = true := decide_eq_true (by omega)
                  clear hone e1 e2 HGI hV
                  go_wp2_with fail
                  refine (tripartiteref04_one.calls (fun _ => True) A4 c4 o 2 sA o' _ HV.out HE1.out).mono ?_
                  rintro e W2 ⟨v2, rfl, hN, hB⟩
                  have HI2 := Aside0.mk (HI.out.step hN hB)
                  obtain ⟨A5, n5, c5, rfl⟩ : ∃ A n c, v2 = Value.slice A n c := by obtain ⟨A, c, h⟩ := Kd.N_slice hN; exact ⟨A, _, c, h⟩
                  clear hN hB
                  go_wp2_with fail
                  go_roundw
                  case rel => exact ⟨i' + 1, o', by omega, by omega, rfl, HI2, HE2⟩
                  case measure => simp [intOf]; omega
                · obtain rfl : i' = (l1.length : Int) := by omega
                  have hind : decide ((l1.length : Int) < (l1.length : Int)) = false := decide_eq_false (by omega)
                  have hone := HGI.out
                  rw [seg_nil] at hone
                  simp only [ones, Option.some.injEq] at hone
                  subst hone
                  have HI2b := HI
                  clear HI HGI
                  go_wp2_with fail
                  clear hcA hind hin hfa hfb
                  obtain ⟨A4, c4, rfl, hV⟩ := HI2b.out.row.asV
                  clear hV
                  go_roundw
                  case rel => exact ⟨l2.length + 1, _, _, _, Nat.le_refl _, rfl, rfl, by go_num, ⟨HI2b.out.below⟩, ⟨HI2b.out.row⟩, ⟨fun h => absurd h (by omega)⟩, ⟨fun _ => rfl⟩⟩
                  case measure => simp [intOf] <;> omega
end Go.Proofs.Ytadafplbgophfaa.PA
end
section
-- Written by a program of this seat out of the translation. Not trusted: Lean checks it.
namespace Go.Proofs.Ytadafplbgophfaa.PA
open Go.RowKit Go.Proofs.YtadafplbgophfaaW.PrintWords Go.Proofs.YtadafplbgophfaaW.PrintLast Go.Proofs.YtadafplbgophfaaW.PrintMore
attribute [local go_sem] max2_int min2_int max_two min_two max_three min_three max_four min_four   -- for this text's walks alone
set_option linter.unusedVariables false
set_option linter.unusedSimpArgs false

/-! ### tripartitelaw03_To: function 32 -/
def tripartitelaw03_To.l0 : Nat → List (S37) → List (S39) → Int → Option ((List (S39)))
  | 0, _, _, _ => none
  | k + 1, x0, x3, x4 => if x4 < (x0.length : Int) then (if 0 ≤ x4 then (if x3.length < 8796093022208 then (tripartitelaw03_To.l0 k x0 (x3 ++ [(⟨(rd_T37 x0 x4).f0, (rd_T37 x0 x4).f1⟩ : S39)]) (wrap64 (x4 + 1))) else (none)) else (none)) else (some x3)
def tripartitelaw03_To.f (k : Nat) (l0 : List (S37)) : Option ((List (S39))) := tripartitelaw03_To.l0 k l0 ([] : List (S39)) 0
theorem tripartitelaw03_To.mono_l : ∀ k, (∀ y0 y1 y2, LeO (tripartitelaw03_To.l0 k y0 y1 y2) (tripartitelaw03_To.l0 (k + 1) y0 y1 y2))
  | 0 => fun _ _ _ r h => by simp [tripartitelaw03_To.l0] at h
  | k + 1 => by
    have ih0 := tripartitelaw03_To.mono_l k
    · intro y0 y1 y2
      unfold tripartitelaw03_To.l0
      repeat' first
      | (with_reducible exact ih0 _ _ _)
      | (with_reducible exact LeO.refl _)
      | (with_reducible exact LeO.none _)
      | (with_reducible refine LeO.ite ?_ ?_)
      | (with_reducible refine LeO.bind ?_ (fun _ => ?_))
      | exact ih0 _ _ _
      | exact LeO.none _
      | refine LeO.ite ?_ ?_
      | refine LeO.bind ?_ (fun _ => ?_)
theorem tripartitelaw03_To.mono : ∀ a0 k, LeO (tripartitelaw03_To.f k a0) (tripartitelaw03_To.f (k + 1) a0) := by
  intro a0 k
  have ih0 := tripartitelaw03_To.mono_l k
  unfold tripartitelaw03_To.f
  repeat' first
      | (with_reducible exact ih0 _ _ _)
      | (with_reducible exact LeO.refl _)
      | (with_reducible exact LeO.none _)
      | (with_reducible refine LeO.ite ?_ ?_)
      | (with_reducible refine LeO.bind ?_ (fun _ => ?_))
      | exact ih0 _ _ _
      | exact LeO.none _
      | refine LeO.ite ?_ ?_
      | refine LeO.bind ?_ (fun _ => ?_)
def tripartitelaw03_To.T5 : Bool × List (List Nat × List Nat) := (true, [([], []), ([], []), ([], []), ([1, 2], [1, 2]), ([3], [3]), ([4], [4]), ([], []), ([], []), ([6, 7], [6, 7]), ([8], [8]), ([9], [9]), ([5, 10], [5, 10]), ([11], [11]), ([0, 12], [0, 12]), ([13, 13, 0, 1, 2, 3, 4, 5, 6, 7, 8, 9, 10, 11, 12, 13], [0, 13])])
def tripartitelaw03_To.B5 : List Nat := [0, 0, 0, 6, 14, 30, 0, 0, 192, 448, 960, 2046, 4094, 8191, 16383]
theorem tripartitelaw03_To.tab5 : rtab .any (opsOf Try.f32 5) = tripartitelaw03_To.T5 := by kernel_rfl
theorem tripartitelaw03_To.bits5 : waitsOk tripartitelaw03_To.T5.2 tripartitelaw03_To.B5 = true := by kernel_rfl
set_option maxHeartbeats 8000000 in
set_option maxRecDepth 100000 in
theorem tripartitelaw03_To.calls (k : Nat) (A0 : Option Addr) (c0 : Nat) (l0 : List (S37)) (r : List (S39)) (w : World) (hr0 : Kd.C k37 w A0 l0.length l0) (hc0 : l0.length ≤ c0) (h : tripartitelaw03_To.f k l0 = some r) :
    Calls Try.prog 32 #[.slice A0 l0.length c0] w fun e w' => ∃ v0_ : Value, e = .returned (v0_) ∧ Kd.R k39 39 w' w.heap.size (fun _ => True) v0_ r ∧ Below w.heap.size w w' := by
  have hu39 := Try.underlying39
  have HR0 := Aside0.mk hr0
  have HC0 := Aside0.mk hc0
  clear hr0 hc0
  have HB := Aside0.mk (Below.refl w.heap.size w)
  have H : (tripartitelaw03_To.l0 k l0 ([] : List (S39)) 0) = some r := h
  clear h
  have H' := Aside0.mk H
  clear H
  go_enter Try.func32, Try.ntmps32
  go_wp2
  go_loopg [3, 4] k (fun kq v3 v4 w' => ∃ (x3_1 : List (S39)) (x4_1 : Int), v4 = .int .i64 x4_1 ∧ Aside0 (tripartitelaw03_To.l0 kq l0 x3_1 x4_1 = some r) ∧ Aside0 (kq ≤ k) ∧ Aside0 (Kd.R k39 39 w' w.heap.size (fun _ => True) v3 x3_1) ∧ Aside0 (Below w.heap.size w w'))
  case atStart => exact ⟨(([] : List (S39))), (0), (by first | rfl | (simp; done) | (simp [*]; done)), H', ⟨Nat.le_refl _⟩, ⟨by first | exact Kd.R_nil _ _ _ _ _ | exact Kd.N_nil _ _ _ _ _ | exact Kd.V_nil _ _ _ _ _ | exact Kd.Q_nil _ _ _ _ _ | exact Kd.S_nil _ _ _ _ _⟩, ⟨by repeat (first | (with_reducible first | exact HB.out | apply below_alloc | apply pw_below_drewN | apply below_drew1) | exact HB.out)⟩⟩
  case round =>
    clear H'
    obtain ⟨x3_1, x4_1, rfl, HA, HK1, HO_3, HB⟩ := hrel
    cases gk with
    | zero => exact absurd HA.out (by simp [tripartitelaw03_To.l0])
    | succ k1 =>
      have H := HA.out
      clear HA
      simp only [tripartitelaw03_To.l0] at H
      by_cases c2 : x4_1 < (l0.length : Int)
      · rw [if_pos c2] at H
        have c2b0 : decide (x4_1 < (l0.length : Int)) = true := decide_eq_true c2
        clear c2
        by_cases c3 : 0 ≤ x4_1
        · rw [if_pos c3] at H
          have c3b0 : decide (0 ≤ x4_1) = true := decide_eq_true c3
          clear c3
          by_cases c4 : x3_1.length < 8796093022208
          · rw [if_pos c4] at H
            have LMc4 := Aside0.mk c4
            clear c4
            obtain ⟨y103, hy103⟩ : ∃ y_ : List (S39), y_ = (x3_1 ++ [(⟨(rd_T37 l0 x4_1).f0, (rd_T37 l0 x4_1).f1⟩ : S39)]) := ⟨_, rfl⟩
            replace H : (tripartitelaw03_To.l0 k1 l0 y103 (wrap64 (x4_1 + 1))) = some r := by first | (rw [hy103]; with_reducible exact H) | (have H2_ := (Option.bind_some _ _).symm.trans H; rw [hy103]; with_reducible exact H2_) | (have H2_ := (Option.bind_some _ _).symm.trans H; with_reducible exact H2_) | with_reducible exact H | (rw [hy103]; exact H) | exact H
            have Ny103 := Aside0.mk hy103
            clear hy103
            have H' := Aside0.mk H
            clear H
            try go_wp2
            have n0_ := Aside0.mk (Kd.R_drew HO_3.out)
            have n1_ := Aside0.mk (below_drew1 HB.out)
            clear HO_3
            clear HB
            have HO_3 := n0_
            have HB := n1_
            clear n0_ n1_
            have p101 : 0 ≤ (x4_1 : Int) := of_decide_eq_true (by first | (with_reducible assumption) | assumption)
            have q101 : x4_1 < (l0.length : Int) := of_decide_eq_true (by first | (with_reducible assumption) | assumption)
            obtain ⟨ad101, e101, hx101_0, hx101_1⟩ := at_T37 HR0.out x4_1 p101 q101
            have hw101_1 := hx101_1
            have hw101_0 := hx101_0
            cases e101
            replace hx101_0 := (HB.out.cell (World.block_lt_of_cell? w _ hx101_0)).trans hx101_0
            replace hx101_1 := (HB.out.cell (World.block_lt_of_cell? w _ hx101_1)).trans hx101_1
            replace p101 := eq_true p101
            replace q101 := eq_true q101
            have p102 : 0 ≤ (x4_1 : Int) := of_decide_eq_true (by first | (with_reducible assumption) | assumption)
            have q102 : x4_1 < (l0.length : Int) := of_decide_eq_true (by first | (with_reducible assumption) | assumption)
            obtain ⟨ad102, e102, hx102_0, hx102_1⟩ := at_T37 HR0.out x4_1 p102 q102
            have hw102_1 := hx102_1
            have hw102_0 := hx102_0
            obtain rfl : ad101 = ad102 := (by injection e102)
            replace hx102_0 := (HB.out.cell (World.block_lt_of_cell? w _ hx102_0)).trans hx102_0
            replace hx102_1 := (HB.out.cell (World.block_lt_of_cell? w _ hx102_1)).trans hx102_1
            replace p102 := eq_true p102
            replace q102 := eq_true q102
            refine start_ (n := 15) (S := fun w' => w'.cell? (ad101.add ((x4_1).toNat * 2)) = some (.int .i64 ((rd_T37 l0 x4_1).f0)) ∧ w'.cell? ⟨(ad101.add ((x4_1).toNat * 2)).block, (ad101.add ((x4_1).toNat * 2)).off + 1, none⟩ = some (.int .i64 ((rd_T37 l0 x4_1).f1)) ∧ w'.cell? (ad101.add ((x4_1).toNat * 2)) = some (.int .i64 ((rd_T37 l0 x4_1).f0)) ∧ w'.cell? ⟨(ad101.add ((x4_1).toNat * 2)).block, (ad101.add ((x4_1).toNat * 2)).off + 1, none⟩ = some (.int .i64 ((rd_T37 l0 x4_1).f1))) (ds := []) #[false, false, false, false, false, false, false, false, false, false, false, false, false, false, false] (by kernel_rfl) rfl rfl ⟨((HB.out.cell (World.block_lt_of_cell? w _ hw101_0)).trans hw101_0), ((HB.out.cell (World.block_lt_of_cell? w _ hw101_1)).trans hw101_1), ((HB.out.cell (World.block_lt_of_cell? w _ hw102_0)).trans hw102_0), ((HB.out.cell (World.block_lt_of_cell? w _ hw102_1)).trans hw102_1)⟩ (fun hHeld => ?_); refine with_tabW tripartitelaw03_To.tab5 tripartitelaw03_To.bits5 (fun HT_ HW_ => ?_)
            generalize wr.drew = w5 at HO_3 HB hx101_0 hx101_1 hx102_0 hx102_1 hHeld ⊢
            refine pure_ (i := 0) (N := some 11) (v := ?_) (a' := ?_) #[true, false, false, false, false, false, false, false, false, false, false, false, false, false, false] rfl rfl (any_of HT_.out (by kernel_rfl)) (fun _ _ _ h => h) (Or.inl ⟨by rfl, ?_⟩) ?_ ?_
            rotate_left
            · intro w'
              go_simp
              with_reducible rfl
            rotate_left
            · simp only [Act.put, List.setIfInBounds_toArray, List.set_cons_zero, List.set_cons_succ, i64_w, i32_w]
              rfl
            refine pure_ (i := 1) (N := some 12) (v := ?_) (a' := ?_) #[true, true, false, false, false, false, false, false, false, false, false, false, false, false, false] rfl rfl (any_of HT_.out (by kernel_rfl)) (fun _ _ _ h => h) (Or.inl ⟨by rfl, ?_⟩) ?_ ?_
            rotate_left
            · intro w'
              go_simp
              with_reducible rfl
            rotate_left
            · simp only [Act.put, List.setIfInBounds_toArray, List.set_cons_zero, List.set_cons_succ, i64_w, i32_w]
              rfl
            refine pure_ (i := 2) (N := some 13) (v := ?_) (a' := ?_) #[true, true, true, false, false, false, false, false, false, false, false, false, false, false, false] rfl rfl (any_of HT_.out (by kernel_rfl)) (fun _ _ _ h => h) (Or.inl ⟨by rfl, ?_⟩) ?_ ?_
            rotate_left
            · intro w'
              go_simp
              with_reducible rfl
            rotate_left
            · simp only [Act.put, List.setIfInBounds_toArray, List.set_cons_zero, List.set_cons_succ, i64_w, i32_w]
              rfl
            refine pure_ (i := 3) (N := some 14) (v := ?_) (a' := ?_) #[true, true, true, true, false, false, false, false, false, false, false, false, false, false, false] rfl rfl (any_of HT_.out (by kernel_rfl)) (fun _ _ _ h => h) (Or.inl ⟨by rfl, ?_⟩) ?_ ?_
            rotate_left
            · intro w'
              go_simp
              with_reducible rfl
            rotate_left
            · simp only [Act.put, List.setIfInBounds_toArray, List.set_cons_zero, List.set_cons_succ, i64_w, i32_w]
              rfl
            refine pure_ (i := 4) (N := some 15) (v := ?_) (a' := ?_) #[true, true, true, true, true, false, false, false, false, false, false, false, false, false, false] rfl rfl (any_of HT_.out (by kernel_rfl)) (fun _ _ _ h => h) (Or.inl ⟨by rfl, ?_⟩) ?_ ?_
            rotate_left
            · intro w'
              go_simp
              with_reducible rfl
            rotate_left
            · simp only [Act.put, List.setIfInBounds_toArray, List.set_cons_zero, List.set_cons_succ, i64_w, i32_w]
              rfl
            refine pure_ (i := 6) (N := some 17) (v := ?_) (a' := ?_) #[true, true, true, true, true, false, true, false, false, false, false, false, false, false, false] rfl rfl (any_of HT_.out (by kernel_rfl)) (fun _ _ _ h => h) (Or.inl ⟨by rfl, ?_⟩) ?_ ?_
            rotate_left
            · intro w'
              go_simp
              with_reducible rfl
            rotate_left
            · simp only [Act.put, List.setIfInBounds_toArray, List.set_cons_zero, List.set_cons_succ, i64_w, i32_w]
              rfl
            refine pure_ (i := 7) (N := some 18) (v := ?_) (a' := ?_) #[true, true, true, true, true, false, true, true, false, false, false, false, false, false, false] rfl rfl (any_of HT_.out (by kernel_rfl)) (fun _ _ _ h => h) (Or.inl ⟨by rfl, ?_⟩) ?_ ?_
            rotate_left
            · intro w'
              go_simp
              with_reducible rfl
            rotate_left
            · simp only [Act.put, List.setIfInBounds_toArray, List.set_cons_zero, List.set_cons_succ, i64_w, i32_w]
              rfl
            refine pure_ (i := 8) (N := some 19) (v := ?_) (a' := ?_) #[true, true, true, true, true, false, true, true, true, false, false, false, false, false, false] rfl rfl (any_of HT_.out (by kernel_rfl)) (fun _ _ _ h => h) (Or.inl ⟨by rfl, ?_⟩) ?_ ?_
            rotate_left
            · intro w'
              go_simp
              with_reducible rfl
            rotate_left
            · simp only [Act.put, List.setIfInBounds_toArray, List.set_cons_zero, List.set_cons_succ, i64_w, i32_w]
              rfl
            refine pure_ (i := 9) (N := some 20) (v := ?_) (a' := ?_) #[true, true, true, true, true, false, true, true, true, true, false, false, false, false, false] rfl rfl (any_of HT_.out (by kernel_rfl)) (fun _ _ _ h => h) (Or.inl ⟨by rfl, ?_⟩) ?_ ?_
            rotate_left
            · intro w'
              go_simp
              with_reducible rfl
            rotate_left
            · simp only [Act.put, List.setIfInBounds_toArray, List.set_cons_zero, List.set_cons_succ, i64_w, i32_w]
              rfl
            refine take_ (i := 5) (N := some 16) (v := ?_) (a' := ?_) #[true, true, true, true, true, true, true, true, true, true, false, false, false, false, false] rfl rfl (take_ofW HT_.out HW_.out (by kernel_rfl)) (fun _ _ _ h => h) (Or.inl ⟨by rfl, ?_⟩) hHeld ?_ ?_
            rotate_left
            · rintro w' ⟨s0, s1, s2, s3⟩
              go_simp
              with_reducible rfl
            rotate_left
            · simp only [Act.put, List.setIfInBounds_toArray, List.set_cons_zero, List.set_cons_succ, i64_w, i32_w]
              rfl
            refine take_ (i := 10) (N := some 21) (v := ?_) (a' := ?_) #[true, true, true, true, true, true, true, true, true, true, true, false, false, false, false] rfl rfl (take_ofW HT_.out HW_.out (by kernel_rfl)) (fun _ _ _ h => h) (Or.inl ⟨by rfl, ?_⟩) hHeld ?_ ?_
            rotate_left
            · rintro w' ⟨s0, s1, s2, s3⟩
              go_simp
              with_reducible rfl
            rotate_left
            · simp only [Act.put, List.setIfInBounds_toArray, List.set_cons_zero, List.set_cons_succ, i64_w, i32_w]
              rfl
            refine pure_ (i := 11) (N := some 22) (v := ?_) (a' := ?_) #[true, true, true, true, true, true, true, true, true, true, true, true, false, false, false] rfl rfl (any_of HT_.out (by kernel_rfl)) (fun _ _ _ h => h) (Or.inl ⟨by rfl, ?_⟩) ?_ ?_
            rotate_left
            · intro w'
              go_simp
              with_reducible rfl
            rotate_left
            · simp only [Act.put, List.setIfInBounds_toArray, List.set_cons_zero, List.set_cons_succ, i64_w, i32_w]
              rfl
            refine one_ (i := 12) (N := some 23) #[true, true, true, true, true, true, true, true, true, true, true, true, true, false, false] rfl rfl (one_of HT_.out (by kernel_rfl)) (by decide) (fun K hK => ?_)
            refine value_ (w1 := ?_) (v := ?_) (by rfl) rfl ?_ ?_
            rotate_left 2
            · go_simp
              constructor
              · rfl
              · rfl
            refine hK.out _ _ ⟨(World.cell?_alloc_lt _ _ _ (World.block_lt_of_cell? _ _ (((HB.out.cell (World.block_lt_of_cell? w _ hw101_0)).trans hw101_0)))).trans (((HB.out.cell (World.block_lt_of_cell? w _ hw101_0)).trans hw101_0)), (World.cell?_alloc_lt _ _ _ (World.block_lt_of_cell? _ _ (((HB.out.cell (World.block_lt_of_cell? w _ hw101_1)).trans hw101_1)))).trans (((HB.out.cell (World.block_lt_of_cell? w _ hw101_1)).trans hw101_1)), (World.cell?_alloc_lt _ _ _ (World.block_lt_of_cell? _ _ (((HB.out.cell (World.block_lt_of_cell? w _ hw102_0)).trans hw102_0)))).trans (((HB.out.cell (World.block_lt_of_cell? w _ hw102_0)).trans hw102_0)), (World.cell?_alloc_lt _ _ _ (World.block_lt_of_cell? _ _ (((HB.out.cell (World.block_lt_of_cell? w _ hw102_1)).trans hw102_1)))).trans (((HB.out.cell (World.block_lt_of_cell? w _ hw102_1)).trans hw102_1))⟩ (fun hHeld => ?_)
            clear hK K
            refine norm_ (a' := ?_) ?_ ?_
            rotate_left
            · show Act.put _ (some 23) _ = _
              simp only [Act.put, List.setIfInBounds_toArray, List.set_cons_zero, List.set_cons_succ, i64_w, i32_w]
              rfl
            refine one_ (i := 13) (N := some 24) #[true, true, true, true, true, true, true, true, true, true, true, true, true, true, false] rfl rfl (one_of HT_.out (by kernel_rfl)) (by decide) (fun K hK => ?_)
            refine Kd.R_append_step k39 (w0 := w) w.heap.size (by rfl) (.tmp 11) (.tmp 23) 32 39 (.agg #[(.int .i64 0), (.int .i64 0)]) 16 rfl Try.underlying32 info39 rfl (by decide) (by omega) u3 x3_1 (⟨(rd_T37 l0 x4_1).f0, (rd_T37 l0 x4_1).f1⟩ : S39) [.int .i64 ((rd_T37 l0 x4_1).f0), .int .i64 ((rd_T37 l0 x4_1).f1)] (fun _ => True) (fun _ => False) rfl rfl ?aP (fun _ hk => hk.elim) ?aF ?aO ?aB ?aS ?aL ?_
            (case aP => exact k39_mkM _ _ _ (⟨(rd_T37 l0 x4_1).f0, (rd_T37 l0 x4_1).f1⟩ : S39))
            (case aB => exact (by repeat (first | (with_reducible first | exact HB.out | apply below_alloc | apply pw_below_drewN | apply below_drew1) | exact HB.out)))
            (case aF => exact (fun _ _ => trivial))
            (case aO => exact (by (with_reducible repeat (first | apply Kd.R_alloc | apply Kd.R_drewN | apply Kd.R_drew)); exact HO_3.out))
            (case aS => exact (below_size (by repeat (first | (with_reducible first | exact HB.out | apply below_alloc | apply pw_below_drewN | apply below_drew1) | exact HB.out))))
            (case aL => have := LMc4.out; omega)
            intro v104 w6 ho hb hg hat
            rw [← Ny103.out] at ho
            have n0_ := Aside0.mk (hb)
            have n1_ := Aside0.mk (ho)
            clear HB
            clear HO_3
            have HB := n0_
            have HO105 := n1_
            clear n0_ n1_
            clear ho hb hg hat
            refine hK.out _ _ ⟨((HB.out.cell (World.block_lt_of_cell? w _ hw101_0)).trans hw101_0), ((HB.out.cell (World.block_lt_of_cell? w _ hw101_1)).trans hw101_1), ((HB.out.cell (World.block_lt_of_cell? w _ hw102_0)).trans hw102_0), ((HB.out.cell (World.block_lt_of_cell? w _ hw102_1)).trans hw102_1)⟩ (fun hHeld => ?_)
            clear hK K
            refine norm_ (a' := ?_) ?_ ?_
            rotate_left
            · show Act.put _ (some 24) _ = _
              simp only [Act.put, List.setIfInBounds_toArray, List.set_cons_zero, List.set_cons_succ, i64_w, i32_w]
              rfl
            refine pure_ (i := 14) (N := some 3) (v := ?_) (a' := ?_) #[true, true, true, true, true, true, true, true, true, true, true, true, true, true, true] rfl rfl (any_of HT_.out (by kernel_rfl)) (fun _ _ _ h => h) (Or.inl ⟨by rfl, ?_⟩) ?_ ?_
            rotate_left
            · intro w'
              go_simp
              with_reducible rfl
            rotate_left
            · simp only [Act.put, List.setIfInBounds_toArray, List.set_cons_zero, List.set_cons_succ, i64_w, i32_w]
              rfl
            refine done_ (done_of HT_.out (by kernel_rfl)) ?_
            try go_wp2
            go_roundg k1
            case measure => have := HK1.out; omega
            case rel => exact ⟨(y103), (wrap64 (x4_1 + 1)), (by first | rfl | (simp; done) | (simp [*]; done)), H', ⟨by have := HK1.out; omega⟩, ⟨by (with_reducible repeat (first | apply Kd.R_alloc | apply Kd.R_drewN | apply Kd.R_drew)); exact HO105.out⟩, ⟨by repeat (first | (with_reducible first | exact HB.out | apply below_alloc | apply pw_below_drewN | apply below_drew1) | exact HB.out)⟩⟩
          · rw [if_neg c4] at H
            exact absurd H (by simp)
        · rw [if_neg c3] at H
          exact absurd H (by simp)
      · rw [if_neg c2] at H
        have c2b0 : decide (x4_1 < (l0.length : Int)) = false := decide_eq_false c2
        clear c2
        obtain rfl := Option.some.inj H
        go_wp2
        go_ret
        exact ⟨_, by first | rfl | (simp [errW_none, errW_some] <;> rfl) | (simp [*, errW_none, errW_some] <;> rfl), by (with_reducible repeat (first | apply Kd.R_alloc | apply Kd.R_drewN | apply Kd.R_drew)); exact HO_3.out, by repeat (first | (with_reducible first | exact HB.out | apply below_alloc | apply pw_below_drewN | apply below_drew1) | exact HB.out)⟩

end Go.Proofs.Ytadafplbgophfaa.PA
end
section
/- The two judges of a matching, and the pairs as both packages have them. -/
namespace Go.Proofs.Ytadafplbgophfaa.PA
set_option linter.unusedVariables false
open Go.RowKit Go.Proofs.YtadafplbgophfaaW.PrintWords Go.Proofs.YtadafplbgophfaaW.PrintLast Go.Proofs.YtadafplbgophfaaW.PrintMore
namespace Jdg
theorem w64 {x : Int} (h0 : -9223372036854775808 ≤ x) (h1 : x ≤ 9223372036854775807) : wrap64 x = x := by unfold wrap64; omega
def to37 (p : S39) : S37 := ⟨p.f0, p.f1⟩
def to39 (p : S37) : S39 := ⟨p.f0, p.f1⟩
theorem rdT39_nat (xs : List S39) {i : Nat} (h : i < xs.length) : rd_T39 xs (i : Int) = xs[i] := by simp [rd_T39, List.getD_eq_getElem?_getD, h]
theorem rdT37_nat (xs : List S37) {i : Nat} (h : i < xs.length) : rd_T37 xs (i : Int) = xs[i] := by simp [rd_T37, List.getD_eq_getElem?_getD, h]

theorem to_go (r : List S37) (hr : r.length ≤ 1000000000) : ∀ (d i : Nat), r.length - i ≤ d → i ≤ r.length → Ev (fun k => tripartitelaw03_To.l0 k r ((r.take i).map to39) i) (r.map to39) := by
  intro d
  induction d with
  | zero =>
    intro i h1 h2
    refine Ev.step (f := fun _ => some (r.map to39)) (fun k => ?_) (Ev.now _)
    simp only [tripartitelaw03_To.l0]
    rw [if_neg (by omega), List.take_of_length_le (by omega)]
  | succ d ih =>
    intro i h1 h2
    by_cases hi : i < r.length
    · refine Ev.step (fun k => ?_) (ih (i + 1) (by omega) (by omega))
      simp only [tripartitelaw03_To.l0]
      rw [if_pos (by omega), if_pos (by omega), if_pos (by rw [List.length_map, List.length_take]; omega), w64 (by omega) (by omega), rdT37_nat r hi, List.take_succ_eq_append_getElem hi, List.map_append]
      rfl
    · refine Ev.step (f := fun _ => some (r.map to39)) (fun k => ?_) (Ev.now _)
      simp only [tripartitelaw03_To.l0]
      rw [if_neg (by omega), List.take_of_length_le (by omega)]
theorem to_ok (r : List S37) (hr : r.length ≤ 1000000000) : Ev (fun k => tripartitelaw03_To.f k r) (r.map to39) := by
  have := to_go r hr r.length 0 (by omega) (by omega)
  exact this

/-- pair i of l is one that may be, behind the one ahead of it -/
def OkAt (a b : List Int) (l : List S37) (i : Nat) : Prop := ∀ h : i < l.length, (0 ≤ l[i].f0 ∧ l[i].f0 < a.length ∧ 0 ≤ l[i].f1 ∧ l[i].f1 < b.length ∧ rd a l[i].f0 = rd b l[i].f1) ∧ ∀ h0 : 0 < i, (l[i - 1]'(by omega)).f0 < l[i].f0 ∧ (l[i - 1]'(by omega)).f1 < l[i].f1

theorem refRight_go (a b : List Int) (l : List S37) (hl : l.length ≤ 1000000000) : ∀ (d i : Nat), l.length - i ≤ d → i ≤ l.length → (∀ j, j < i → OkAt a b l j) → ∃ v, Ev (fun k => tripartiteref03_Right.l0 k a b l i) v ∧ (v = true ↔ ∀ j, j < l.length → OkAt a b l j) := by
  intro d
  induction d with
  | zero =>
    intro i h1 h2 h3
    refine ⟨true, Ev.step (f := fun _ => some true) (fun k => ?_) (Ev.now _), ⟨fun _ j hj => h3 j (by omega), fun _ => rfl⟩⟩
    simp only [tripartiteref03_Right.l0]
    rw [if_neg (by omega)]
  | succ d ih =>
    intro i h1 h2 h3
    by_cases hi : i < l.length
    · have f1 : (i : Int) < (l.length : Int) := by omega
      have f2 : (0 : Int) ≤ (i : Int) := by omega
      have f3 : i - 1 < l.length := by omega
      have f4 : 0 < i → wrap64 ((i : Int) - 1) = ((i - 1 : Nat) : Int) := fun h => by rw [w64 (by omega) (by omega)]; omega
      have f5 : (0 : Int) ≤ ((i - 1 : Nat) : Int) := by omega
      have f6 : ((i - 1 : Nat) : Int) < (l.length : Int) := by omega
      have f7 : 0 < i → (i : Int) > 0 := fun h => by omega
      have f8 : ¬ 0 < i → ¬ (i : Int) > 0 := fun h => by omega
      have ew : wrap64 ((i : Int) + 1) = ((i + 1 : Nat) : Int) := by rw [w64 (by omega) (by omega)]; omega
      have next : OkAt a b l i → ∃ v, Ev (fun k => tripartiteref03_Right.l0 k a b l ((i + 1 : Nat) : Int)) v ∧ (v = true ↔ ∀ j, j < l.length → OkAt a b l j) := fun ho =>
        ih (i + 1) (by omega) (by omega) (fun j hj => by
          rcases Nat.lt_succ_iff_lt_or_eq.1 hj with h | rfl
          · exact h3 j h
          · exact ho)
      clear ih h3 h1 h2 hl
      have hnot : ¬ OkAt a b l i → (false = true ↔ ∀ j, j < l.length → OkAt a b l j) := fun h => ⟨(fun e => by cases e), (fun e => absurd (e i hi) h)⟩
      have bad : ∀ x y, ¬ OkAt a b l i → ∃ v, Ev (fun k => tripartiteref03_Right.j1 k a b l i true x y) v ∧ (v = true ↔ ∀ j, j < l.length → OkAt a b l j) := fun x y h =>
        ⟨false, Ev.step (f := fun _ => some false) (fun k => by simp only [tripartiteref03_Right.j1, if_true]) (Ev.now _), hnot h⟩
      have e := rdT37_nat l hi
      by_cases t1 : l[i].f0 < 0
      · obtain ⟨v, hv, hv2⟩ := bad l[i].f0 l[i].f1 (fun h => absurd (h hi).1.1 (Int.not_le.mpr t1))
        refine ⟨v, Ev.step (fun k => ?_) hv, hv2⟩
        simp only [tripartiteref03_Right.l0]; rw [if_pos f1, if_pos f2, e, if_pos t1]
      by_cases t2 : l[i].f0 ≥ (a.length : Int)
      · obtain ⟨v, hv, hv2⟩ := bad l[i].f0 l[i].f1 (fun h => absurd (h hi).1.2.1 (Int.not_lt.mpr t2))
        refine ⟨v, Ev.step (fun k => ?_) hv, hv2⟩
        simp only [tripartiteref03_Right.l0]; rw [if_pos f1, if_pos f2, e, if_neg t1, if_pos t2]
      by_cases t3 : l[i].f1 < 0
      · obtain ⟨v, hv, hv2⟩ := bad l[i].f0 l[i].f1 (fun h => absurd (h hi).1.2.2.1 (Int.not_le.mpr t3))
        refine ⟨v, Ev.step (fun k => ?_) hv, hv2⟩
        simp only [tripartiteref03_Right.l0]; rw [if_pos f1, if_pos f2, e, if_neg t1, if_neg t2, if_pos t3]
      by_cases t4 : l[i].f1 ≥ (b.length : Int)
      · obtain ⟨v, hv, hv2⟩ := bad l[i].f0 l[i].f1 (fun h => absurd (h hi).1.2.2.2.1 (Int.not_lt.mpr t4))
        refine ⟨v, Ev.step (fun k => ?_) hv, hv2⟩
        simp only [tripartiteref03_Right.l0]; rw [if_pos f1, if_pos f2, e, if_neg t1, if_neg t2, if_neg t3, if_pos t4]
      have u1 := Int.not_lt.mp t1
      have u2 := Int.not_le.mp t2
      have u3 := Int.not_lt.mp t3
      have u4 := Int.not_le.mp t4
      by_cases t5 : rd a l[i].f0 = rd b l[i].f1
      · have e5 : (rd a l[i].f0 != rd b l[i].f1) = false := bne_eq_false_iff_eq.mpr t5
        have go1 : ∀ v, Ev (fun k => tripartiteref03_Right.j1 k a b l i false l[i].f0 l[i].f1) v → Ev (fun k => tripartiteref03_Right.l0 k a b l i) v := by
          intro v hv
          refine Ev.step (fun k => ?_) hv
          simp only [tripartiteref03_Right.l0]; rw [if_pos f1, if_pos f2, e, if_neg t1, if_neg t2, if_neg t3, if_neg t4, if_pos u1, if_pos u2, if_pos u3, if_pos u4, e5]
        by_cases h0 : 0 < i
        · have ep := f4 h0
          have e' := rdT37_nat l (i := i - 1) f3
          by_cases t6 : (l[i - 1]'f3).f0 ≥ l[i].f0
          · refine ⟨false, go1 _ (Ev.step (f := fun _ => some false) (fun k => ?_) (Ev.now _)), hnot (fun h => absurd ((h hi).2 h0).1 (Int.not_lt.mpr t6))⟩
            simp only [tripartiteref03_Right.j1, Bool.false_eq_true, if_false]; rw [if_pos (f7 h0), ep, if_pos f5, if_pos f6, e', if_pos t6]
          by_cases t7 : (l[i - 1]'f3).f1 ≥ l[i].f1
          · refine ⟨false, go1 _ (Ev.step (f := fun _ => some false) (fun k => ?_) (Ev.now _)), hnot (fun h => absurd ((h hi).2 h0).2 (Int.not_lt.mpr t7))⟩
            simp only [tripartiteref03_Right.j1, Bool.false_eq_true, if_false]; rw [if_pos (f7 h0), ep, if_pos f5, if_pos f6, e', if_neg t6, if_pos t7]
          · obtain ⟨v, hv, hv2⟩ := next (fun _ => ⟨⟨u1, u2, u3, u4, t5⟩, fun _ => ⟨Int.not_le.mp t6, Int.not_le.mp t7⟩⟩)
            refine ⟨v, go1 _ (Ev.step (fun k => ?_) hv), hv2⟩
            simp only [tripartiteref03_Right.j1, Bool.false_eq_true, if_false]; rw [if_pos (f7 h0), ep, if_pos f5, if_pos f6, e', if_neg t6, if_neg t7, ew]
        · obtain ⟨v, hv, hv2⟩ := next (fun _ => ⟨⟨u1, u2, u3, u4, t5⟩, fun h => absurd h h0⟩)
          refine ⟨v, go1 _ (Ev.step (fun k => ?_) hv), hv2⟩
          simp only [tripartiteref03_Right.j1, Bool.false_eq_true, if_false]; rw [if_neg (f8 h0), ew]
      · obtain ⟨v, hv, hv2⟩ := bad l[i].f0 l[i].f1 (fun h => t5 (h hi).1.2.2.2.2)
        have e5 : (rd a l[i].f0 != rd b l[i].f1) = true := bne_iff_ne.mpr t5
        refine ⟨v, Ev.step (fun k => ?_) hv, hv2⟩
        simp only [tripartiteref03_Right.l0]; rw [if_pos f1, if_pos f2, e, if_neg t1, if_neg t2, if_neg t3, if_neg t4, if_pos u1, if_pos u2, if_pos u3, if_pos u4, e5]
    · refine ⟨true, Ev.step (f := fun _ => some true) (fun k => ?_) (Ev.now _), ⟨fun _ j hj => h3 j (by omega), fun _ => rfl⟩⟩
      simp only [tripartiteref03_Right.l0]
      rw [if_neg (by omega)]
theorem refRight_ok (a b : List Int) (l : List S37) (hl : l.length ≤ 1000000000) : ∃ v, Ev (fun k => tripartiteref03_Right.f k a b l) v ∧ (v = true ↔ ∀ j, j < l.length → OkAt a b l j) :=
  refRight_go a b l hl l.length 0 (by omega) (by omega) (fun j hj => by omega)

theorem lcsRight_go (a b : List Int) (l : List S37) (hl : l.length ≤ 1000000000) : ∀ (d i : Nat) (wa wb : Int), l.length - i ≤ d → i ≤ l.length → (∀ j, j < i → OkAt a b l j) → ((i = 0 ∧ wa = -1 ∧ wb = -1) ∨ ∃ h : 0 < i, ∃ h' : i - 1 < l.length, wa = l[i - 1].f0 ∧ wb = l[i - 1].f1) →
    ∃ v, Ev (fun k => lcs_Right.l0 k a b (l.map to39) (l.length : Int) i wa wb) v ∧ (v = true ↔ ∀ j, j < l.length → OkAt a b l j) := by
  intro d
  induction d with
  | zero =>
    intro i wa wb h1 h2 h3 h4
    refine ⟨true, Ev.step (f := fun _ => some true) (fun k => ?_) (Ev.now _), ⟨fun _ j hj => h3 j (by omega), fun _ => rfl⟩⟩
    simp only [lcs_Right.l0]
    rw [if_neg (by omega)]
  | succ d ih =>
    intro i wa wb h1 h2 h3 h4
    by_cases hi : i < l.length
    · have f1 : (i : Int) < (l.length : Int) := by omega
      have f2 : (0 : Int) ≤ (i : Int) := by omega
      have f3 : (i : Int) < ((l.map to39).length : Int) := by rw [List.length_map]; exact f1
      have ew : wrap64 ((i : Int) + 1) = ((i + 1 : Nat) : Int) := by rw [w64 (by omega) (by omega)]; omega
      have next : OkAt a b l i → ∃ v, Ev (fun k => lcs_Right.l0 k a b (l.map to39) (l.length : Int) ((i + 1 : Nat) : Int) l[i].f0 l[i].f1) v ∧ (v = true ↔ ∀ j, j < l.length → OkAt a b l j) := fun ho =>
        ih (i + 1) l[i].f0 l[i].f1 (by omega) (by omega) (fun j hj => by
          rcases Nat.lt_succ_iff_lt_or_eq.1 hj with h | rfl
          · exact h3 j h
          · exact ho) (.inr ⟨by omega, hi, rfl, rfl⟩)
      have hw : -1 ≤ wa ∧ -1 ≤ wb := by
        rcases h4 with ⟨_, rfl, rfl⟩ | ⟨h, h', rfl, rfl⟩
        · omega
        · have q := (h3 (i - 1) (by omega) h').1
          exact ⟨Int.le_trans (by decide) q.1, Int.le_trans (by decide) q.2.2.1⟩
      have hok : OkAt a b l i ↔ (wa < l[i].f0 ∧ wb < l[i].f1) ∧ l[i].f0 < a.length ∧ l[i].f1 < b.length ∧ rd a l[i].f0 = rd b l[i].f1 := by
        have p1 : ∀ {x y : Int}, -1 ≤ x → x < y → 0 ≤ y := fun h1 h2 => by omega
        have p2 : ∀ {y : Int}, 0 ≤ y → -1 < y := fun h1 => by omega
        clear h1 h2 ih next ew f1 f2 f3
        rcases h4 with ⟨h0, rfl, rfl⟩ | ⟨h, h', rfl, rfl⟩
        · exact ⟨fun q => ⟨⟨p2 (q hi).1.1, p2 (q hi).1.2.2.1⟩, (q hi).1.2.1, (q hi).1.2.2.2.1, (q hi).1.2.2.2.2⟩, fun q _ => ⟨⟨p1 hw.1 q.1.1, q.2.1, p1 hw.2 q.1.2, q.2.2.1, q.2.2.2⟩, fun h => by omega⟩⟩
        · exact ⟨fun q => ⟨(q hi).2 h, (q hi).1.2.1, (q hi).1.2.2.2.1, (q hi).1.2.2.2.2⟩, fun q _ => ⟨⟨p1 hw.1 q.1.1, q.2.1, p1 hw.2 q.1.2, q.2.2.1, q.2.2.2⟩, fun _ => q.1⟩⟩
      have hnot : ¬ OkAt a b l i → (false = true ↔ ∀ j, j < l.length → OkAt a b l j) := fun h => ⟨(fun e => by cases e), (fun e => absurd (e i hi) h)⟩
      have hi' : i < (l.map to39).length := by rw [List.length_map]; exact hi
      have e : rd_T39 (l.map to39) (i : Int) = to39 l[i] := by rw [rdT39_nat _ hi', List.getElem_map]
      have ef0 : (to39 l[i]).f0 = l[i].f0 := rfl
      have ef1 : (to39 l[i]).f1 = l[i].f1 := rfl
      have p1 : ∀ {x y : Int}, -1 ≤ x → ¬ y ≤ x → 0 ≤ y := fun h1 h2 => by omega
      clear ih h3 h4 h1 h2 hl
      by_cases t1 : l[i].f0 ≤ wa
      · refine ⟨false, Ev.step (f := fun _ => some false) (fun k => ?_) (Ev.now _), hnot (fun h => absurd (hok.1 h).1.1 (Int.not_lt.mpr t1))⟩
        simp only [lcs_Right.l0]; rw [if_pos f1, if_pos f2, if_pos f3, e, ef0, if_pos t1]
      by_cases t2 : l[i].f1 ≤ wb
      · refine ⟨false, Ev.step (f := fun _ => some false) (fun k => ?_) (Ev.now _), hnot (fun h => absurd (hok.1 h).1.2 (Int.not_lt.mpr t2))⟩
        simp only [lcs_Right.l0]; rw [if_pos f1, if_pos f2, if_pos f3, e, ef0, ef1, if_neg t1, if_pos t2]
      by_cases t3 : l[i].f0 ≥ (a.length : Int)
      · refine ⟨false, Ev.step (f := fun _ => some false) (fun k => ?_) (Ev.now _), hnot (fun h => absurd (hok.1 h).2.1 (Int.not_lt.mpr t3))⟩
        simp only [lcs_Right.l0]; rw [if_pos f1, if_pos f2, if_pos f3, e, ef0, ef1, if_neg t1, if_neg t2, if_pos t3]
      by_cases t4 : l[i].f1 ≥ (b.length : Int)
      · refine ⟨false, Ev.step (f := fun _ => some false) (fun k => ?_) (Ev.now _), hnot (fun h => absurd (hok.1 h).2.2.1 (Int.not_lt.mpr t4))⟩
        simp only [lcs_Right.l0]; rw [if_pos f1, if_pos f2, if_pos f3, e, ef0, ef1, if_neg t1, if_neg t2, if_neg t3, if_pos t4]
      have u1 := p1 hw.1 t1
      have u2 := Int.not_le.mp t3
      have u3 := p1 hw.2 t2
      have u4 := Int.not_le.mp t4
      by_cases t5 : rd a l[i].f0 = rd b l[i].f1
      · obtain ⟨v, hv, hv2⟩ := next (hok.2 ⟨⟨Int.not_le.mp t1, Int.not_le.mp t2⟩, u2, u4, t5⟩)
        refine ⟨v, Ev.step (fun k => ?_) hv, hv2⟩
        simp only [lcs_Right.l0]; rw [if_pos f1, if_pos f2, if_pos f3, e, ef0, ef1, if_neg t1, if_neg t2, if_neg t3, if_neg t4, if_pos u1, if_pos u2, if_pos u3, if_pos u4, if_pos t5, ew]
      · refine ⟨false, Ev.step (f := fun _ => some false) (fun k => ?_) (Ev.now _), hnot (fun h => t5 (hok.1 h).2.2.2)⟩
        simp only [lcs_Right.l0]; rw [if_pos f1, if_pos f2, if_pos f3, e, ef0, ef1, if_neg t1, if_neg t2, if_neg t3, if_neg t4, if_pos u1, if_pos u2, if_pos u3, if_pos u4, if_neg t5]
    · refine ⟨true, Ev.step (f := fun _ => some true) (fun k => ?_) (Ev.now _), ⟨fun _ j hj => h3 j (by omega), fun _ => rfl⟩⟩
      simp only [lcs_Right.l0]
      rw [if_neg (by omega)]
theorem lcsRight_ok (a b : List Int) (l : List S37) (hl : l.length ≤ 1000000000) : ∃ v, Ev (fun k => lcs_Right.f k a b (l.map to39)) v ∧ (v = true ↔ ∀ j, j < l.length → OkAt a b l j) := by
  obtain ⟨v, hv, h⟩ := lcsRight_go a b l hl l.length 0 (-1) (-1) (by omega) (by omega) (fun j hj => by omega) (.inl ⟨rfl, rfl, rfl⟩)
  refine ⟨v, Ev.congr (fun k => ?_) hv, h⟩
  unfold lcs_Right.f
  rw [List.length_map]; rfl

end Jdg
end Go.Proofs.Ytadafplbgophfaa.PA
end
section
/- Scripts as plain lists of steps: how texts come to one, its sides, its counts. -/
namespace Go.Proofs.Ytadafplbgophfaa.PA
set_option linter.unusedSimpArgs false
set_option linter.unusedVariables false
open Go.RowKit Go.Proofs.YtadafplbgophfaaW.PrintWords Go.Proofs.YtadafplbgophfaaW.PrintLast Go.Proofs.YtadafplbgophfaaW.PrintMore
open Jdg

/-- down from the end to the start -/
theorem Ev.down {P : Nat → Prop} (n : Nat) (hend : P n) (hstep : ∀ i, i < n → P (i + 1) → P i) : P 0 := by
  have : ∀ d i, n - i ≤ d → i ≤ n → P i := by
    intro d
    induction d with
    | zero => intro i h1 h2; obtain rfl : i = n := by omega
              exact hend
    | succ d ih =>
      intro i h1 h2
      by_cases h : i < n
      · exact hstep i h (ih (i + 1) (by omega) (by omega))
      · obtain rfl : i = n := by omega
        exact hend
  exact this n 0 (by omega) (by omega)
theorem next64 {i : Nat} (h : i ≤ 1000000000000) : wrap64 ((i : Int) + 1) = ((i + 1 : Nat) : Int) := by rw [w64 (by omega) (by omega)]; omega
theorem str_eq {a b : ByteArray} : a.toList = b.toList ↔ a = b := by
  rw [ByteArray.toList_eq, ByteArray.toList_eq]
  constructor
  · intro h
    exact ByteArray.ext (Array.toList_inj.1 h)
  · intro h; rw [h]
theorem data_eq {a b : ByteArray} : a.data.toList = b.data.toList ↔ a = b := by rw [← ByteArray.toList_eq, ← ByteArray.toList_eq]; exact str_eq

def t143 (s : S143) : S144 := ⟨s.f0, s.f1⟩
def t144 (s : S144) : S143 := ⟨s.f0, s.f1⟩
theorem t144_t143 (s : S143) : t144 (t143 s) = s := rfl
theorem t143_t144 (s : S144) : t143 (t144 s) = s := rfl
theorem map_t143_t144 (l : List S144) : (l.map t144).map t143 = l := by rw [List.map_map]; simp [Function.comp_def, t143_t144]
theorem map_t144_t143 (l : List S143) : (l.map t143).map t144 = l := by rw [List.map_map]; simp [Function.comp_def, t144_t143]
theorem rdT144_nat (xs : List S144) {i : Nat} (h : i < xs.length) : rd_T144 xs (i : Int) = xs[i] := by simp [rd_T144, List.getD_eq_getElem?_getD, h]
theorem rdT143_nat' (xs : List S143) {i : Nat} (h : i < xs.length) : rd_T143 xs (i : Int) = xs[i] := by simp [rd_T143, List.getD_eq_getElem?_getD, h]
theorem rdT144_last (i : List S144) (x : S144) : rd_T144 (i ++ [x]) (i.length : Int) = x := by rw [rdT144_nat _ (by simp)]; simp
theorem rdT143_last (i : List S143) (x : S143) : rd_T143 (i ++ [x]) (i.length : Int) = x := by rw [rdT143_nat' _ (by simp)]; simp

/-- texts come to a script -/
def pt (l : List S144) (k : Int) (t : List ByteArray) : List S144 :=
  if t = [] then l else match l.reverse with
    | [] => [⟨k, t⟩]
    | x :: i => if x.f0 = k then i.reverse ++ [⟨k, x.f1 ++ t⟩] else i.reverse ++ [x] ++ [⟨k, t⟩]
theorem pt_none (l : List S144) (k : Int) : pt l k [] = l := by simp [pt]
theorem pt_nil {k : Int} {t : List ByteArray} (h : t ≠ []) : pt [] k t = [⟨k, t⟩] := by simp [pt, h]
theorem pt_same {i : List S144} {x : S144} {k : Int} {t : List ByteArray} (h : t ≠ []) (e : x.f0 = k) : pt (i ++ [x]) k t = i ++ [⟨k, x.f1 ++ t⟩] := by simp [pt, h, e]
theorem pt_other {i : List S144} {x : S144} {k : Int} {t : List ByteArray} (h : t ≠ []) (e : x.f0 ≠ k) : pt (i ++ [x]) k t = i ++ [x] ++ [⟨k, t⟩] := by simp [pt, h, e]
theorem snoc_cases {α : Type} (l : List α) : l = [] ∨ ∃ i x, l = i ++ [x] := by
  rcases List.eq_nil_or_concat l with h | ⟨i, x, h⟩
  · exact .inl h
  · exact .inr ⟨i, x, by rw [h, List.concat_eq_append]⟩
theorem pt_cases (l : List S144) (k : Int) (t : List ByteArray) : (t = [] ∧ pt l k t = l) ∨ (t ≠ [] ∧ l = [] ∧ pt l k t = [⟨k, t⟩]) ∨ (t ≠ [] ∧ ∃ i x, l = i ++ [x] ∧ x.f0 = k ∧ pt l k t = i ++ [⟨k, x.f1 ++ t⟩]) ∨ (t ≠ [] ∧ ∃ i x, l = i ++ [x] ∧ x.f0 ≠ k ∧ pt l k t = i ++ [x] ++ [⟨k, t⟩]) := by
  by_cases h : t = []
  · exact .inl ⟨h, by rw [h, pt_none]⟩
  · rcases snoc_cases l with rfl | ⟨i, x, rfl⟩
    · exact .inr (.inl ⟨h, rfl, pt_nil h⟩)
    · by_cases e : x.f0 = k
      · exact .inr (.inr (.inl ⟨h, i, x, rfl, e, pt_same h e⟩))
      · exact .inr (.inr (.inr ⟨h, i, x, rfl, e, pt_other h e⟩))

def tot (l : List S144) : Nat := (l.map fun s => s.f1.length).sum
def cnt (q : Int) (l : List S144) : Nat := (l.map fun s => if s.f0 = q then s.f1.length else 0).sum
def side (q : Int) (l : List S144) : List ByteArray := l.flatMap fun s => if s.f0 = 0 ∨ s.f0 = q then s.f1 else []
def Adj : List S144 → Prop
  | [] => True
  | [_] => True
  | x :: y :: l => x.f0 ≠ y.f0 ∧ Adj (y :: l)
def NE (l : List S144) : Prop := ∀ x ∈ l, x.f1 ≠ []
def Kinds (l : List S144) : Prop := ∀ x ∈ l, 0 ≤ x.f0 ∧ x.f0 ≤ 2
theorem tot_append (l m : List S144) : tot (l ++ m) = tot l + tot m := by simp [tot]
theorem cnt_append (q : Int) (l m : List S144) : cnt q (l ++ m) = cnt q l + cnt q m := by simp [cnt]
theorem side_append (q : Int) (l m : List S144) : side q (l ++ m) = side q l ++ side q m := by simp [side]
theorem tot_one (x : S144) : tot [x] = x.f1.length := by simp [tot]
theorem cnt_one (q : Int) (x : S144) : cnt q [x] = if x.f0 = q then x.f1.length else 0 := by simp [cnt]
theorem side_one (q : Int) (x : S144) : side q [x] = if x.f0 = 0 ∨ x.f0 = q then x.f1 else [] := by simp [side]
theorem adj_snoc : ∀ (i : List S144) (x y : S144), Adj (i ++ [x] ++ [y]) ↔ Adj (i ++ [x]) ∧ x.f0 ≠ y.f0
  | [], x, y => by simp [Adj]
  | [z], x, y => by simp [Adj]
  | z :: z2 :: i, x, y => by
    have := adj_snoc (z2 :: i) x y
    simp only [List.cons_append, Adj] at this ⊢
    rw [this, and_assoc]
theorem adj_last : ∀ (i : List S144) (x y : S144), x.f0 = y.f0 → Adj (i ++ [x]) → Adj (i ++ [y])
  | [], x, y, _, _ => by simp [Adj]
  | [z], x, y, e, h => by simp only [List.cons_append, List.nil_append, Adj] at h ⊢; exact ⟨e ▸ h.1, trivial⟩
  | z :: z2 :: i, x, y, e, h => by
    simp only [List.cons_append, Adj] at h ⊢
    exact ⟨h.1, adj_last (z2 :: i) x y e h.2⟩
theorem pt_tot (l : List S144) (k : Int) (t : List ByteArray) : tot (pt l k t) = tot l + t.length := by
  rcases pt_cases l k t with ⟨rfl, e⟩ | ⟨h, rfl, e⟩ | ⟨h, i, x, rfl, hk, e⟩ | ⟨h, i, x, rfl, hk, e⟩ <;> rw [e]
  · simp
  · simp [tot]
  · simp only [tot_append, tot_one, List.length_append]; omega
  · simp only [tot_append, tot_one]
theorem pt_cnt (q : Int) (l : List S144) (k : Int) (t : List ByteArray) : cnt q (pt l k t) = cnt q l + if k = q then t.length else 0 := by
  rcases pt_cases l k t with ⟨rfl, e⟩ | ⟨h, rfl, e⟩ | ⟨h, i, x, rfl, hk, e⟩ | ⟨h, i, x, rfl, hk, e⟩ <;> rw [e]
  · simp
  · simp [cnt]
  · simp only [cnt_append, cnt_one, hk]; split <;> simp <;> omega
  · simp only [cnt_append, cnt_one]
theorem pt_side (q : Int) (l : List S144) (k : Int) (t : List ByteArray) : side q (pt l k t) = side q l ++ if k = 0 ∨ k = q then t else [] := by
  rcases pt_cases l k t with ⟨rfl, e⟩ | ⟨h, rfl, e⟩ | ⟨h, i, x, rfl, hk, e⟩ | ⟨h, i, x, rfl, hk, e⟩ <;> rw [e]
  · simp
  · simp [side]
  · simp only [side_append, side_one, hk]; split <;> simp
  · simp only [side_append, side_one]
theorem pt_NE {l : List S144} (h : NE l) (k : Int) (t : List ByteArray) : NE (pt l k t) := by
  rcases pt_cases l k t with ⟨rfl, e⟩ | ⟨ht, rfl, e⟩ | ⟨ht, i, x, rfl, hk, e⟩ | ⟨ht, i, x, rfl, hk, e⟩ <;> rw [e]
  · exact h
  · intro y hy; simp at hy; subst hy; exact ht
  · intro y hy
    rcases List.mem_append.1 hy with hy | hy
    · exact h y (by simp [hy])
    · simp at hy; subst hy; simp [ht]
  · intro y hy
    rcases List.mem_append.1 hy with hy | hy
    · exact h y hy
    · simp at hy; subst hy; exact ht
theorem pt_Kinds {l : List S144} (h : Kinds l) {k : Int} (hk : 0 ≤ k ∧ k ≤ 2) (t : List ByteArray) : Kinds (pt l k t) := by
  rcases pt_cases l k t with ⟨rfl, e⟩ | ⟨ht, rfl, e⟩ | ⟨ht, i, x, rfl, hk', e⟩ | ⟨ht, i, x, rfl, hk', e⟩ <;> rw [e]
  · exact h
  · intro y hy; simp at hy; subst hy; exact hk
  · intro y hy
    rcases List.mem_append.1 hy with hy | hy
    · exact h y (by simp [hy])
    · simp at hy; subst hy; exact hk
  · intro y hy
    rcases List.mem_append.1 hy with hy | hy
    · exact h y hy
    · simp at hy; subst hy; exact hk
theorem pt_Adj {l : List S144} (h : Adj l) (k : Int) (t : List ByteArray) : Adj (pt l k t) := by
  rcases pt_cases l k t with ⟨rfl, e⟩ | ⟨ht, rfl, e⟩ | ⟨ht, i, x, rfl, hk', e⟩ | ⟨ht, i, x, rfl, hk', e⟩ <;> rw [e]
  · exact h
  · simp [Adj]
  · exact adj_last i x _ (by simp [hk']) h
  · exact (adj_snoc i x _).2 ⟨h, by simpa using hk'⟩
theorem len_tot {l : List S144} (h : NE l) : l.length ≤ tot l := by
  induction l with
  | nil => simp
  | cons x l ih =>
    have h1 := ih (fun y hy => h y (by simp [hy]))
    have h2 : 0 < x.f1.length := List.length_pos_iff.2 (h x (by simp))
    simp only [tot, List.map_cons, List.sum_cons, List.length_cons] at h1 ⊢
    omega
theorem el_tot {l : List S144} {x : S144} (h : x ∈ l) : x.f1.length ≤ tot l := by
  induction l with
  | nil => simp at h
  | cons y l ih =>
    simp only [tot, List.map_cons, List.sum_cons] at ih ⊢
    rcases List.mem_cons.1 h with rfl | h
    · omega
    · have := ih h; omega
theorem side_len (l : List S144) {q : Int} (hq : q ≠ 0) : (side q l).length = cnt 0 l + cnt q l := by
  induction l with
  | nil => simp [side, cnt]
  | cons x l ih =>
    have e1 : side q (x :: l) = side q [x] ++ side q l := side_append q [x] l
    have e2 : ∀ r, cnt r (x :: l) = cnt r [x] + cnt r l := fun r => cnt_append r [x] l
    rw [e1, e2, e2, List.length_append, ih, side_one, cnt_one, cnt_one]
    by_cases h0 : x.f0 = 0
    · rw [if_pos (.inl h0), if_pos h0, if_neg (by rw [h0]; exact fun e => hq e.symm)]; omega
    · by_cases h1 : x.f0 = q
      · rw [if_pos (.inr h1), if_neg h0, if_pos h1]; omega
      · rw [if_neg (by simp [h0, h1]), if_neg h0, if_neg h1]; simp
/-- the program's put -/
theorem putS_pt (l : List S144) (k : Int) (t : List ByteArray) : putS (l.map t144) k t = (pt l k t).map t144 := by
  rcases pt_cases l k t with ⟨rfl, e⟩ | ⟨h, rfl, e⟩ | ⟨h, i, x, rfl, hk, e⟩ | ⟨h, i, x, rfl, hk, e⟩ <;> rw [e] <;> unfold putS
  · rw [if_pos (by simp)]
  · rw [if_neg (by simp [h]), if_neg (by simp)]; rfl
  · rw [if_neg (by simp [h])]
    have hl : ((i ++ [x]).map t144).length - 1 = (i.map t144).length := by simp
    rw [hl, List.map_append, List.map_cons, List.map_nil, rdT143_last, if_pos ⟨by simp, hk⟩]
    simp [t144]
  · rw [if_neg (by simp [h])]
    have hl : ((i ++ [x]).map t144).length - 1 = (i.map t144).length := by simp
    rw [hl, List.map_append, List.map_cons, List.map_nil, rdT143_last, if_neg (by simp [t144, hk])]
    simp [t144]
theorem putO_pt {l : List S144} (h : NE l) (hb : tot l ≤ 1000000) {k : Int} {t : List ByteArray} (ht : t.length ≤ 1000000) : putO (l.map t144) k t = some ((pt l k t).map t144) := by
  unfold putO
  have h1 := len_tot h
  have h2 : ∀ s ∈ l.map t144, s.f1.length ≤ 1000000000 := fun s hs => by
    obtain ⟨x, hx, rfl⟩ := List.mem_map.1 hs
    have := el_tot hx
    show x.f1.length ≤ _
    omega
  rw [if_pos ⟨by rw [List.length_map]; omega, by omega, h2⟩, putS_pt]
/-- the document's one text at a time -/
theorem one_pt {l : List S144} (h : NE l) (hb : tot l ≤ 1000000) {k : Int} {s : ByteArray} : tripartiteref04_one.f l k s = some (pt l k [s]) := by
  have h1 := len_tot h
  unfold tripartiteref04_one.f
  simp only [Option.bind_some, List.length_nil, List.nil_append, Nat.zero_add]
  rw [if_pos (by omega)]
  rcases snoc_cases l with rfl | ⟨i, x, rfl⟩
  · rw [if_neg (by simp), if_pos (by simp), pt_nil (by simp)]; rfl
  · have hx := el_tot (l := i ++ [x]) (x := x) (by simp)
    simp only [List.length_append, List.length_cons, List.length_nil] at h1
    have hw : wrap64 (((i ++ [x]).length : Int) - 1) = (i.length : Int) := by simp only [List.length_append, List.length_cons, List.length_nil]; rw [w64 (by omega) (by omega)]; omega
    have hlen : ((i ++ [x]).length : Int) = (i.length : Int) + 1 := by simp
    rw [hw, hlen, if_pos (by omega), if_pos (by omega), if_pos (by omega), rdT144_last]
    by_cases hk : x.f0 = k
    · rw [if_pos hk, if_pos (by omega), if_pos (by omega), if_pos (by omega), pt_same (by simp) hk]
      simp
    · rw [if_neg hk, if_pos (by simp; omega), pt_other (by simp) hk]
theorem pt_pt (l : List S144) (k : Int) (t u : List ByteArray) : pt (pt l k t) k u = pt l k (t ++ u) := by
  by_cases hu : u = []
  · subst hu; rw [pt_none, List.append_nil]
  have hn : t ++ u ≠ [] := by simp [hu]
  rcases pt_cases l k t with ⟨rfl, e⟩ | ⟨h, rfl, e⟩ | ⟨h, i, x, rfl, hk, e⟩ | ⟨h, i, x, rfl, hk, e⟩ <;> rw [e]
  · rfl
  · rw [show [(⟨k, t⟩ : S144)] = [] ++ [⟨k, t⟩] from rfl, pt_same hu rfl, pt_nil hn]; rfl
  · rw [pt_same hu rfl, pt_same hn hk, List.append_assoc]
  · rw [pt_same hu rfl, pt_other hn hk]
theorem ones_pt {k : Int} : ∀ (t : List ByteArray) {l : List S144}, NE l → tot l + t.length ≤ 1000000 → ones k t l = some (pt l k t)
  | [], l, _, _ => by rw [pt_none]; rfl
  | s :: t, l, h, hb => by
    simp only [List.length_cons] at hb
    simp only [ones]
    rw [one_pt h (by omega), Option.bind_some, ones_pt t (pt_NE h _ _) (by rw [pt_tot]; simp; omega), pt_pt]
    rfl
end Go.Proofs.Ytadafplbgophfaa.PA
end
section
/- edit.Of and the document's Of come to the same script; where it leads from, and to. -/
namespace Go.Proofs.Ytadafplbgophfaa.PA
set_option linter.unusedSimpArgs false
set_option linter.unusedVariables false
open Go.RowKit Go.Proofs.YtadafplbgophfaaW.PrintWords Go.Proofs.YtadafplbgophfaaW.PrintLast Go.Proofs.YtadafplbgophfaaW.PrintMore
open Jdg

/-- pairs that rise, from (i, k) on, and match -/
def Rng (a b : List ByteArray) : List S37 → Int → Int → Prop
  | [], i, k => 0 ≤ i ∧ i ≤ a.length ∧ 0 ≤ k ∧ k ≤ b.length
  | p :: l, i, k => (0 ≤ i ∧ i ≤ p.f0 ∧ p.f0 < a.length ∧ 0 ≤ k ∧ k ≤ p.f1 ∧ p.f1 < b.length) ∧ rdOf ByteArray.empty a p.f0 = rdOf ByteArray.empty b p.f1 ∧ Rng a b l (p.f0 + 1) (p.f1 + 1)
theorem Rng.bounds {a b : List ByteArray} {l : List S37} {i k : Int} (h : Rng a b l i k) : 0 ≤ i ∧ i ≤ a.length ∧ 0 ≤ k ∧ k ≤ b.length := by
  cases l with
  | nil => exact h
  | cons p l => have := h.1; omega
theorem seg_join (a : List ByteArray) {i j : Int} (h0 : 0 ≤ i) (h1 : i ≤ j) (h2 : j < a.length) : a.drop i.toNat = (a.take j.toNat).drop i.toNat ++ rdOf ByteArray.empty a j :: a.drop (j + 1).toNat := by
  have hlt : j.toNat < a.length := by omega
  have e1 : rdOf ByteArray.empty a j = a[j.toNat] := by simp [rdOf, List.getD_eq_getElem?_getD, hlt]
  rw [e1, show (j + 1).toNat = j.toNat + 1 by omega, ← List.drop_eq_getElem_cons hlt]
  conv => lhs; rw [← List.take_append_drop j.toNat a]
  rw [List.drop_append, show i.toNat - (a.take j.toNat).length = 0 by rw [List.length_take]; omega, List.drop_zero]
structure Scr (r : List S144) : Prop where
  ne : NE r
  adj : Adj r
  kinds : Kinds r
theorem Scr.pt {r : List S144} (h : Scr r) {k : Int} (hk : 0 ≤ k ∧ k ≤ 2) (t : List ByteArray) : Scr (PA.pt r k t) := ⟨pt_NE h.ne _ _, pt_Adj h.adj _ _, pt_Kinds h.kinds hk _⟩
theorem Scr.nil : Scr [] := ⟨fun x hx => by simp at hx, trivial, fun x hx => by simp at hx⟩

theorem of_both (a b : List ByteArray) (ha : a.length ≤ 1000) (hb : b.length ≤ 1000) : ∀ (l : List S37) (i k : Int) (out : List S144), Rng a b l i k → Scr out → tot out + (a.length - i.toNat) + (b.length - k.toNat) ≤ 10000 →
    ∃ r, ofGo a b (l.map to39) i k (out.map t144) = some (r.map t144) ∧ rofGo a b l i k out = some r ∧ Scr r ∧ side 1 r = side 1 out ++ a.drop i.toNat ∧ side 2 r = side 2 out ++ b.drop k.toNat ∧ cnt 0 r = cnt 0 out + l.length ∧ tot r ≤ 10000
  | [], i, k, out, hr, hs, hb2 => by
    have hr' : 0 ≤ i ∧ i ≤ a.length ∧ 0 ≤ k ∧ k ≤ b.length := hr
    refine ⟨pt (pt out 1 (a.drop i.toNat)) 2 (b.drop k.toNat), ?_, ?_, (hs.pt (by omega) _).pt (by omega) _, ?_, ?_, ?_, ?_⟩
    · simp only [List.map_nil, ofGo]
      rw [if_pos hr', putO_pt hs.ne (by omega) (by rw [List.length_drop]; omega), Option.bind_some, putO_pt (pt_NE hs.ne _ _) (by rw [pt_tot, List.length_drop]; omega) (by rw [List.length_drop]; omega)]
    · simp only [rofGo]
      rw [if_pos hr', ones_pt _ hs.ne (by rw [List.length_drop]; omega), Option.bind_some, ones_pt _ (pt_NE hs.ne _ _) (by rw [pt_tot, List.length_drop, List.length_drop]; omega)]
    · rw [pt_side, pt_side]; simp
    · rw [pt_side, pt_side]; simp
    · rw [pt_cnt, pt_cnt]; simp
    · rw [pt_tot, pt_tot, List.length_drop, List.length_drop]; omega
  | p :: l, i, k, out, hr, hs, hb2 => by
    obtain ⟨hg, hm, hr2⟩ := hr
    have la : ((a.take p.f0.toNat).drop i.toNat).length = p.f0.toNat - i.toNat := by rw [List.length_drop, List.length_take]; omega
    have lb : ((b.take p.f1.toNat).drop k.toNat).length = p.f1.toNat - k.toNat := by rw [List.length_drop, List.length_take]; omega
    have t1 : tot (pt out 1 ((a.take p.f0.toNat).drop i.toNat)) = tot out + (p.f0.toNat - i.toNat) := by rw [pt_tot, la]
    have t2 : tot (pt (pt out 1 ((a.take p.f0.toNat).drop i.toNat)) 2 ((b.take p.f1.toNat).drop k.toNat)) = tot out + (p.f0.toNat - i.toNat) + (p.f1.toNat - k.toNat) := by rw [pt_tot, t1, lb]
    have s1 := hs.pt (k := 1) (by omega) ((a.take p.f0.toNat).drop i.toNat)
    have s2 := s1.pt (k := 2) (by omega) ((b.take p.f1.toNat).drop k.toNat)
    have s3 := s2.pt (k := 0) (by omega) [rdOf ByteArray.empty a p.f0]
    obtain ⟨r, e1, e2, hsr, d1, d2, d3, d4⟩ := of_both a b ha hb l (p.f0 + 1) (p.f1 + 1) _ hr2 s3 (by rw [pt_tot, t2]; simp only [List.length_cons, List.length_nil]; omega)
    refine ⟨r, ?_, ?_, hsr, ?_, ?_, ?_, d4⟩
    · simp only [List.map_cons, ofGo]
      rw [if_pos (show 0 ≤ i ∧ i ≤ (to39 p).f0 ∧ (to39 p).f0 < a.length ∧ 0 ≤ k ∧ k ≤ (to39 p).f1 ∧ (to39 p).f1 < b.length from hg)]
      show (putO _ 1 ((a.take p.f0.toNat).drop i.toNat)).bind (fun o1 => (putO o1 2 ((b.take p.f1.toNat).drop k.toNat)).bind fun o2 => (putO o2 0 [rdOf ByteArray.empty a p.f0]).bind fun o3 => ofGo a b (l.map to39) (p.f0 + 1) (p.f1 + 1) o3) = _
      rw [putO_pt hs.ne (by omega) (by omega), Option.bind_some, putO_pt s1.ne (by omega) (by omega), Option.bind_some, putO_pt s2.ne (by omega) (by simp), Option.bind_some, e1]
    · simp only [rofGo]
      rw [if_pos hg, ones_pt _ hs.ne (by omega), Option.bind_some, ones_pt _ s1.ne (by omega), Option.bind_some, one_pt s2.ne (by omega), Option.bind_some, e2]
    · rw [d1, pt_side, pt_side, pt_side, seg_join a hg.1 hg.2.1 hg.2.2.1]; simp
    · rw [d2, pt_side, pt_side, pt_side, seg_join b hg.2.2.2.1 hg.2.2.2.2.1 hg.2.2.2.2.2, hm]; simp
    · rw [d3, pt_cnt, pt_cnt, pt_cnt]; simp; omega
end Go.Proofs.Ytadafplbgophfaa.PA
end
