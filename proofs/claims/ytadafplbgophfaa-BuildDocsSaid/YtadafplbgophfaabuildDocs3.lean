/- Part 3 of what the row of the law BuildDocs rests on: walks of functions, and plain lemmas (in part printed by the kit's print, what is not reached left out). -/
import Derived.Test.YtadafplbgophfaabuildDocs2
set_option linter.unusedVariables false
set_option linter.unusedSimpArgs false
section
namespace Go.Proofs.Ytadafplbgophfaa.PA
open Go.RowKit Go.Proofs.YtadafplbgophfaaW.PrintWords Go.Proofs.YtadafplbgophfaaW.PrintLast Go.Proofs.YtadafplbgophfaaW.PrintMore
def Xv.f (k : Nat) (base left right : ByteArray) : Option (List ByteArray × List ByteArray × List ByteArray × List S81) :=
 (Zn.f k base).bind fun s1 => (Zn.f k left).bind fun s2 => (Zn.f k right).bind fun s3 =>
 (Qs.f k [s1, s2, s3]).bind fun nn => if nn.length = 3 then
  (Qv.f k (Qam nn 0) (Qam nn 1)).bind fun p1 => (Qv.f k (Qam nn 0) (Qam nn 2)).bind fun p2 =>
  (Qk.f k (s1.length : Int) (s2.length : Int) (s3.length : Int) p1 p2).bind fun r => some (s1, s2, s3, r.1)
 else none
theorem Qhh (w : World) (p : Addr) (u : Value) : (w.setCell p u).heap.size = w.heap.size := by simp [World.setCell]
theorem Qgq {W w' : World} {a0 a1 a2 a3 a4 a5 : Addr} {v0 v1 v2 v3 v4 v5 : Value} (hb : Below W.heap.size W w') (h : W.cell? a0 = some v0 ∧ W.cell? a1 = some v1 ∧ W.cell? a2 = some v2 ∧ W.cell? a3 = some v3 ∧ W.cell? a4 = some v4 ∧ W.cell? a5 = some v5) : w'.cell? a0 = some v0 ∧ w'.cell? a1 = some v1 ∧ w'.cell? a2 = some v2 ∧ w'.cell? a3 = some v3 ∧ w'.cell? a4 = some v4 ∧ w'.cell? a5 = some v5 := ⟨Qg hb h.1, Qg hb h.2.1, Qg hb h.2.2.1, Qg hb h.2.2.2.1, Qg hb h.2.2.2.2.1, Qg hb h.2.2.2.2.2⟩
theorem Kv {α : Type} {d : Kd α} {w w1 : World} {ok : Nat → Prop} {A : Option Addr} {n : Nat} {xs : List α} (h : Kd.F d w ok A n xs) (hb : Below w.heap.size w w1) : Kd.F d w1 ok A n xs := Kd.F_mono (Kd.F_old h hb) (fun _ hk => hk.1)
theorem Qii {α : Type} {d : Kd α} {w : World} {s : Nat} {A : Option Addr} {n : Nat} {xs : List α} (h : Kd.F d w (fun k => k ≠ s) A n xs) (v0 v1 v2 : Value) : Kd.C d (((w.setCell ⟨s, 0, none⟩ v0).setCell ⟨s, 1, none⟩ v1).setCell ⟨s, 2, none⟩ v2) A n xs :=
 h _ (fun k hk _ => ((Below.heap_setCell _ ⟨s, 2, none⟩ v2 k hk).trans (Below.heap_setCell _ ⟨s, 1, none⟩ v1 k hk)).trans (Below.heap_setCell _ ⟨s, 0, none⟩ v0 k hk))
theorem Qfs {α : Type} {d : Kd α} {e base g n0 : Nat} {w : World} {ok : Nat → Prop} {A : Option Addr} {c : Nat} {xs : List α} (hE : d.E = []) (h : Kd.R d e w base ok (.slice A xs.length c) xs) (hn : n0 ≤ base) (hg : g < base) : Kd.F d w (fun k => n0 ≤ k ∧ k ≠ g) A xs.length xs :=
 Kd.F_mono (Kd.R_F (Kd.R_tight hE h)) (fun k hk => ⟨by have := Kd.R_base h k hk.symm; omega, fun e => by have := Kd.R_base h k hk.symm; omega⟩)
theorem Qfq {α : Type} {d : Kd α} {w : World} {s : Nat} {ok : Nat → Prop} {A : Option Addr} {n : Nat} {xs : List α} (h : Kd.F d w (fun k => ok k ∧ k ≠ s) A n xs) (v0 v1 v2 : Value) : Kd.F d (((w.setCell ⟨s, 0, none⟩ v0).setCell ⟨s, 1, none⟩ v1).setCell ⟨s, 2, none⟩ v2) ok A n xs := by
 intro W hW; refine h W (fun k hk hl => ?_)
 have hs : k < (((w.setCell ⟨s, 0, none⟩ v0).setCell ⟨s, 1, none⟩ v1).setCell ⟨s, 2, none⟩ v2).heap.size := by simp only [Qhh]; exact hl
 exact (hW k hk.1 hs).trans (((Below.heap_setCell _ ⟨s, 2, none⟩ v2 k hk.2).trans (Below.heap_setCell _ ⟨s, 1, none⟩ v1 k hk.2)).trans (Below.heap_setCell _ ⟨s, 0, none⟩ v0 k hk.2))
theorem Qcv {w : World} {s : Nat} {z0 z1 z2 : Value} (h : w.heap[s]? = some (.cells #[z0, z1, z2] 107 (0, 0))) (v0 v1 v2 : Value) :
  (((w.setCell ⟨s, 0, none⟩ v0).setCell ⟨s, 1, none⟩ v1).setCell ⟨s, 2, none⟩ v2).heap[s]? = some (.cells #[v0, v1, v2] 107 (0, 0)) := by
 have h0 : (w.setCell ⟨s, 0, none⟩ v0).heap[s]? = some (.cells #[v0, z1, z2] 107 (0, 0)) := Za h 0 v0 rfl; have h1 : ((w.setCell ⟨s, 0, none⟩ v0).setCell ⟨s, 1, none⟩ v1).heap[s]? = some (.cells #[v0, v1, z2] 107 (0, 0)) := Za h0 1 v1 rfl; exact Za h1 2 v2 rfl
theorem Qqj {w : World} {g s : Nat} {t : TypeId} {cs : Array Value} (h : w.heap[g]? = some (.cells cs t (0, 0))) (hn : g ≠ s) (v0 v1 v2 : Value) :
  (((w.setCell ⟨s, 0, none⟩ v0).setCell ⟨s, 1, none⟩ v1).setCell ⟨s, 2, none⟩ v2).heap[g]? = some (.cells cs t (0, 0)) :=
 Yt (p := ⟨s, 2, none⟩) (Yt (p := ⟨s, 1, none⟩) (Yt (p := ⟨s, 0, none⟩) h hn v0) hn v1) hn v2
theorem Qcb {w0 w : World} {s : Nat} (h : Below w0.heap.size w0 w) (hs : w0.heap.size ≤ s) (v0 v1 v2 : Value) :
  Below w0.heap.size w0 (((w.setCell ⟨s, 0, none⟩ v0).setCell ⟨s, 1, none⟩ v1).setCell ⟨s, 2, none⟩ v2) := Qr (Qr (Qr h hs) hs) hs
def Xv.T3 : Bool × List (List Nat × List Nat) := (true, [([], []), ([0], [0]), ([1], [1]), ([], []), ([3], [3]), ([4], [4]), ([], []), ([6], [6]), ([7], [7]), ([], []), ([9], [9]), ([10], [10]), ([], []), ([12], [12]), ([13], [13]), ([11, 14], [11, 14]), ([], []), ([16], [16]), ([17], [17]), ([], []), ([19], [19]), ([20], [20]), ([18, 21, 15], [18, 21]), ([2, 5, 8, 15, 22, 22], [2, 5, 8, 15, 22]), ([23], [23]), ([24], [24]), ([24], [24]), ([25, 23, 0, 1, 2, 3, 4, 5, 6, 7, 8, 9, 10, 11, 12, 13, 14, 15, 16, 17, 18, 19, 20, 21, 22, 23, 24, 25], [25]), ([26, 27, 0, 1, 2, 3, 4, 5, 6, 7, 8, 9, 10, 11, 12, 13, 14, 15, 16, 17, 18, 19, 20, 21, 22, 23, 24, 25, 26, 27], [26])])
def Xv.B3 : List Nat := [0, 1, 3, 0, 8, 24, 0, 64, 192, 0, 512, 1536, 0, 4096, 12288, 32256, 0, 65536, 196608, 0, 524288, 1572864, 4193792, 8388607, 16777215, 33554431, 33554431, 67108863, 268435455]
theorem Xv.tab3 : Vx .any (Jb Try.f71 3) = Xv.T3 := by kernel_rfl
theorem Xv.bits3 : Vk Xv.T3.2 Xv.B3 = true := by kernel_rfl
set_option maxHeartbeats 8000000 in
set_option maxRecDepth 100000 in
theorem Xv.callsF (k : Nat) (a0 a1 a2 : ByteArray) (s1 s2 s3 : List ByteArray) (l : List S81) (w : World) (h : Xv.f k a0 a1 a2 = some (s1, s2, s3, l)) :
  Calls Try.prog 71 #[.string a0, .string a1, .string a2] w fun e w' => ∃ (A0 A1 A2 A3 : Option Addr) (c0 c1 c2 c3 : Nat), e = .returned (.tuple #[.agg #[.slice A0 s1.length c0, .slice A1 s2.length c1, .slice A2 s3.length c2], .slice A3 l.length c3]) ∧ (Kd.F Kd.string w' (fun k => w.heap.size ≤ k) A0 s1.length s1 ∧ s1.length ≤ c0) ∧ (Kd.F Kd.string w' (fun k => w.heap.size ≤ k) A1 s2.length s2 ∧ s2.length ≤ c1) ∧ (Kd.F Kd.string w' (fun k => w.heap.size ≤ k) A2 s3.length s3 ∧ s3.length ≤ c2) ∧ (Kd.F k81 w' (fun k => w.heap.size ≤ k) A3 l.length l ∧ l.length ≤ c3) ∧ Below w.heap.size w w' := by
 unfold Xv.f at h
 replace h := Option.bind_eq_some_iff.1 h; obtain ⟨t1, h1, h⟩ := h; replace h := Option.bind_eq_some_iff.1 h; obtain ⟨t2, h2, h⟩ := h; replace h := Option.bind_eq_some_iff.1 h; obtain ⟨t3, h3, h⟩ := h; replace h := Option.bind_eq_some_iff.1 h; obtain ⟨nn, hnn, h⟩ := h
 split at h
 case isFalse => cases h
 rename_i hn3
 replace h := Option.bind_eq_some_iff.1 h; obtain ⟨p1, hp1, h⟩ := h; replace h := Option.bind_eq_some_iff.1 h; obtain ⟨p2, hp2, h⟩ := h; replace h := Option.bind_eq_some_iff.1 h; obtain ⟨⟨cs, okr⟩, hof, h⟩ := h
 simp only [Option.some.injEq, Prod.mk.injEq] at h
 obtain ⟨rfl, rfl, rfl, rfl⟩ := h; have F1 := Qa.mk h1; have F2 := Qa.mk h2; have F3 := Qa.mk h3; have FN := Qa.mk hnn; have FP1 := Qa.mk hp1; have FP2 := Qa.mk hp2; have FO := Qa.mk hof; have FL := Qa.mk hn3; clear h1 h2 h3 hnn hp1 hp2 hof hn3; have hu107 := Try.underlying107; have HB0 := Qa.mk (Below.refl w.heap.size w)
 go_enter Try.func71, Try.ntmps71
 go_wp2_with (first | ((with_reducible refine Zd (N := 6) rfl ?_); refine Zc ?hg (N := 6) ?hd (cs := #[.slice none 0 0, .slice none 0 0, .slice none 0 0]) (t := 107) ?hr ?_; (case hd => rfl); (case hg => rfl); (case hr => first | (go_simp; done) | (go_simp; rfl)); intro f6 hg w1 hbox hb; have B6 := Qa.mk hbox; have HB := Qa.mk hb; have GE6 := Qa.mk (Nat.le_of_eq hg.symm : w.heap.size ≤ f6); clear hg hbox hb HB0)); refine (Zn.calls k a0 t1 _ F1.out).mono ?_; rintro e w2 ⟨v0_, rfl, hR, hb⟩; obtain ⟨A1, c1, rfl, hc, _⟩ := Kd.R_reads hR; have hC := Qfs rfl hR (Qo HB.out) (Zu B6.out); have C1 := Qa.mk hC; have L1 := Qa.mk hc; replace B6 := Qa.mk (Qq B6.out hb); replace HB := Qa.mk (Qj HB.out hb); clear hR hC hc hb; go_wp2_with fail; refine (Zn.calls k a1 t2 _ F2.out).mono ?_; rintro e w3 ⟨v0_, rfl, hR, hb⟩; obtain ⟨A2, c2, rfl, hc, _⟩ := Kd.R_reads hR; have hC := Qfs rfl hR (Qo HB.out) (Zu B6.out); replace C1 := Qa.mk (Kv C1.out hb); have C2 := Qa.mk hC; have L2 := Qa.mk hc; replace B6 := Qa.mk (Qq B6.out hb); replace HB := Qa.mk (Qj HB.out hb); clear hR hC hc hb; go_wp2_with fail; refine (Zn.calls k a2 t3 _ F3.out).mono ?_; rintro e w4 ⟨v0_, rfl, hR, hb⟩; obtain ⟨A3, c3, rfl, hc, _⟩ := Kd.R_reads hR; have hC := Qfs rfl hR (Qo HB.out) (Zu B6.out); replace C1 := Qa.mk (Kv C1.out hb); replace C2 := Qa.mk (Kv C2.out hb); have C3 := Qa.mk hC; have L3 := Qa.mk hc; replace B6 := Qa.mk (Qq B6.out hb); replace HB := Qa.mk (Qj HB.out hb); clear hR hC hc hb; go_wp2_with (first | ((with_reducible refine Zd (N := 8) rfl ?_); refine Zc ?hg (N := 8) ?hd (cs := #[.slice none 0 0, .slice none 0 0, .slice none 0 0]) (t := 107) ?hr ?_; (case hd => rfl); (case hg => rfl); (case hr => first | (go_simp; done) | (go_simp; rfl)); intro f8 hg w5 hbox hb; have B8 := Qa.mk hbox; have GE8 := Qa.mk ((by rw [hg]; exact Qo HB.out) : w.heap.size ≤ f8); have NE68 := Qa.mk ((by rw [hg]; exact Nat.ne_of_lt (Zu B6.out)) : f6 ≠ f8); replace B6 := Qa.mk (Qq B6.out hb); replace HB := Qa.mk (Qj HB.out hb); have HB45 := Qa.mk hb; have GE45 := Qa.mk (Nat.le_of_eq hg.symm : w4.heap.size ≤ f8); have y0 := (Qc hbox 0).trans (show _ = some (Value.slice none 0 0) from rfl); have y1 := (Qc hbox 1).trans (show _ = some (Value.slice none 0 0) from rfl); have y2 := (Qc hbox 2).trans (show _ = some (Value.slice none 0 0) from rfl); obtain ⟨x0, x1, x2⟩ := Qll hbox; clear hg hbox hb)); have B8' := Qa.mk (Qcv B8.out (.slice A1 t1.length c1) (.slice A2 t2.length c2) (.slice A3 t3.length c3)); have B6' := Qa.mk (Qqj B6.out NE68.out (.slice A1 t1.length c1) (.slice A2 t2.length c2) (.slice A3 t3.length c3)); have HB' := Qa.mk (Qcb HB.out GE8.out (.slice A1 t1.length c1) (.slice A2 t2.length c2) (.slice A3 t3.length c3)); replace C1 := Qa.mk (Kv C1.out (Qcb HB45.out GE45.out (.slice A1 t1.length c1) (.slice A2 t2.length c2) (.slice A3 t3.length c3))); replace C2 := Qa.mk (Kv C2.out (Qcb HB45.out GE45.out (.slice A1 t1.length c1) (.slice A2 t2.length c2) (.slice A3 t3.length c3))); replace C3 := Qa.mk (Kv C3.out (Qcb HB45.out GE45.out (.slice A1 t1.length c1) (.slice A2 t2.length c2) (.slice A3 t3.length c3))); clear y0 y1 y2 x0 x1 x2 B8 B6 HB HB45 GE45
 have hs6 : (((w5.setCell ⟨f8, 0, none⟩ (.slice A1 t1.length c1)).setCell ⟨f8, 1, none⟩ (.slice A2 t2.length c2)).setCell ⟨f8, 2, none⟩ (.slice A3 t3.length c3)).heap.size = w5.heap.size := by simp only [Qhh]
 rw [← hs6]; clear hs6
 generalize (((w5.setCell ⟨f8, 0, none⟩ (.slice A1 t1.length c1)).setCell ⟨f8, 1, none⟩ (.slice A2 t2.length c2)).setCell ⟨f8, 2, none⟩ (.slice A3 t3.length c3)) = w6 at B8' B6' HB' C1 C2 C3 ⊢
 have HLL : Qa (Kd.C (Kd.slice 9 Kd.string) (w6.alloc (.cells #[.slice A1 t1.length c1, .slice A2 t2.length c2, .slice A3 t3.length c3] 27 (0, 0))) (some ⟨w6.heap.size, 0, none⟩) [t1, t2, t3].length [t1, t2, t3]) := ⟨Qkn (Kd.slice 9 Kd.string) rfl w6 27 [t1, t2, t3] [.slice A1 t1.length c1, .slice A2 t2.length c2, .slice A3 t3.length c3] rfl (by simp) (fun j p u hp hu => by
  match j, hp, hu with
  | 0, hp, hu => cases hp; cases hu; exact ⟨A1, c1, rfl, L1.out, Kd.F_now C1.out⟩
  | 1, hp, hu => cases hp; cases hu; exact ⟨A2, c2, rfl, L2.out, Kd.F_now C2.out⟩
  | 2, hp, hu => cases hp; cases hu; exact ⟨A3, c3, rfl, L3.out, Kd.F_now C3.out⟩
  | (j + 3), hp, hu => simp at hp)⟩
 refine (Qs.calls k (some ⟨w6.heap.size, 0, none⟩) 3 [t1, t2, t3] nn _ HLL.out (Nat.le_refl _) FN.out).mono ?_; rintro e w7 ⟨v0_, rfl, hR, hb0⟩; have hb := Js (Qh (Below.refl w6.heap.size w6) (.cells #[.slice A1 t1.length c1, .slice A2 t2.length c2, .slice A3 t3.length c3] 27 (0, 0))) (Qh (Below.refl w6.heap.size w6) _).size hb0; replace C1 := Qa.mk (Kv C1.out hb); replace C2 := Qa.mk (Kv C2.out hb); replace C3 := Qa.mk (Kv C3.out hb); have B8 := Qa.mk (Qq B8'.out hb); have B6 := Qa.mk (Qq B6'.out hb); have HB := Qa.mk (Qj HB'.out hb); clear B8' B6' HB' HLL hb hb0; obtain ⟨A, c, rfl, hc, hC⟩ := Kd.R_reads (Kd.S_R hR); clear hR; obtain ⟨ad0, AX, cX, e0, hx, hlx, hcx⟩ := Qgg hC (0 : Int) (by decide) (by have := FL.out; omega)
 cases e0; obtain ⟨ad1, AY, cY, e1, hy, hly, hcy⟩ := Qgg hC (1 : Int) (by decide) (by have := FL.out; omega)
 cases e1; obtain ⟨ad2, AZ, cZ, e2, hz, hlz, hcz⟩ := Qgg hC (2 : Int) (by decide) (by have := FL.out; omega)
 cases e2
 simp only [Int.toNat_zero, Int.toNat_one, show Int.toNat 2 = 2 from rfl] at hx hy hz
 have hp1 := FP1.out; have hp2 := FP2.out
 generalize Qam nn 0 = x at hx hlx hcx hp1 hp2
 have KX := Qa.mk hcx; have MX := Qa.mk hlx
 generalize Qam nn 1 = y at hy hly hcy hp1 hp2
 have KY := Qa.mk hcy; have MY := Qa.mk hly
 generalize Qam nn 2 = z at hz hlz hcz hp1 hp2
 have KZ := Qa.mk hcz; have MZ := Qa.mk hlz
 replace hx : w7.cell? ad0 = some (.slice AX x.length cX) := by simpa [Addr.add] using hx
 replace hy : w7.cell? ⟨ad0.block, ad0.off + 1, none⟩ = some (.slice AY y.length cY) := by simpa [Addr.add] using hy
 replace hz : w7.cell? ⟨ad0.block, ad0.off + 2, none⟩ = some (.slice AZ z.length cZ) := by simpa [Addr.add] using hz
 have G1 := Qa.mk hp1; have G2 := Qa.mk hp2; clear hp1 hp2 hcx hcy hcz hlx hly hlz hC hc FP1 FP2 FN; have hn3 := FL.out; rw [hn3]; clear hn3; have q0 := (Qc B8.out 0).trans (show _ = some (Value.slice A1 t1.length c1) from rfl); have q1 := (Qc B8.out 1).trans (show _ = some (Value.slice A2 t2.length c2) from rfl); have q2 := (Qc B8.out 2).trans (show _ = some (Value.slice A3 t3.length c3) from rfl); go_wp2_with fail; refine Ug (n := 29) (S := fun w' => w'.cell? ⟨f8, 0, none⟩ = some (.slice A1 t1.length c1) ∧ w'.cell? ⟨f8, 1, none⟩ = some (.slice A2 t2.length c2) ∧ w'.cell? ⟨f8, 2, none⟩ = some (.slice A3 t3.length c3) ∧ w'.cell? ad0 = some (.slice AX x.length cX) ∧ w'.cell? ⟨ad0.block, ad0.off + 1, none⟩ = some (.slice AY y.length cY) ∧ w'.cell? ⟨ad0.block, ad0.off + 2, none⟩ = some (.slice AZ z.length cZ)) (ds := []) (bz_ 29 0) (by kernel_rfl) rfl rfl ⟨q0, q1, q2, hx, hy, hz⟩ (fun hHeld => ?_); refine Va Xv.tab3 Xv.bits3 (fun HT_ HW_ => ?_); replace C1 := Qa.mk (Kd.F_drew C1.out); replace C2 := Qa.mk (Kd.F_drew C2.out); replace C3 := Qa.mk (Kd.F_drew C3.out); replace KX := Qa.mk (Kd.C_drew KX.out); replace KY := Qa.mk (Kd.C_drew KY.out); replace KZ := Qa.mk (Kd.C_drew KZ.out); replace B8 := Qa.mk (Qp B8.out); replace B6 := Qa.mk (Qp B6.out); replace HB := Qa.mk (Qi HB.out); clear q0 q1 q2 hx hy hz
 generalize w7.drew = wd at C1 C2 C3 KX KY KZ B8 B6 HB hHeld ⊢
 refine pu_ (i := 0) (N := some 28) #[true, false, false, false, false, false, false, false, false, false, false, false, false, false, false, false, false, false, false, false, false, false, false, false, false, false, false, false, false] ?_; refine ta_ (i := 1) (N := some 29) #[true, true, false, false, false, false, false, false, false, false, false, false, false, false, false, false, false, false, false, false, false, false, false, false, false, false, false, false, false] ?_; refine pu_ (i := 2) (N := some 30) #[true, true, true, false, false, false, false, false, false, false, false, false, false, false, false, false, false, false, false, false, false, false, false, false, false, false, false, false, false] ?_; refine pu_ (i := 3) (N := some 31) #[true, true, true, true, false, false, false, false, false, false, false, false, false, false, false, false, false, false, false, false, false, false, false, false, false, false, false, false, false] ?_; refine ta_ (i := 4) (N := some 32) #[true, true, true, true, true, false, false, false, false, false, false, false, false, false, false, false, false, false, false, false, false, false, false, false, false, false, false, false, false] ?_; refine pu_ (i := 5) (N := some 33) #[true, true, true, true, true, true, false, false, false, false, false, false, false, false, false, false, false, false, false, false, false, false, false, false, false, false, false, false, false] ?_; refine pu_ (i := 6) (N := some 34) #[true, true, true, true, true, true, true, false, false, false, false, false, false, false, false, false, false, false, false, false, false, false, false, false, false, false, false, false, false] ?_; refine ta_ (i := 7) (N := some 35) #[true, true, true, true, true, true, true, true, false, false, false, false, false, false, false, false, false, false, false, false, false, false, false, false, false, false, false, false, false] ?_; refine pu_ (i := 8) (N := some 36) #[true, true, true, true, true, true, true, true, true, false, false, false, false, false, false, false, false, false, false, false, false, false, false, false, false, false, false, false, false] ?_; refine pu_ (i := 9) (N := some 37) #[true, true, true, true, true, true, true, true, true, true, false, false, false, false, false, false, false, false, false, false, false, false, false, false, false, false, false, false, false] ?_; refine pu_ (i := 10) (N := some 38) #[true, true, true, true, true, true, true, true, true, true, true, false, false, false, false, false, false, false, false, false, false, false, false, false, false, false, false, false, false] ?_; refine ta_ (i := 11) (N := some 39) #[true, true, true, true, true, true, true, true, true, true, true, true, false, false, false, false, false, false, false, false, false, false, false, false, false, false, false, false, false] ?_; refine pu_ (i := 12) (N := some 40) #[true, true, true, true, true, true, true, true, true, true, true, true, true, false, false, false, false, false, false, false, false, false, false, false, false, false, false, false, false] ?_; refine pu_ (i := 13) (N := some 41) #[true, true, true, true, true, true, true, true, true, true, true, true, true, true, false, false, false, false, false, false, false, false, false, false, false, false, false, false, false] ?_; refine ta_ (i := 14) (N := some 42) #[true, true, true, true, true, true, true, true, true, true, true, true, true, true, true, false, false, false, false, false, false, false, false, false, false, false, false, false, false] ?_; refine pu_ (i := 16) (N := some 44) #[true, true, true, true, true, true, true, true, true, true, true, true, true, true, true, false, true, false, false, false, false, false, false, false, false, false, false, false, false] ?_; refine pu_ (i := 17) (N := some 45) #[true, true, true, true, true, true, true, true, true, true, true, true, true, true, true, false, true, true, false, false, false, false, false, false, false, false, false, false, false] ?_; refine ta_ (i := 18) (N := some 46) #[true, true, true, true, true, true, true, true, true, true, true, true, true, true, true, false, true, true, true, false, false, false, false, false, false, false, false, false, false] ?_; refine pu_ (i := 19) (N := some 47) #[true, true, true, true, true, true, true, true, true, true, true, true, true, true, true, false, true, true, true, true, false, false, false, false, false, false, false, false, false] ?_; refine pu_ (i := 20) (N := some 48) #[true, true, true, true, true, true, true, true, true, true, true, true, true, true, true, false, true, true, true, true, true, false, false, false, false, false, false, false, false] ?_; refine ta_ (i := 21) (N := some 49) #[true, true, true, true, true, true, true, true, true, true, true, true, true, true, true, false, true, true, true, true, true, true, false, false, false, false, false, false, false] ?_; refine on_ (i := 15) (N := some 43) #[true, true, true, true, true, true, true, true, true, true, true, true, true, true, true, true, true, true, true, true, true, true, false, false, false, false, false, false, false] (fun K hK => ?_); refine Vr Try.func118 (by kernel_rfl) rfl #[.slice AX x.length cX, .slice AY y.length cY] (by rfl) rfl rfl (by (try simp only [List.map_toArray, List.map_cons, List.map_nil]); first | done | rfl) ?_; refine (Qv.calls k (fun k => k < _) AX cX x (fun k => k < _) AY cY y p1 _ (Kd.V_mk MX.out (Kd.C_F (Kd.heap_int .i64) KX.out)) (Kd.V_mk MY.out (Kd.C_F (Kd.heap_int .i64) KY.out)) G1.out).mono ?_; rintro e w8 ⟨v0_, rfl, hR, hb⟩; obtain ⟨P1, d1, rfl, hc, hC⟩ := Kd.R_reads hR; replace C1 := Qa.mk (Kv C1.out hb); replace C2 := Qa.mk (Kv C2.out hb); replace C3 := Qa.mk (Kv C3.out hb); replace KX := Qa.mk (Kd.C_below KX.out hb); replace KY := Qa.mk (Kd.C_below KY.out hb); replace KZ := Qa.mk (Kd.C_below KZ.out hb); replace B8 := Qa.mk (Qq B8.out hb); replace B6 := Qa.mk (Qq B6.out hb); replace HB := Qa.mk (Qj HB.out hb); have CP := Qa.mk hC; have LP := Qa.mk hc; refine ⟨_, rfl, ?_⟩; refine hK.out _ _ (Qgq hb hHeld) (fun hHeld => ?_); clear hb hR hc hC; clear hK K; refine nN_ 43 ?_; refine on_ (i := 22) (N := some 50) #[true, true, true, true, true, true, true, true, true, true, true, true, true, true, true, true, true, true, true, true, true, true, true, false, false, false, false, false, false] (fun K hK => ?_); refine Vr Try.func118 (by kernel_rfl) rfl #[.slice AX x.length cX, .slice AZ z.length cZ] (by rfl) rfl rfl (by (try simp only [List.map_toArray, List.map_cons, List.map_nil]); first | done | rfl) ?_; refine (Qv.calls k (fun k => k < _) AX cX x (fun k => k < _) AZ cZ z p2 _ (Kd.V_mk MX.out (Kd.C_F (Kd.heap_int .i64) KX.out)) (Kd.V_mk MZ.out (Kd.C_F (Kd.heap_int .i64) KZ.out)) G2.out).mono ?_; rintro e w9 ⟨v0_, rfl, hR, hb⟩; obtain ⟨P2, d2, rfl, hc, hC⟩ := Kd.R_reads hR; replace C1 := Qa.mk (Kv C1.out hb); replace C2 := Qa.mk (Kv C2.out hb); replace C3 := Qa.mk (Kv C3.out hb); replace KX := Qa.mk (Kd.C_below KX.out hb); replace KY := Qa.mk (Kd.C_below KY.out hb); replace KZ := Qa.mk (Kd.C_below KZ.out hb); replace CP := Qa.mk (Kd.C_below CP.out hb); replace B8 := Qa.mk (Qq B8.out hb); replace B6 := Qa.mk (Qq B6.out hb); replace HB := Qa.mk (Qj HB.out hb); have CQ := Qa.mk hC; have LQ := Qa.mk hc; refine ⟨_, rfl, ?_⟩; refine hK.out _ _ (Qgq hb hHeld) (fun hHeld => ?_); clear hb hR hc hC; clear hK K; refine nN_ 50 ?_; refine on_ (i := 23) (N := some 51) #[true, true, true, true, true, true, true, true, true, true, true, true, true, true, true, true, true, true, true, true, true, true, true, true, false, false, false, false, false] (fun K hK => ?_); refine Vr Try.func50 (by kernel_rfl) rfl #[.int .i64 (t1.length : Int), .int .i64 (t2.length : Int), .int .i64 (t3.length : Int), .slice P1 p1.length d1, .slice P2 p2.length d2] (by rfl) rfl rfl (by (try simp only [List.map_toArray, List.map_cons, List.map_nil]); first | done | rfl) ?_; refine (Qk.calls k (t1.length : Int) (t2.length : Int) (t3.length : Int) P1 d1 p1 P2 d2 p2 cs okr _ CP.out LP.out CQ.out LQ.out FO.out).mono ?_; rintro e wz ⟨v0_, rfl, hR, hb⟩; obtain ⟨P3, d3, rfl, hc, hC⟩ := Kd.R_reads hR; have CRF := Qa.mk (Qfs rfl hR (Qo HB.out) (Zu B6.out)); replace C1 := Qa.mk (Kv C1.out hb); replace C2 := Qa.mk (Kv C2.out hb); replace C3 := Qa.mk (Kv C3.out hb); replace KX := Qa.mk (Kd.C_below KX.out hb); replace KY := Qa.mk (Kd.C_below KY.out hb); replace KZ := Qa.mk (Kd.C_below KZ.out hb); replace CP := Qa.mk (Kd.C_below CP.out hb); replace CQ := Qa.mk (Kd.C_below CQ.out hb); replace B8 := Qa.mk (Qq B8.out hb); replace B6 := Qa.mk (Qq B6.out hb); replace HB := Qa.mk (Qj HB.out hb); have CR := Qa.mk hC; have LR := Qa.mk hc; refine ⟨_, rfl, ?_⟩; refine hK.out _ _ (Qgq hb hHeld) (fun hHeld => ?_); clear hb hR hc hC; clear hK K; refine nN_ 51 ?_; refine pu_ (i := 24) (N := some 27) #[true, true, true, true, true, true, true, true, true, true, true, true, true, true, true, true, true, true, true, true, true, true, true, true, true, false, false, false, false] ?_; refine pu_ (i := 25) (N := some 52) #[true, true, true, true, true, true, true, true, true, true, true, true, true, true, true, true, true, true, true, true, true, true, true, true, true, true, false, false, false] ?_; refine pu_ (i := 26) (N := some 53) #[true, true, true, true, true, true, true, true, true, true, true, true, true, true, true, true, true, true, true, true, true, true, true, true, true, true, true, false, false] ?_; refine pu_ (i := 27) (N := some 10) #[true, true, true, true, true, true, true, true, true, true, true, true, true, true, true, true, true, true, true, true, true, true, true, true, true, true, true, true, false] ?_; refine pu_ (i := 28) (N := some 11) #[true, true, true, true, true, true, true, true, true, true, true, true, true, true, true, true, true, true, true, true, true, true, true, true, true, true, true, true, true] ?_; refine Ki (Vq HT_.out (by kernel_rfl)) ?_; clear hHeld; have q0 := (Qc B8.out 0).trans (show _ = some (Value.slice A1 t1.length c1) from rfl); have q1 := (Qc B8.out 1).trans (show _ = some (Value.slice A2 t2.length c2) from rfl); have q2 := (Qc B8.out 2).trans (show _ = some (Value.slice A3 t3.length c3) from rfl); have y0 := (Qc B6.out 0).trans (show _ = some (Value.slice none 0 0) from rfl); have y1 := (Qc B6.out 1).trans (show _ = some (Value.slice none 0 0) from rfl); have y2 := (Qc B6.out 2).trans (show _ = some (Value.slice none 0 0) from rfl); have x0 := Qe B6.out 0; have x1 := Qe B6.out 1; have x2 := Qe B6.out 2; go_wp2_with fail; refine bodyPost_ret (Qkk rfl _ _ f6 107 _ (0, 0) _ rfl (Qcv B6.out (.slice A1 t1.length c1) (.slice A2 t2.length c2) (.slice A3 t3.length c3)) hu107 rfl (by kernel_rfl)) rfl ?_; exact ⟨A1, A2, A3, P3, c1, c2, c3, d3, rfl, ⟨Qfq C1.out _ _ _, L1.out⟩, ⟨Qfq C2.out _ _ _, L2.out⟩, ⟨Qfq C3.out _ _ _, L3.out⟩, ⟨Qfq CRF.out _ _ _, LR.out⟩, Qcb HB.out GE6.out _ _ _⟩
theorem Xv.calls (k : Nat) (a0 a1 a2 : ByteArray) (s1 s2 s3 : List ByteArray) (l : List S81) (w : World) (h : Xv.f k a0 a1 a2 = some (s1, s2, s3, l)) :
  Calls Try.prog 71 #[.string a0, .string a1, .string a2] w fun e w' => ∃ (A0 A1 A2 A3 : Option Addr) (c0 c1 c2 c3 : Nat), e = .returned (.tuple #[.agg #[.slice A0 s1.length c0, .slice A1 s2.length c1, .slice A2 s3.length c2], .slice A3 l.length c3]) ∧ (Kd.C Kd.string w' A0 s1.length s1 ∧ s1.length ≤ c0) ∧ (Kd.C Kd.string w' A1 s2.length s2 ∧ s2.length ≤ c1) ∧ (Kd.C Kd.string w' A2 s3.length s3 ∧ s3.length ≤ c2) ∧ (Kd.C k81 w' A3 l.length l ∧ l.length ≤ c3) ∧ Below w.heap.size w w'  := by
 refine (Xv.callsF k a0 a1 a2 s1 s2 s3 l w h).mono ?_; rintro e w' ⟨A0, A1, A2, A3, c0, c1, c2, c3, he, ⟨h0, g0⟩, ⟨h1, g1⟩, ⟨h2, g2⟩, ⟨h3, g3⟩, hb⟩; exact ⟨A0, A1, A2, A3, c0, c1, c2, c3, he, ⟨Kd.F_now h0, g0⟩, ⟨Kd.F_now h1, g1⟩, ⟨Kd.F_now h2, g2⟩, ⟨Kd.F_now h3, g3⟩, hb⟩
end Go.Proofs.Ytadafplbgophfaa.PA
end
section
namespace Go.Proofs.Ytadafplbgophfaa.PA
open Go.RowKit Go.Proofs.YtadafplbgophfaaW.PrintWords Go.Proofs.YtadafplbgophfaaW.PrintLast Go.Proofs.YtadafplbgophfaaW.PrintMore
attribute [local go_sem] Xx Xz Yk Yl Xj Xk Xy Ya
def Zp.l0 : Nat → List ByteArray → List ByteArray → Int → Option (Bool)
 | 0, _, _, _ => none
 | k + 1, x0, x1, x5 => if x5 < (x0.length : Int) then (if 0 ≤ x5 then (if x5 < (x1.length : Int) then (if (Ye ByteArray.empty x0 x5).toList = (Ye ByteArray.empty x1 x5).toList then (Zp.l0 k x0 x1 (wrap64 (x5 + 1))) else (some false)) else (none)) else (none)) else (some true)
def Zp.f (k : Nat) (l0 : List ByteArray) (l1 : List ByteArray) : Option (Bool) := if (l0.length : Int) = (l1.length : Int) then (Zp.l0 k l0 l1 0) else (some false)
set_option maxHeartbeats 8000000 in
set_option maxRecDepth 100000 in
theorem Zp.calls (k : Nat) (A0 : Option Addr) (c0 : Nat) (l0 : List ByteArray) (A1 : Option Addr) (c1 : Nat) (l1 : List ByteArray) (r : Bool) (w : World) (hr0 : Kd.C Kd.string w A0 l0.length l0) (hc0 : l0.length ≤ c0) (hr1 : Kd.C Kd.string w A1 l1.length l1) (hc1 : l1.length ≤ c1) (h : Zp.f k l0 l1 = some r) :
  Calls Try.prog 25 #[.slice A0 l0.length c0, .slice A1 l1.length c1] w fun e w' => e = .returned (.bool r) ∧ Zl w w' := by
 have HR0 := Qa.mk hr0; have HC0 := Qa.mk hc0; clear hr0 hc0; have HR1 := Qa.mk hr1; have HC1 := Qa.mk hc1; clear hr1 hc1; have H : (if (l0.length : Int) = (l1.length : Int) then (Zp.l0 k l0 l1 0) else (some false)) = some r := h; clear h
 by_cases c3 : (l0.length : Int) = (l1.length : Int)
 ·rw [if_pos c3] at H
  have a9 : ((l0.length : Int) == (l1.length : Int)) = true := beq_iff_eq.mpr c3; have b0 : ((l0.length : Int) != (l1.length : Int)) = false := bne_eq_false_iff_eq.mpr c3
  have b1 : (l0.length == l1.length) = true := by first | simpa using c3 | (simp at c3 ⊢; omega)
  clear c3; have H' := Qa.mk H; clear H
  go_enter Try.func25, Try.ntmps25
  go_wp2
  repeat (go_quiet (fail); try go_wp2)
  go_loopg [5] k (fun kq v5 w' => ∃ (a0 : Int), v5 = .int .i64 a0 ∧ Qa (Zp.l0 kq l0 l1 a0 = some r) ∧ Qa (kq ≤ k) ∧ Zl w w')
  case atStart => exact ⟨(0), sm_, H', ⟨Nat.le_refl _⟩, by repeat (first | exact Zl.refl _ | apply Zl.step)⟩
  case round =>
   clear H'
   try clear c1
   try clear c2
   try clear p2
   try clear c3
   try clear a9
   try clear b0
   try clear b1
   obtain ⟨a0, rfl, HA, HK1, ⟨m1, rfl⟩⟩ := hrel
   cases gk with
   | zero => exact absurd HA.out (by simp [Zp.l0])
   | succ k1 =>
    have H := HA.out; clear HA
    simp only [Zp.l0] at H
    by_cases c4 : a0 < (l0.length : Int)
    ·rw [if_pos c4] at H
     have b4 : decide (a0 < (l0.length : Int)) = true := decide_eq_true c4; clear c4
     by_cases c5 : 0 ≤ a0
     ·rw [if_pos c5] at H
      have b7 : decide (0 ≤ a0) = true := decide_eq_true c5; clear c5
      by_cases c6 : a0 < (l1.length : Int)
      ·rw [if_pos c6] at H
       have b8 : decide (a0 < (l1.length : Int)) = true := decide_eq_true c6; clear c6
       by_cases c7 : (Ye ByteArray.empty l0 a0).toList = (Ye ByteArray.empty l1 a0).toList
       ·rw [if_pos c7] at H
        have b5 : ((Ye ByteArray.empty l0 a0).toList == (Ye ByteArray.empty l1 a0).toList) = true := beq_iff_eq.mpr c7; have b6 : ((Ye ByteArray.empty l0 a0).toList != (Ye ByteArray.empty l1 a0).toList) = false := bne_eq_false_iff_eq.mpr c7; clear c7; have H' := Qa.mk H; clear H; have a1 : 0 ≤ (a0 : Int) := of_decide_eq_true Zx; have a2 : a0 < (l0.length : Int) := of_decide_eq_true Zx; obtain ⟨b2, a5, a7⟩ := Kd.at_string HR0.out a0 a1 a2
        cases a5; replace a1 := eq_true a1; replace a2 := eq_true a2; have a3 : 0 ≤ (a0 : Int) := of_decide_eq_true Zx; have a4 : a0 < (l1.length : Int) := of_decide_eq_true Zx; obtain ⟨b3, a6, a8⟩ := Kd.at_string HR1.out a0 a3 a4
        cases a6; replace a3 := eq_true a3; replace a4 := eq_true a4
        go_wp2
        repeat (go_quiet (fail); try go_wp2)
        go_roundg k1
        case measure => have := HK1.out; omega
        case rel => exact ⟨(wrap64 (a0 + 1)), sm_, H', ⟨by have := HK1.out; omega⟩, by repeat (first | exact Zl.refl _ | apply Zl.step)⟩
       ·rw [if_neg c7] at H
        have b5 : ((Ye ByteArray.empty l0 a0).toList == (Ye ByteArray.empty l1 a0).toList) = false := beq_eq_false_iff_ne.mpr c7; have b6 : ((Ye ByteArray.empty l0 a0).toList != (Ye ByteArray.empty l1 a0).toList) = true := bne_iff_ne.mpr c7; obtain rfl := Option.some.inj H; have a1 : 0 ≤ (a0 : Int) := of_decide_eq_true Zx; have a2 : a0 < (l0.length : Int) := of_decide_eq_true Zx; obtain ⟨b2, a5, a7⟩ := Kd.at_string HR0.out a0 a1 a2
        cases a5; replace a1 := eq_true a1; replace a2 := eq_true a2; have a3 : 0 ≤ (a0 : Int) := of_decide_eq_true Zx; have a4 : a0 < (l1.length : Int) := of_decide_eq_true Zx; obtain ⟨b3, a6, a8⟩ := Kd.at_string HR1.out a0 a3 a4
        cases a6; replace a3 := eq_true a3; replace a4 := eq_true a4
        go_wp2
        repeat (go_quiet (fail); try go_wp2)
        go_ret; exact ⟨sm_, by repeat (first | exact Zl.refl _ | apply Zl.step)⟩
      ·rw [if_neg c6] at H
       exact absurd H (by simp)
     ·rw [if_neg c5] at H
      exact absurd H (by simp)
    ·rw [if_neg c4] at H
     have b4 : decide (a0 < (l0.length : Int)) = false := decide_eq_false c4; clear c4; obtain rfl := Option.some.inj H
     go_wp2
     repeat (go_quiet (fail); try go_wp2)
     go_ret; exact ⟨sm_, by repeat (first | exact Zl.refl _ | apply Zl.step)⟩
 ·rw [if_neg c3] at H
  have a9 : ((l0.length : Int) == (l1.length : Int)) = false := beq_eq_false_iff_ne.mpr c3; have b0 : ((l0.length : Int) != (l1.length : Int)) = true := bne_iff_ne.mpr c3
  have b1 : (l0.length == l1.length) = false := by first | simpa using c3 | (simp at c3 ⊢; omega)
  obtain rfl := Option.some.inj H
  go_enter Try.func25, Try.ntmps25
  go_wp2
  repeat (go_quiet (fail); try go_wp2)
  go_ret; exact ⟨sm_, by repeat (first | exact Zl.refl _ | apply Zl.step)⟩
end Go.Proofs.Ytadafplbgophfaa.PA
end
section
namespace Go.Proofs.Ytadafplbgophfaa.PA
open Go.RowKit Go.Proofs.YtadafplbgophfaaW.PrintWords Go.Proofs.YtadafplbgophfaaW.PrintLast Go.Proofs.YtadafplbgophfaaW.PrintMore
def Zs.f (a b : Int) (l : List ByteArray) : List ByteArray := if a < 0 then [] else if b > (l.length : Int) then [] else if b < a then [] else (l.take b.toNat).drop a.toNat
set_option maxHeartbeats 8000000 in
set_option maxRecDepth 100000 in
theorem Zs.calls (a b : Int) (A1 : Option Addr) (c1 : Nat) (l1 : List ByteArray) (w : World) (hc1 : l1.length ≤ c1) :
  Calls Try.prog 122 #[.agg #[.int .i64 a, .int .i64 b], .slice A1 l1.length c1] w fun e w' => ∃ (A : Option Addr) (c : Nat), e = .returned (.slice A (Zs.f a b l1).length c) ∧ (∀ W : World, Kd.C Kd.string W A1 l1.length l1 → Kd.C Kd.string W A (Zs.f a b l1).length (Zs.f a b l1)) ∧ (Zs.f a b l1).length ≤ c ∧ Below w.heap.size w w' := by
 have hu79 := Try.underlying79; have HC1 := Qa.mk hc1; clear hc1; have HB := Qa.mk (Below.refl w.heap.size w); unfold Zs.f
 have hnil : ∀ W : World, Kd.C Kd.string W none ([] : List ByteArray).length [] := fun W => Kd.C_nil _ _
 have HNIL := Qa.mk hnil; clear hnil
 by_cases d1 : a < 0
 ·rw [if_pos d1]
  have d1b : decide (a < 0) = true := decide_eq_true d1
  go_enter Try.func122, Try.ntmps122
  go_wp2_with ((with_reducible refine Zd (N := 2) rfl ?_); (try (refine Xq (by rfl) ?_; dsimp only)); refine Zc ?hg (N := 2) ?hd (cs := #[.int .i64 a, .int .i64 b]) (t := 79) ?hr ?_; (case hd => rfl); (case hg => rfl); (case hr => first | (go_simp; done) | (go_simp; rfl)); intro gb hg w2 hbox hb; have HB2 := Qa.mk hb; have GE := Qa.mk (Nat.le_of_eq hg.symm : w.heap.size ≤ gb); have y0 := (Qc hbox 0).trans (show _ = some (Value.int .i64 a) from rfl); have y1 := (Qc hbox 1).trans (show _ = some (Value.int .i64 b) from rfl); obtain ⟨x0, x1⟩ := Qdh hbox; clear hg hb hbox); go_ret
  first | exact ⟨none, ⟨0, rfl⟩, fun W _ => HNIL.out W, HB2.out⟩ | exact ⟨none, 0, rfl, fun W _ => HNIL.out W, Nat.zero_le _, HB2.out⟩
 ·rw [if_neg d1]
  have d1b : decide (a < 0) = false := decide_eq_false d1
  by_cases d2 : b > (l1.length : Int)
  ·rw [if_pos d2]
   have d2b : decide ((l1.length : Int) < b) = true := decide_eq_true d2
   go_enter Try.func122, Try.ntmps122
   go_wp2_with ((with_reducible refine Zd (N := 2) rfl ?_); (try (refine Xq (by rfl) ?_; dsimp only)); refine Zc ?hg (N := 2) ?hd (cs := #[.int .i64 a, .int .i64 b]) (t := 79) ?hr ?_; (case hd => rfl); (case hg => rfl); (case hr => first | (go_simp; done) | (go_simp; rfl)); intro gb hg w2 hbox hb; have HB2 := Qa.mk hb; have GE := Qa.mk (Nat.le_of_eq hg.symm : w.heap.size ≤ gb); have y0 := (Qc hbox 0).trans (show _ = some (Value.int .i64 a) from rfl); have y1 := (Qc hbox 1).trans (show _ = some (Value.int .i64 b) from rfl); obtain ⟨x0, x1⟩ := Qdh hbox; clear hg hb hbox); go_ret
   first | exact ⟨none, ⟨0, rfl⟩, fun W _ => HNIL.out W, HB2.out⟩ | exact ⟨none, 0, rfl, fun W _ => HNIL.out W, Nat.zero_le _, HB2.out⟩
  ·rw [if_neg d2]
   have d2b : decide ((l1.length : Int) < b) = false := decide_eq_false d2
   by_cases d3 : b < a
   ·rw [if_pos d3]
    have d3b : decide (b < a) = true := decide_eq_true d3
    go_enter Try.func122, Try.ntmps122
    go_wp2_with ((with_reducible refine Zd (N := 2) rfl ?_); (try (refine Xq (by rfl) ?_; dsimp only)); refine Zc ?hg (N := 2) ?hd (cs := #[.int .i64 a, .int .i64 b]) (t := 79) ?hr ?_; (case hd => rfl); (case hg => rfl); (case hr => first | (go_simp; done) | (go_simp; rfl)); intro gb hg w2 hbox hb; have HB2 := Qa.mk hb; have GE := Qa.mk (Nat.le_of_eq hg.symm : w.heap.size ≤ gb); have y0 := (Qc hbox 0).trans (show _ = some (Value.int .i64 a) from rfl); have y1 := (Qc hbox 1).trans (show _ = some (Value.int .i64 b) from rfl); obtain ⟨x0, x1⟩ := Qdh hbox; clear hg hb hbox); go_ret
    first | exact ⟨none, ⟨0, rfl⟩, fun W _ => HNIL.out W, HB2.out⟩ | exact ⟨none, 0, rfl, fun W _ => HNIL.out W, Nat.zero_le _, HB2.out⟩
   ·rw [if_neg d3]
    have d3b : decide (b < a) = false := decide_eq_false d3; obtain ⟨i0, hi0, _, hsz0, _⟩ := info_parts Ko; obtain ⟨A', c', hrun, hC, hle⟩ := Qcc (P := Try.prog) Kd.string 27 9 Try.underlying27 hi0 hsz0 A1 c1 l1 a b (by omega) (by omega) (by omega) HC1.out; have HCC := Qa.mk (And.intro hC hle); clear hC hle d1 d2 d3
    go_enter Try.func122, Try.ntmps122
    go_wp2_with ((with_reducible refine Zd (N := 2) rfl ?_); (try (refine Xq (by rfl) ?_; dsimp only)); refine Zc ?hg (N := 2) ?hd (cs := #[.int .i64 a, .int .i64 b]) (t := 79) ?hr ?_; (case hd => rfl); (case hg => rfl); (case hr => first | (go_simp; done) | (go_simp; rfl)); intro gb hg w2 hbox hb; have HB2 := Qa.mk hb; have GE := Qa.mk (Nat.le_of_eq hg.symm : w.heap.size ≤ gb); have y0 := (Qc hbox 0).trans (show _ = some (Value.int .i64 a) from rfl); have y1 := (Qc hbox 1).trans (show _ = some (Value.int .i64 b) from rfl); obtain ⟨x0, x1⟩ := Qdh hbox; clear hg hb hbox); go_ret; exact ⟨A', c', by simp [List.length_drop, List.length_take], HCC.out.1, HCC.out.2, HB2.out⟩
def Xp.g (k : Nat) (st : Bool) (x y z : List ByteArray) : Option Int :=
 if st = true then some 0 else (Zp.f k x y).bind fun t => if t = true then some 2 else (Zp.f k x z).bind fun t => if t = true then some 1 else (Zp.f k y z).bind fun t => if t = true then some 3 else some 4
def Xp.f (k : Nat) (c0 : Bool) (c1 c2 c3 c4 c5 c6 : Int) (b l r : List ByteArray) : Option Int :=
 Xp.g k c0 (Zs.f c1 c2 b) (Zs.f c3 c4 l) (Zs.f c5 c6 r)
def Xp.T1 : Bool × List (List Nat × List Nat) := (true, [([], []), ([0], [0]), ([], []), ([1, 2], [1, 2]), ([], []), ([4], [4]), ([], []), ([5, 6, 3], [5, 6]), ([], []), ([8], [8]), ([], []), ([9, 10, 7], [9, 10]), ([3, 11, 0, 1, 2, 3], [3]), ([7, 12, 0, 1, 2, 3, 4, 5, 6, 7, 12], [7]), ([11, 13, 0, 1, 2, 3, 4, 5, 6, 7, 8, 9, 10, 11, 12, 13], [11])])
def Xp.B1 : List Nat := [0, 1, 0, 7, 0, 16, 0, 127, 0, 256, 0, 2047, 4095, 8191, 16383]
theorem Xp.tab1 : Vx .any (Jb Try.f77 1) = Xp.T1 := by kernel_rfl
theorem Xp.bits1 : Vk Xp.T1.2 Xp.B1 = true := by kernel_rfl
set_option maxHeartbeats 8000000 in
set_option maxRecDepth 100000 in
theorem Xp.calls (k : Nat) (a0 : Bool) (a1 a2 a3 a4 a5 a6 : Int) (A1 : Option Addr) (c1 : Nat) (l1 : List ByteArray) (A2 : Option Addr) (c2 : Nat) (l2 : List ByteArray) (A3 : Option Addr) (c3 : Nat) (l3 : List ByteArray) (r : Int) (w : World) (hr1 : Kd.C Kd.string w A1 l1.length l1) (hc1 : l1.length ≤ c1) (hr2 : Kd.C Kd.string w A2 l2.length l2) (hc2 : l2.length ≤ c2) (hr3 : Kd.C Kd.string w A3 l3.length l3) (hc3 : l3.length ≤ c3) (h : Xp.f k a0 a1 a2 a3 a4 a5 a6 l1 l2 l3 = some r) :
  Calls Try.prog 77 #[.agg #[.bool a0, .int .i64 a1, .int .i64 a2, .int .i64 a3, .int .i64 a4, .int .i64 a5, .int .i64 a6], .slice A1 l1.length c1, .slice A2 l2.length c2, .slice A3 l3.length c3] w fun e w' => e = .returned (.int .i64 r) ∧ Below w.heap.size w w' := by
 have hu81 := Try.underlying81; have hu79 := Try.underlying79; have K1 := Qa.mk hr1; have K2 := Qa.mk hr2; have K3 := Qa.mk hr3; have HC1 := Qa.mk hc1; have HC2 := Qa.mk hc2; have HC3 := Qa.mk hc3; clear hr1 hc1 hr2 hc2 hr3 hc3
 unfold Xp.f at h
 have X1 := Qa.mk (Zs.calls a1 a2 A1 c1 l1 (hc1 := HC1.out)); have X2 := Qa.mk (Zs.calls a3 a4 A2 c2 l2 (hc1 := HC2.out)); have X3 := Qa.mk (Zs.calls a5 a6 A3 c3 l3 (hc1 := HC3.out))
 generalize Zs.f a1 a2 l1 = x at X1 h
 generalize Zs.f a3 a4 l2 = y at X2 h
 generalize Zs.f a5 a6 l3 = z at X3 h
 have H := Qa.mk h; clear h
 go_enter Try.func77, Try.ntmps77
 go_wp2_with ((with_reducible refine Zd (N := 4) rfl ?_); refine Zc ?hg (N := 4) ?hd (cs := #[.bool a0, .int .i64 a1, .int .i64 a2, .int .i64 a3, .int .i64 a4, .int .i64 a5, .int .i64 a6]) (t := 81) ?hr ?_; (case hd => rfl); (case hg => rfl); (case hr => first | (go_simp; done) | (go_simp; rfl)); intro gb hg w1 hbox hb; have BK := Qa.mk hbox; have HB := Qa.mk hb; replace K1 := Qa.mk (Kd.C_below K1.out hb); replace K2 := Qa.mk (Kd.C_below K2.out hb); replace K3 := Qa.mk (Kd.C_below K3.out hb); clear hg hbox hb); refine Ug (n := 15) (S := fun w' => w'.cell? ⟨gb, 0, none⟩ = some (.bool a0) ∧ w'.cell? ⟨gb, 1, none⟩ = some (.int .i64 a1) ∧ w'.cell? ⟨gb, 2, none⟩ = some (.int .i64 a2) ∧ w'.cell? ⟨gb, 3, none⟩ = some (.int .i64 a3) ∧ w'.cell? ⟨gb, 4, none⟩ = some (.int .i64 a4) ∧ w'.cell? ⟨gb, 5, none⟩ = some (.int .i64 a5) ∧ w'.cell? ⟨gb, 6, none⟩ = some (.int .i64 a6)) (ds := []) (bz_ 15 0) (by kernel_rfl) rfl rfl (Qbv BK.out) (fun hHeld => ?_); refine Va Xp.tab1 Xp.bits1 (fun HT_ HW_ => ?_); replace K1 := Qa.mk (Kd.C_drew K1.out); replace K2 := Qa.mk (Kd.C_drew K2.out); replace K3 := Qa.mk (Kd.C_drew K3.out); replace BK := Qa.mk (Qp BK.out); replace HB := Qa.mk (Qi HB.out)
 generalize w1.drew = wd at K1 K2 K3 BK HB hHeld ⊢
 refine pu_ (i := 0) (N := some 12) #[true, false, false, false, false, false, false, false, false, false, false, false, false, false, false] ?_; refine pu_ (i := 2) (N := some 14) #[true, false, true, false, false, false, false, false, false, false, false, false, false, false, false] ?_; refine pu_ (i := 4) (N := some 16) #[true, false, true, false, true, false, false, false, false, false, false, false, false, false, false] ?_; refine pu_ (i := 6) (N := some 18) #[true, false, true, false, true, false, true, false, false, false, false, false, false, false, false] ?_; refine pu_ (i := 8) (N := some 20) #[true, false, true, false, true, false, true, false, true, false, false, false, false, false, false] ?_; refine pu_ (i := 10) (N := some 22) #[true, false, true, false, true, false, true, false, true, false, true, false, false, false, false] ?_; refine ta_ (i := 1) (N := some 13) #[true, true, true, false, true, false, true, false, true, false, true, false, false, false, false] ?_; refine ta_ (i := 5) (N := some 17) #[true, true, true, false, true, true, true, false, true, false, true, false, false, false, false] ?_; refine ta_ (i := 9) (N := some 21) #[true, true, true, false, true, true, true, false, true, true, true, false, false, false, false] ?_; refine on_ (i := 3) (N := some 15) #[true, true, true, true, true, true, true, false, true, true, true, false, false, false, false] (fun K hK => ?_); refine Vr Try.func122 (by kernel_rfl) rfl #[.agg #[.int .i64 a1, .int .i64 a2], .slice A1 l1.length c1] (by rfl) rfl rfl (by (try simp only [List.map_toArray, List.map_cons, List.map_nil]); first | done | rfl) ?_; refine (X1.out _).mono ?_; rintro e w2 ⟨B1, d1, rfl, hC, hd, hb⟩; have E1 := Qa.mk (hC _ (Kd.C_below K1.out hb)); have D1 := Qa.mk hd; replace K1 := Qa.mk (Kd.C_below K1.out hb); replace K2 := Qa.mk (Kd.C_below K2.out hb); replace K3 := Qa.mk (Kd.C_below K3.out hb); replace BK := Qa.mk (Qq BK.out hb); replace HB := Qa.mk (Qj HB.out hb); refine ⟨_, rfl, ?_⟩; clear hC hd hb hHeld; refine hK.out _ _ (Qbv BK.out) (fun hHeld => ?_); clear hK K; refine nN_ 15 ?_; refine on_ (i := 7) (N := some 19) #[true, true, true, true, true, true, true, true, true, true, true, false, false, false, false] (fun K hK => ?_); refine Vr Try.func122 (by kernel_rfl) rfl #[.agg #[.int .i64 a3, .int .i64 a4], .slice A2 l2.length c2] (by rfl) rfl rfl (by (try simp only [List.map_toArray, List.map_cons, List.map_nil]); first | done | rfl) ?_; refine (X2.out _).mono ?_; rintro e w3 ⟨B2, d2, rfl, hC, hd, hb⟩; have E2 := Qa.mk (hC _ (Kd.C_below K2.out hb)); have D2 := Qa.mk hd; replace K1 := Qa.mk (Kd.C_below K1.out hb); replace K2 := Qa.mk (Kd.C_below K2.out hb); replace K3 := Qa.mk (Kd.C_below K3.out hb); replace E1 := Qa.mk (Kd.C_below E1.out hb); replace BK := Qa.mk (Qq BK.out hb); replace HB := Qa.mk (Qj HB.out hb); refine ⟨_, rfl, ?_⟩; clear hC hd hb hHeld; refine hK.out _ _ (Qbv BK.out) (fun hHeld => ?_); clear hK K; refine nN_ 19 ?_; refine on_ (i := 11) (N := some 23) #[true, true, true, true, true, true, true, true, true, true, true, true, false, false, false] (fun K hK => ?_); refine Vr Try.func122 (by kernel_rfl) rfl #[.agg #[.int .i64 a5, .int .i64 a6], .slice A3 l3.length c3] (by rfl) rfl rfl (by (try simp only [List.map_toArray, List.map_cons, List.map_nil]); first | done | rfl) ?_; refine (X3.out _).mono ?_; rintro e w4 ⟨B3, d3, rfl, hC, hd, hb⟩; have E3 := Qa.mk (hC _ (Kd.C_below K3.out hb)); have D3 := Qa.mk hd; replace K1 := Qa.mk (Kd.C_below K1.out hb); replace K2 := Qa.mk (Kd.C_below K2.out hb); replace K3 := Qa.mk (Kd.C_below K3.out hb); replace E1 := Qa.mk (Kd.C_below E1.out hb); replace E2 := Qa.mk (Kd.C_below E2.out hb); replace BK := Qa.mk (Qq BK.out hb); replace HB := Qa.mk (Qj HB.out hb); refine ⟨_, rfl, ?_⟩; clear hC hd hb hHeld; refine hK.out _ _ (Qbv BK.out) (fun hHeld => ?_); clear hK K; refine nN_ 23 ?_; refine pu_ (i := 12) (N := some 9) #[true, true, true, true, true, true, true, true, true, true, true, true, true, false, false] ?_; refine pu_ (i := 13) (N := some 10) #[true, true, true, true, true, true, true, true, true, true, true, true, true, true, false] ?_; refine pu_ (i := 14) (N := some 11) #[true, true, true, true, true, true, true, true, true, true, true, true, true, true, true] ?_; refine Ki (Vq HT_.out (by kernel_rfl)) ?_; clear hHeld K1 K2 K3 X1 X2 X3; have z0 : w4.cell? ⟨gb, 0, none⟩ = some (.bool a0) := (Qc BK.out 0).trans rfl; have hh := H.out
 unfold Xp.g at hh
 clear H
 cases a0 with
 | true =>
  rw [if_pos rfl] at hh
  obtain rfl := Option.some.inj hh; go_wp2_with fail; go_ret; exact ⟨by first | rfl | (simp; done), HB.out⟩
 | false =>
  rw [if_neg (by decide)] at hh
  replace hh := Option.bind_eq_some_iff.1 hh; obtain ⟨t, ht, hh⟩ := hh; have G := Qa.mk ht; have HH := Qa.mk hh; clear ht hh; go_wp2_with fail; refine (Zp.calls k B1 d1 x B2 d2 y _ _ E1.out D1.out E2.out D2.out G.out).mono ?_; rintro e w5 ⟨rfl, hD⟩; have hb := Zl.below hD; replace HB := Qa.mk (Qj HB.out hb); replace E1 := Qa.mk (Kd.C_below E1.out hb); replace E2 := Qa.mk (Kd.C_below E2.out hb); replace E3 := Qa.mk (Kd.C_below E3.out hb); clear hb hD G; have hh := HH.out; clear HH
  cases t with
  | true =>
   rw [if_pos rfl] at hh
   obtain rfl := Option.some.inj hh; go_wp2_with fail; go_ret; exact ⟨by first | rfl | (simp; done), HB.out⟩
  | false =>
   rw [if_neg (by decide)] at hh
   replace hh := Option.bind_eq_some_iff.1 hh; obtain ⟨t, ht, hh⟩ := hh; have G := Qa.mk ht; have HH := Qa.mk hh; clear ht hh; go_wp2_with fail; refine (Zp.calls k B1 d1 x B3 d3 z _ _ E1.out D1.out E3.out D3.out G.out).mono ?_; rintro e w6 ⟨rfl, hD⟩; have hb := Zl.below hD; replace HB := Qa.mk (Qj HB.out hb); replace E1 := Qa.mk (Kd.C_below E1.out hb); replace E2 := Qa.mk (Kd.C_below E2.out hb); replace E3 := Qa.mk (Kd.C_below E3.out hb); clear hb hD G; have hh := HH.out; clear HH
   cases t with
   | true =>
    rw [if_pos rfl] at hh
    obtain rfl := Option.some.inj hh; go_wp2_with fail; go_ret; exact ⟨by first | rfl | (simp; done), HB.out⟩
   | false =>
    rw [if_neg (by decide)] at hh
    replace hh := Option.bind_eq_some_iff.1 hh; obtain ⟨t, ht, hh⟩ := hh; have G := Qa.mk ht; have HH := Qa.mk hh; clear ht hh; go_wp2_with fail; refine (Zp.calls k B2 d2 y B3 d3 z _ _ E2.out D2.out E3.out D3.out G.out).mono ?_; rintro e w7 ⟨rfl, hD⟩; have hb := Zl.below hD; replace HB := Qa.mk (Qj HB.out hb); replace E1 := Qa.mk (Kd.C_below E1.out hb); replace E2 := Qa.mk (Kd.C_below E2.out hb); replace E3 := Qa.mk (Kd.C_below E3.out hb); clear hb hD G; have hh := HH.out; clear HH
    cases t with
    | true =>
     rw [if_pos rfl] at hh
     obtain rfl := Option.some.inj hh; go_wp2_with fail; go_ret; exact ⟨by first | rfl | (simp; done), HB.out⟩
    | false =>
     rw [if_neg (by decide)] at hh
     obtain rfl := Option.some.inj hh; go_wp2_with fail; go_ret; exact ⟨by first | rfl | (simp; done), HB.out⟩
end Go.Proofs.Ytadafplbgophfaa.PA
end
section
namespace Go.Proofs.Ytadafplbgophfaa.PA
open Go.RowKit Go.Proofs.YtadafplbgophfaaW.PrintWords Go.Proofs.YtadafplbgophfaaW.PrintLast Go.Proofs.YtadafplbgophfaaW.PrintMore
attribute [local go_sem] Xx Xz Yk Yl Xj Xk Xy Ya
mutual
def Zh.j1 : Nat → List ByteArray → List ByteArray → Int → Option (Int × Int)
 | 0, _, _, _ => none
 | k + 1, x0, x1, x6 => if 0 ≤ x6 then (if x6 ≤ (x0.length : Int) then (if x6 ≤ (x1.length : Int) then (Zh.l1 k (x0.drop (x6 : Int).toNat) (x1.drop (x6 : Int).toNat) x6 0) else (none)) else (none)) else (none)
def Zh.l1 : Nat → List ByteArray → List ByteArray → Int → Int → Option (Int × Int)
 | 0, _, _, _, _ => none
 | k + 1, x0, x1, x6, x7 => if x7 < (mn (x0.length : Int) (x1.length : Int)) then (if 0 ≤ (wrap64 ((wrap64 ((x0.length : Int) - 1)) - x7)) then (if (wrap64 ((wrap64 ((x0.length : Int) - 1)) - x7)) < (x0.length : Int) then (if 0 ≤ (wrap64 ((wrap64 ((x1.length : Int) - 1)) - x7)) then (if (wrap64 ((wrap64 ((x1.length : Int) - 1)) - x7)) < (x1.length : Int) then (if (Ye ByteArray.empty x0 (wrap64 ((wrap64 ((x0.length : Int) - 1)) - x7))).toList = (Ye ByteArray.empty x1 (wrap64 ((wrap64 ((x1.length : Int) - 1)) - x7))).toList then (Zh.l1 k x0 x1 x6 (wrap64 (x7 + 1))) else (some (x6, x7))) else (none)) else (none)) else (none)) else (none)) else (some (x6, x7))
def Zh.l0 : Nat → List ByteArray → List ByteArray → Int → Option (Int × Int)
 | 0, _, _, _ => none
 | k + 1, x0, x1, x6 => if x6 < (mn (x0.length : Int) (x1.length : Int)) then (if 0 ≤ x6 then (if x6 < (x0.length : Int) then (if x6 < (x1.length : Int) then (if (Ye ByteArray.empty x0 x6).toList = (Ye ByteArray.empty x1 x6).toList then (Zh.l0 k x0 x1 (wrap64 (x6 + 1))) else (Zh.j1 k x0 x1 x6)) else (none)) else (none)) else (none)) else (Zh.j1 k x0 x1 x6)
end
def Zh.f (k : Nat) (l0 : List ByteArray) (l1 : List ByteArray) : Option (Int × Int) := Zh.l0 k l0 l1 0
theorem Zh.mono_l : ∀ k, (∀ y0 y1 y2, LeO (Zh.j1 k y0 y1 y2) (Zh.j1 (k + 1) y0 y1 y2)) ∧ (∀ y0 y1 y2 y3, LeO (Zh.l1 k y0 y1 y2 y3) (Zh.l1 (k + 1) y0 y1 y2 y3)) ∧ (∀ y0 y1 y2, LeO (Zh.l0 k y0 y1 y2) (Zh.l0 (k + 1) y0 y1 y2))
 | 0 => ⟨fun _ _ _ r h => by simp [Zh.j1] at h, fun _ _ _ _ r h => by simp [Zh.l1] at h, fun _ _ _ r h => by simp [Zh.l0] at h⟩
 | k + 1 => by
  obtain ⟨ih0, ih1, ih2⟩ := Zh.mono_l k; refine ⟨?_, ?_, ?_⟩
  ·intro y0 y1 y2
   unfold Zh.j1
   repeat' first
   | (with_reducible exact ih0 _ _ _)
   | (with_reducible exact ih1 _ _ _ _)
   | (with_reducible exact ih2 _ _ _)
   | (with_reducible exact LeO.refl _)
   | (with_reducible exact LeO.none _)
   | (with_reducible refine LeO.ite ?_ ?_)
   | (with_reducible refine LeO.bind ?_ (fun _ => ?_))
   | exact ih0 _ _ _
   | exact ih1 _ _ _ _
   | exact ih2 _ _ _
   | exact LeO.none _
   | refine LeO.ite ?_ ?_
   | refine LeO.bind ?_ (fun _ => ?_)
  ·intro y0 y1 y2 y3
   unfold Zh.l1
   repeat' first
   | (with_reducible exact ih0 _ _ _)
   | (with_reducible exact ih1 _ _ _ _)
   | (with_reducible exact ih2 _ _ _)
   | (with_reducible exact LeO.refl _)
   | (with_reducible exact LeO.none _)
   | (with_reducible refine LeO.ite ?_ ?_)
   | (with_reducible refine LeO.bind ?_ (fun _ => ?_))
   | exact ih0 _ _ _
   | exact ih1 _ _ _ _
   | exact ih2 _ _ _
   | exact LeO.none _
   | refine LeO.ite ?_ ?_
   | refine LeO.bind ?_ (fun _ => ?_)
  ·intro y0 y1 y2
   unfold Zh.l0
   repeat' first
   | (with_reducible exact ih0 _ _ _)
   | (with_reducible exact ih1 _ _ _ _)
   | (with_reducible exact ih2 _ _ _)
   | (with_reducible exact LeO.refl _)
   | (with_reducible exact LeO.none _)
   | (with_reducible refine LeO.ite ?_ ?_)
   | (with_reducible refine LeO.bind ?_ (fun _ => ?_))
   | exact ih0 _ _ _
   | exact ih1 _ _ _ _
   | exact ih2 _ _ _
   | exact LeO.none _
   | refine LeO.ite ?_ ?_
   | refine LeO.bind ?_ (fun _ => ?_)
theorem Zh.mono : ∀ a0 a1 k, LeO (Zh.f k a0 a1) (Zh.f (k + 1) a0 a1) := by
 intro a0 a1 k; obtain ⟨ih0, ih1, ih2⟩ := Zh.mono_l k; unfold Zh.f
 repeat' first
   | (with_reducible exact ih0 _ _ _)
   | (with_reducible exact ih1 _ _ _ _)
   | (with_reducible exact ih2 _ _ _)
   | (with_reducible exact LeO.refl _)
   | (with_reducible exact LeO.none _)
   | (with_reducible refine LeO.ite ?_ ?_)
   | (with_reducible refine LeO.bind ?_ (fun _ => ?_))
   | exact ih0 _ _ _
   | exact ih1 _ _ _ _
   | exact ih2 _ _ _
   | exact LeO.none _
   | refine LeO.ite ?_ ?_
   | refine LeO.bind ?_ (fun _ => ?_)
set_option maxHeartbeats 8000000 in
set_option maxRecDepth 100000 in
theorem Zh.calls (k : Nat) (A0 : Option Addr) (c0 : Nat) (l0 : List ByteArray) (A1 : Option Addr) (c1 : Nat) (l1 : List ByteArray) (r1 : Int) (r2 : Int) (w : World) (hr0 : Kd.C Kd.string w A0 l0.length l0) (hc0 : l0.length ≤ c0) (hr1 : Kd.C Kd.string w A1 l1.length l1) (hc1 : l1.length ≤ c1) (h : Zh.f k l0 l1 = some (r1, r2)) :
  Calls Try.prog 22 #[.slice A0 l0.length c0, .slice A1 l1.length c1] w fun e w' => e = .returned (.tuple #[.int .i64 r1, .int .i64 r2]) ∧ Zl w w' := by
 have HR0 := Qa.mk hr0; have HC0 := Qa.mk hc0; clear hr0 hc0; have HR1 := Qa.mk hr1; have HC1 := Qa.mk hc1; clear hr1 hc1; have H : (Zh.l0 k l0 l1 0) = some (r1, r2) := h; clear h; have HC3 := Qa.mk H; clear H
 go_enter Try.func22, Try.ntmps22
 go_upto_block 0 with (fail)
 repeat (go_quiet (fail); go_upto_block 0 with (fail))
 go_cut [6] (fun v6 wc => ∃ (kq : Nat) (a2 : Int), v6 = .int .i64 a2 ∧ Qa (Zh.j1 kq l0 l1 a2 = some (r1, r2)) ∧ Qa (kq ≤ k) ∧ Zl w wc)
 case first =>
  have H := HC3.out; clear HC3; have H' := Qa.mk H; clear H
  go_wp2
  repeat (go_quiet (fail); try go_wp2)
  go_loopg [6] k (fun kq v6 w' => ∃ (a3 : Int), v6 = .int .i64 a3 ∧ Qa (Zh.l0 kq l0 l1 a3 = some (r1, r2)) ∧ Qa (kq ≤ k) ∧ Zl w w')
  case atStart => exact ⟨(0), sm_, H', ⟨Nat.le_refl _⟩, by repeat (first | exact Zl.refl _ | apply Zl.step)⟩
  case round =>
   clear H'
   try clear c1
   try clear c2
   try clear p2
   obtain ⟨a3, rfl, HA, HK1, ⟨m1, rfl⟩⟩ := hrel
   cases gk with
   | zero => exact absurd HA.out (by simp [Zh.l0])
   | succ k1 =>
    have H := HA.out; clear HA
    simp only [Zh.l0] at H
    obtain ⟨ji4, d8⟩ : ∃ j_ : Int, (mn (l0.length : Int) (l1.length : Int)) = j_ := ⟨_, rfl⟩
    replace H : (if a3 < (ji4) then (if 0 ≤ a3 then (if a3 < (l0.length : Int) then (if a3 < (l1.length : Int) then (if (Ye ByteArray.empty l0 a3).toList = (Ye ByteArray.empty l1 a3).toList then (Zh.l0 k1 l0 l1 (wrap64 (a3 + 1))) else (Zh.j1 k1 l0 l1 a3)) else (none)) else (none)) else (none)) else (Zh.j1 k1 l0 l1 a3)) = some (r1, r2) := by first | (rw [d8] at H; exact H) | (simp only [d8] at H ⊢; exact H)
    have d5 : (if (l1.length : Int) < (l0.length : Int) then (l1.length : Int) else (l0.length : Int)) = ji4 := d8
    have hji4_n : (if l1.length < l0.length then (l1.length : Int) else (l0.length : Int)) = ji4 := by first | exact_mod_cast d5 | (rw [← d5]; simp only [Int.ofNat_lt]; done) | (rw [← d5]; (repeat' split) <;> omega)
    by_cases c5 : a3 < (ji4)
    ·rw [if_pos c5] at H
     have b3 : decide (a3 < (ji4)) = true := decide_eq_true c5; clear c5
     (first | rw [b3] | (simp only [Yx, Vi]; rw [b3]) | skip)
     by_cases c6 : 0 ≤ a3
     ·rw [if_pos c6] at H
      have e9 : decide (0 ≤ a3) = true := decide_eq_true c6; clear c6
      by_cases c7 : a3 < (l0.length : Int)
      ·rw [if_pos c7] at H
       have f0 : decide (a3 < (l0.length : Int)) = true := decide_eq_true c7; clear c7
       by_cases c8 : a3 < (l1.length : Int)
       ·rw [if_pos c8] at H
        have f1 : decide (a3 < (l1.length : Int)) = true := decide_eq_true c8; clear c8
        by_cases c9 : (Ye ByteArray.empty l0 a3).toList = (Ye ByteArray.empty l1 a3).toList
        ·rw [if_pos c9] at H
         have d9 : ((Ye ByteArray.empty l0 a3).toList == (Ye ByteArray.empty l1 a3).toList) = true := beq_iff_eq.mpr c9; have e0 : ((Ye ByteArray.empty l0 a3).toList != (Ye ByteArray.empty l1 a3).toList) = false := bne_eq_false_iff_eq.mpr c9; clear c9; have H' := Qa.mk H; clear H; have a7 : 0 ≤ (a3 : Int) := of_decide_eq_true Zx; have a8 : a3 < (l0.length : Int) := of_decide_eq_true Zx; obtain ⟨f6, e1, b8⟩ := Kd.at_string HR0.out a3 a7 a8
         cases e1; replace a7 := eq_true a7; replace a8 := eq_true a8; have a9 : 0 ≤ (a3 : Int) := of_decide_eq_true Zx; have b0 : a3 < (l1.length : Int) := of_decide_eq_true Zx; obtain ⟨f7, e2, b9⟩ := Kd.at_string HR1.out a3 a9 b0
         cases e2; replace a9 := eq_true a9; replace b0 := eq_true b0
         go_wp2
         repeat (go_quiet (fail); try go_wp2)
         go_roundg k1
         case measure => have := HK1.out; omega
         case rel => exact ⟨(wrap64 (a3 + 1)), sm_, H', ⟨by have := HK1.out; omega⟩, by repeat (first | exact Zl.refl _ | apply Zl.step)⟩
        ·rw [if_neg c9] at H
         have d9 : ((Ye ByteArray.empty l0 a3).toList == (Ye ByteArray.empty l1 a3).toList) = false := beq_eq_false_iff_ne.mpr c9; have e0 : ((Ye ByteArray.empty l0 a3).toList != (Ye ByteArray.empty l1 a3).toList) = true := bne_iff_ne.mpr c9; have H' := Qa.mk H; clear H; have a7 : 0 ≤ (a3 : Int) := of_decide_eq_true Zx; have a8 : a3 < (l0.length : Int) := of_decide_eq_true Zx; obtain ⟨f6, e1, b8⟩ := Kd.at_string HR0.out a3 a7 a8
         cases e1; replace a7 := eq_true a7; replace a8 := eq_true a8; have a9 : 0 ≤ (a3 : Int) := of_decide_eq_true Zx; have b0 : a3 < (l1.length : Int) := of_decide_eq_true Zx; obtain ⟨f7, e2, b9⟩ := Kd.at_string HR1.out a3 a9 b0
         cases e2; replace a9 := eq_true a9; replace b0 := eq_true b0
         go_wp2
         repeat (go_quiet (fail); try go_wp2)
         go_meet
         case rel => exact ⟨_, (a3), sm_, H', ⟨by have := HK1.out; first | omega | exact Nat.le_refl _⟩, by repeat (first | exact Zl.refl _ | apply Zl.step)⟩
       ·rw [if_neg c8] at H
        exact absurd H (by simp)
      ·rw [if_neg c7] at H
       exact absurd H (by simp)
     ·rw [if_neg c6] at H
      exact absurd H (by simp)
    ·rw [if_neg c5] at H
     have b3 : decide (a3 < (ji4)) = false := decide_eq_false c5; clear c5
     (first | rw [b3] | (simp only [Yx, Vi]; rw [b3]) | skip)
     have H' := Qa.mk H; clear H
     go_wp2
     repeat (go_quiet (fail); try go_wp2)
     go_meet
     case rel => exact ⟨_, (a3), sm_, H', ⟨by have := HK1.out; first | omega | exact Nat.le_refl _⟩, by repeat (first | exact Zl.refl _ | apply Zl.step)⟩
 case rest =>
  clear HC3
  try clear c1
  try clear p1
  try clear q1
  try clear hx1
  try clear c2
  try clear p2
  try clear c5
  try clear b3
  try clear c6
  try clear e9
  try clear p6
  try clear c7
  try clear f0
  try clear c8
  try clear f1
  try clear c9
  try clear d9
  try clear e0
  try clear b8
  try clear b9
  try clear a7
  try clear a9
  try clear p2
  try clear a8
  try clear b0
  obtain ⟨kq, a2, rfl, HA, HJ2, ⟨mc2, rfl⟩⟩ := hcut
  cases kq with
  | zero => exact absurd HA.out (by simp [Zh.j1])
  | succ kj2 =>
   have H := HA.out; clear HA
   simp only [Zh.j1] at H
   by_cases c10 : 0 ≤ a2
   ·rw [if_pos c10] at H
    have f8 := eq_true c10; have f9 : decide (0 ≤ a2) = true := decide_eq_true c10; clear c10
    by_cases c11 : a2 ≤ (l0.length : Int)
    ·rw [if_pos c11] at H
     have g0 := eq_true c11; have g1 : decide (a2 ≤ (l0.length : Int)) = true := decide_eq_true c11; clear c11; have g2 := eq_true (of_decide_eq_true Zx : 0 ≤ a2)
     by_cases c13 : a2 ≤ (l1.length : Int)
     ·rw [if_pos c13] at H
      have g3 := eq_true c13; have g4 : decide (a2 ≤ (l1.length : Int)) = true := decide_eq_true c13; clear c13; have H' := Qa.mk H; clear H; obtain ⟨i014, hi014, _, hsz14, _⟩ := info_parts Ko; obtain ⟨A14, hcut14, hA14, hC14⟩ := Qaj (P := Try.prog) Value.string (⟨#[]⟩ : ByteArray) 27 9 .i64 Try.underlying27 hi014 hsz14 A0 c0 l0 a2 (of_decide_eq_true Zx) (of_decide_eq_true Zx) HC0.out; have e5 := Qa.mk (Kd.C_of_reads (h1 := fun _ => rfl) (hA14 _ (Kd.reads_of_C HR0.out))); have h3 := Qa.mk hC14; clear hA14 hC14 hi014 hsz14; obtain ⟨i015, hi015, _, hsz15, _⟩ := info_parts Ko; obtain ⟨A15, hcut15, hA15, hC15⟩ := Qaj (P := Try.prog) Value.string (⟨#[]⟩ : ByteArray) 27 9 .i64 Try.underlying27 hi015 hsz15 A1 c1 l1 a2 (of_decide_eq_true Zx) (of_decide_eq_true Zx) HC1.out; have e6 := Qa.mk (Kd.C_of_reads (h1 := fun _ => rfl) (hA15 _ (Kd.reads_of_C HR1.out))); have h4 := Qa.mk hC15; clear hA15 hC15 hi015 hsz15
      go_wp2
      repeat (go_quiet (fail); try go_wp2)
      go_loopg [7] kj2 (fun kq v7 w' => ∃ (a4 : Int), v7 = .int .i64 a4 ∧ Qa (Zh.l1 kq (l0.drop (a2 : Int).toNat) (l1.drop (a2 : Int).toNat) a2 a4 = some (r1, r2)) ∧ Qa (kq ≤ kj2) ∧ Zl w w')
      case atStart => exact ⟨(0), sm_, H', ⟨Nat.le_refl _⟩, by repeat (first | exact Zl.refl _ | apply Zl.step)⟩
      case round =>
       clear H'
       try clear c1
       try clear p1
       try clear q1
       try clear hx1
       try clear c2
       try clear p2
       try clear c5
       try clear b3
       try clear c6
       try clear e9
       try clear p6
       try clear c7
       try clear f0
       try clear c8
       try clear f1
       try clear c9
       try clear d9
       try clear e0
       try clear c10
       try clear f8
       try clear f9
       try clear p10
       try clear q10
       try clear h7
       try clear c11
       try clear g0
       try clear g1
       try clear c12
       try clear g2
       try clear c13
       try clear g3
       try clear g4
       try clear b8
       try clear b9
       try clear p1
       try clear a7
       try clear a9
       try clear p2
       try clear p6
       try clear q1
       try clear a8
       try clear b0
       obtain ⟨a4, rfl, HA, HK2, ⟨m2, rfl⟩⟩ := hrel
       cases gk with
       | zero => exact absurd HA.out (by simp [Zh.l1])
       | succ k2 =>
        have H := HA.out; clear HA
        simp only [Zh.l1] at H
        obtain ⟨d0, b6⟩ : ∃ j_ : Int, (mn ((l0.drop (a2 : Int).toNat).length : Int) ((l1.drop (a2 : Int).toNat).length : Int)) = j_ := ⟨_, rfl⟩
        replace H : (if a4 < (d0) then (if 0 ≤ (wrap64 ((wrap64 (((l0.drop (a2 : Int).toNat).length : Int) - 1)) - a4)) then (if (wrap64 ((wrap64 (((l0.drop (a2 : Int).toNat).length : Int) - 1)) - a4)) < ((l0.drop (a2 : Int).toNat).length : Int) then (if 0 ≤ (wrap64 ((wrap64 (((l1.drop (a2 : Int).toNat).length : Int) - 1)) - a4)) then (if (wrap64 ((wrap64 (((l1.drop (a2 : Int).toNat).length : Int) - 1)) - a4)) < ((l1.drop (a2 : Int).toNat).length : Int) then (if (Ye ByteArray.empty (l0.drop (a2 : Int).toNat) (wrap64 ((wrap64 (((l0.drop (a2 : Int).toNat).length : Int) - 1)) - a4))).toList = (Ye ByteArray.empty (l1.drop (a2 : Int).toNat) (wrap64 ((wrap64 (((l1.drop (a2 : Int).toNat).length : Int) - 1)) - a4))).toList then (Zh.l1 k2 (l0.drop (a2 : Int).toNat) (l1.drop (a2 : Int).toNat) a2 (wrap64 (a4 + 1))) else (some (a2, a4))) else (none)) else (none)) else (none)) else (none)) else (some (a2, a4))) = some (r1, r2) := by first | (rw [b6] at H; exact H) | (simp only [b6] at H ⊢; exact H)
        have b7 : (if ((l1.drop (a2 : Int).toNat).length : Int) < ((l0.drop (a2 : Int).toNat).length : Int) then ((l1.drop (a2 : Int).toNat).length : Int) else ((l0.drop (a2 : Int).toNat).length : Int)) = d0 := b6
        (try (have hji16_d := b7; simp only [List.length_drop, List.length_take] at hji16_d))
        have hji16_n : (if (l1.drop (a2 : Int).toNat).length < (l0.drop (a2 : Int).toNat).length then ((l1.drop (a2 : Int).toNat).length : Int) else ((l0.drop (a2 : Int).toNat).length : Int)) = d0 := by first | exact_mod_cast b7 | (rw [← b7]; simp only [Int.ofNat_lt]; done) | (rw [← b7]; (repeat' split) <;> omega)
        (try (have hji16_nd := hji16_n; simp only [List.length_drop, List.length_take] at hji16_nd))
        by_cases c17 : a4 < (d0)
        ·rw [if_pos c17] at H
         have g5 : decide (a4 < (d0)) = true := decide_eq_true c17; clear c17; obtain ⟨a5, d3⟩ : ∃ j_ : Int, (wrap64 ((wrap64 (((l0.drop (a2 : Int).toNat).length : Int) - 1)) - a4)) = j_ := ⟨_, rfl⟩
         replace H : (if 0 ≤ (a5) then (if (a5) < ((l0.drop (a2 : Int).toNat).length : Int) then (if 0 ≤ (wrap64 ((wrap64 (((l1.drop (a2 : Int).toNat).length : Int) - 1)) - a4)) then (if (wrap64 ((wrap64 (((l1.drop (a2 : Int).toNat).length : Int) - 1)) - a4)) < ((l1.drop (a2 : Int).toNat).length : Int) then (if (Ye ByteArray.empty (l0.drop (a2 : Int).toNat) (a5)).toList = (Ye ByteArray.empty (l1.drop (a2 : Int).toNat) (wrap64 ((wrap64 (((l1.drop (a2 : Int).toNat).length : Int) - 1)) - a4))).toList then (Zh.l1 k2 (l0.drop (a2 : Int).toNat) (l1.drop (a2 : Int).toNat) a2 (wrap64 (a4 + 1))) else (some (a2, a4))) else (none)) else (none)) else (none)) else (none)) = some (r1, r2) := by first | (rw [d3] at H; exact H) | (simp only [d3] at H ⊢; exact H)
         have f2 : (IntKind.i64.wrap ((wrap64 (((l0.drop (a2 : Int).toNat).length : Int) - 1)) - a4)) = a5 := (Yx _).trans d3
         (try (have hji18wd := f2; simp only [List.length_drop, List.length_take] at hji18wd))
         by_cases c19 : 0 ≤ (a5)
         ·rw [if_pos c19] at H
          have h5 : decide (0 ≤ (a5)) = true := decide_eq_true c19; clear c19
          by_cases c20 : (a5) < ((l0.drop (a2 : Int).toNat).length : Int)
          ·rw [if_pos c20] at H
           have g6 : decide ((a5) < ((l0.drop (a2 : Int).toNat).length : Int)) = true := decide_eq_true c20
           (try (have f3 := g6; simp only [List.length_drop, List.length_take] at f3))
           clear c20; obtain ⟨a6, d4⟩ : ∃ j_ : Int, (wrap64 ((wrap64 (((l1.drop (a2 : Int).toNat).length : Int) - 1)) - a4)) = j_ := ⟨_, rfl⟩
           replace H : (if 0 ≤ (a6) then (if (a6) < ((l1.drop (a2 : Int).toNat).length : Int) then (if (Ye ByteArray.empty (l0.drop (a2 : Int).toNat) (a5)).toList = (Ye ByteArray.empty (l1.drop (a2 : Int).toNat) (a6)).toList then (Zh.l1 k2 (l0.drop (a2 : Int).toNat) (l1.drop (a2 : Int).toNat) a2 (wrap64 (a4 + 1))) else (some (a2, a4))) else (none)) else (none)) = some (r1, r2) := by first | (rw [d4] at H; exact H) | (simp only [d4] at H ⊢; exact H)
           have f4 : (IntKind.i64.wrap ((wrap64 (((l1.drop (a2 : Int).toNat).length : Int) - 1)) - a4)) = a6 := (Yx _).trans d4
           (try (have hji21wd := f4; simp only [List.length_drop, List.length_take] at hji21wd))
           by_cases c22 : 0 ≤ (a6)
           ·rw [if_pos c22] at H
            have h6 : decide (0 ≤ (a6)) = true := decide_eq_true c22; clear c22
            by_cases c23 : (a6) < ((l1.drop (a2 : Int).toNat).length : Int)
            ·rw [if_pos c23] at H
             have g7 : decide ((a6) < ((l1.drop (a2 : Int).toNat).length : Int)) = true := decide_eq_true c23
             (try (have f5 := g7; simp only [List.length_drop, List.length_take] at f5))
             clear c23
             by_cases c24 : (Ye ByteArray.empty (l0.drop (a2 : Int).toNat) (a5)).toList = (Ye ByteArray.empty (l1.drop (a2 : Int).toNat) (a6)).toList
             ·rw [if_pos c24] at H
              have g8 : ((Ye ByteArray.empty (l0.drop (a2 : Int).toNat) (a5)).toList == (Ye ByteArray.empty (l1.drop (a2 : Int).toNat) (a6)).toList) = true := beq_iff_eq.mpr c24; have g9 : ((Ye ByteArray.empty (l0.drop (a2 : Int).toNat) (a5)).toList != (Ye ByteArray.empty (l1.drop (a2 : Int).toNat) (a6)).toList) = false := bne_eq_false_iff_eq.mpr c24; clear c24; have H' := Qa.mk H; clear H; have b4 : 0 ≤ ((a5) : Int) := of_decide_eq_true Zx; have b1 : (a5) < ((l0.drop (a2 : Int).toNat).length : Int) := of_decide_eq_true Zx; obtain ⟨h0, e3, e7⟩ := Kd.at_string e5.out (a5) b4 b1
              cases e3; replace b4 := eq_true b4; replace b1 := eq_true b1
              (try (have d6 := b1; simp only [List.length_drop, List.length_take] at d6))
              have b5 : 0 ≤ ((a6) : Int) := of_decide_eq_true Zx; have b2 : (a6) < ((l1.drop (a2 : Int).toNat).length : Int) := of_decide_eq_true Zx; obtain ⟨h2, e4, e8⟩ := Kd.at_string e6.out (a6) b5 b2
              cases e4; replace b5 := eq_true b5; replace b2 := eq_true b2
              (try (have d7 := b2; simp only [List.length_drop, List.length_take] at d7))
              go_wp2
              repeat (go_quiet (fail); try go_wp2)
              go_roundg k2
              case measure => have := HJ2.out; have := HK2.out; omega
              case rel => exact ⟨(wrap64 (a4 + 1)), sm_, H', ⟨by have := HJ2.out; have := HK2.out; omega⟩, by repeat (first | exact Zl.refl _ | apply Zl.step)⟩
             ·rw [if_neg c24] at H
              have g8 : ((Ye ByteArray.empty (l0.drop (a2 : Int).toNat) (a5)).toList == (Ye ByteArray.empty (l1.drop (a2 : Int).toNat) (a6)).toList) = false := beq_eq_false_iff_ne.mpr c24; have g9 : ((Ye ByteArray.empty (l0.drop (a2 : Int).toNat) (a5)).toList != (Ye ByteArray.empty (l1.drop (a2 : Int).toNat) (a6)).toList) = true := bne_iff_ne.mpr c24
              simp only [Option.some.injEq, Prod.mk.injEq] at H
              obtain ⟨rfl, rfl⟩ := H; have b4 : 0 ≤ ((a5) : Int) := of_decide_eq_true Zx; have b1 : (a5) < ((l0.drop (a2 : Int).toNat).length : Int) := of_decide_eq_true Zx; obtain ⟨h0, e3, e7⟩ := Kd.at_string e5.out (a5) b4 b1
              cases e3; replace b4 := eq_true b4; replace b1 := eq_true b1
              (try (have d6 := b1; simp only [List.length_drop, List.length_take] at d6))
              have b5 : 0 ≤ ((a6) : Int) := of_decide_eq_true Zx; have b2 : (a6) < ((l1.drop (a2 : Int).toNat).length : Int) := of_decide_eq_true Zx; obtain ⟨h2, e4, e8⟩ := Kd.at_string e6.out (a6) b5 b2
              cases e4; replace b5 := eq_true b5; replace b2 := eq_true b2
              (try (have d7 := b2; simp only [List.length_drop, List.length_take] at d7))
              go_wp2
              repeat (go_quiet (fail); try go_wp2)
              go_ret2
              exact ⟨by first | rfl | (simp; done) | (simp only [← b6, ← d3, ← d4] <;> (first | rfl | simp)) | (simp [*]; done), by repeat (first | exact Zl.refl _ | apply Zl.step)⟩
            ·rw [if_neg c23] at H
             exact absurd H (by simp)
           ·rw [if_neg c22] at H
            exact absurd H (by simp)
          ·rw [if_neg c20] at H
           exact absurd H (by simp)
         ·rw [if_neg c19] at H
          exact absurd H (by simp)
        ·rw [if_neg c17] at H
         have g5 : decide (a4 < (d0)) = false := decide_eq_false c17; clear c17
         simp only [Option.some.injEq, Prod.mk.injEq] at H
         obtain ⟨rfl, rfl⟩ := H
         go_wp2
         repeat (go_quiet (fail); try go_wp2)
         go_ret2
         exact ⟨by first | rfl | (simp; done) | (simp only [← b6] <;> (first | rfl | simp)) | (simp [*]; done), by repeat (first | exact Zl.refl _ | apply Zl.step)⟩
     ·rw [if_neg c13] at H
      exact absurd H (by simp)
    ·rw [if_neg c11] at H
     exact absurd H (by simp)
   ·rw [if_neg c10] at H
    exact absurd H (by simp)
def Vd.f (k : Nat) (l0 : List ByteArray) (l1 : List ByteArray) : Option (Int × Int) := (Zh.f k l0 l1).bind fun a2 => (some (a2.1, a2.2))
theorem Vd.mono : ∀ a0 a1 k, LeO (Vd.f k a0 a1) (Vd.f (k + 1) a0 a1) := by
 intro a0 a1 k; unfold Vd.f
 repeat' first
   | (with_reducible exact Zh.mono _ _ _)
   | (with_reducible exact LeO.refl _)
   | (with_reducible exact LeO.none _)
   | (with_reducible refine LeO.ite ?_ ?_)
   | (with_reducible refine LeO.bind ?_ (fun _ => ?_))
   | exact Zh.mono _ _ _
   | exact LeO.none _
   | refine LeO.ite ?_ ?_
   | refine LeO.bind ?_ (fun _ => ?_)
set_option maxHeartbeats 8000000 in
set_option maxRecDepth 100000 in
theorem Vd.calls (k : Nat) (A0 : Option Addr) (c0 : Nat) (l0 : List ByteArray) (A1 : Option Addr) (c1 : Nat) (l1 : List ByteArray) (r1 : Int) (r2 : Int) (w : World) (hr0 : Kd.C Kd.string w A0 l0.length l0) (hc0 : l0.length ≤ c0) (hr1 : Kd.C Kd.string w A1 l1.length l1) (hc1 : l1.length ≤ c1) (h : Vd.f k l0 l1 = some (r1, r2)) :
  Calls Try.prog 57 #[.slice A0 l0.length c0, .slice A1 l1.length c1] w fun e w' => e = .returned (.tuple #[.int .i64 r1, .int .i64 r2]) ∧ Zl w w' := by
 have HR0 := Qa.mk hr0; have HC0 := Qa.mk hc0; clear hr0 hc0; have HR1 := Qa.mk hr1; have HC1 := Qa.mk hc1; clear hr1 hc1; have H : ((Zh.f k l0 l1).bind fun a2 => (some (a2.1, a2.2))) = some (r1, r2) := h; clear h; replace H := Option.bind_eq_some_iff.mp H; obtain ⟨⟨a3, a4⟩, A30, H⟩ := H; replace H : (some (a3, a4)) = some (r1, r2) := H; have A3 := Qa.mk A30; clear A30
 simp only [Option.some.injEq, Prod.mk.injEq] at H
 obtain ⟨rfl, rfl⟩ := H
 go_enter Try.func57, Try.ntmps57
 go_wp2_with (first | ((with_reducible refine Xo (f := 22) rfl ?_); refine Vb (some 8) rfl rfl Try.func22 (by kernel_rfl) rfl #[.slice A0 l0.length c0, .slice A1 l1.length c1] rfl (by (try simp only [List.map_toArray, List.map_cons, List.map_nil]); first | done | rfl | (simp only [List.length_drop, List.length_take]; rfl)) ?_; (with_reducible refine (Zh.calls k _ _ l0 _ _ l1 a3 a4 _ ?side1 ?side2 ?side3 ?side4 A3.out).mono ?_); (case side1 => repeat (first | exact HR0.out | (with_reducible refine Kd.C_alloc ?_ _) | (with_reducible refine Kd.C_drewN ?_ _) | (with_reducible refine Kd.C_drew ?_))); (case side2 => exact HC0.out); (case side3 => repeat (first | exact HR1.out | (with_reducible refine Kd.C_alloc ?_ _) | (with_reducible refine Kd.C_drewN ?_ _) | (with_reducible refine Kd.C_drew ?_))); (case side4 => exact HC1.out); rintro e w' ⟨rfl, ⟨nd, rfl⟩⟩; refine ⟨_, rfl, ?_⟩))
 go_ret2
 exact ⟨sm_, by repeat (first | exact Zl.refl _ | apply Zl.step)⟩
end Go.Proofs.Ytadafplbgophfaa.PA
end
section
namespace Go.Proofs.Ytadafplbgophfaa.PA
open Go.RowKit Go.Proofs.YtadafplbgophfaaW.PrintWords Go.Proofs.YtadafplbgophfaaW.PrintLast Go.Proofs.YtadafplbgophfaaW.PrintMore
attribute [local go_sem] Xx Xz Yk Yl Xj Xk Xy Ya
attribute [local go_sem high] Qmq
def Yo.l0 : Nat → List (Yv) → List (Yv) → Int → Int → Option ((List (Yv)))
 | 0, _, _, _, _ => none
 | k + 1, x3, x7, x8, x9 => if x9 < x8 then (if 0 ≤ x9 then (if x9 < (x7.length : Int) then (if (((((Qb x7 x9).f0.f0).toList) == ([] : List UInt8) && ((((Qb x7 x9).f0.f1).toList) == ([] : List UInt8) && ((((Qb x7 x9).f0.f2).toList) == ([] : List UInt8)))) && (!((Qb x7 x9).f1) && ((((Qb x7 x9).f2).toList) == ([] : List UInt8) && ((((Qb x7 x9).f3).toList) == ([] : List UInt8) && ((((Qb x7 x9).f4).toList) == ([] : List UInt8) && ((((Qb x7 x9).f5).toList) == ([] : List UInt8) && (!((Qb x7 x9).f6)))))))) = true then (Yo.l0 k x3 x7 x8 (wrap64 (x9 + 1))) else ((Zv.f ((Qb x7 x9).f0.f0) ((Qb x7 x9).f0.f1) ((Qb x7 x9).f0.f2) ((Qb x7 x9).f1) ((Qb x7 x9).f2) ((Qb x7 x9).f3) ((Qb x7 x9).f4) ((Qb x7 x9).f5) ((Qb x7 x9).f6)).bind fun g6 => (if g6 = true then (if (x3.length : Int) > 0 then (if 0 ≤ (wrap64 ((x3.length : Int) - 1)) then (if (wrap64 ((x3.length : Int) - 1)) < (x3.length : Int) then ((Zv.f ((Qb x3 (wrap64 ((x3.length : Int) - 1))).f0.f0) ((Qb x3 (wrap64 ((x3.length : Int) - 1))).f0.f1) ((Qb x3 (wrap64 ((x3.length : Int) - 1))).f0.f2) ((Qb x3 (wrap64 ((x3.length : Int) - 1))).f1) ((Qb x3 (wrap64 ((x3.length : Int) - 1))).f2) ((Qb x3 (wrap64 ((x3.length : Int) - 1))).f3) ((Qb x3 (wrap64 ((x3.length : Int) - 1))).f4) ((Qb x3 (wrap64 ((x3.length : Int) - 1))).f5) ((Qb x3 (wrap64 ((x3.length : Int) - 1))).f6)).bind fun b8 => (if b8 = true then (if ((Qb x3 (wrap64 ((x3.length : Int) - 1))).f2).size + ((Qb x7 x9).f2).size ≤ 9223372036854775807 then (Yo.l0 k (x3.set ((wrap64 ((x3.length : Int) - 1)) : Int).toNat (⟨(⟨(Qb x3 (wrap64 ((x3.length : Int) - 1))).f0.f0, (Qb x3 (wrap64 ((x3.length : Int) - 1))).f0.f1, (Qb x3 (wrap64 ((x3.length : Int) - 1))).f0.f2⟩ : Vz), (Qb x3 (wrap64 ((x3.length : Int) - 1))).f1, ((Qb x3 (wrap64 ((x3.length : Int) - 1))).f2) ++ ((Qb x7 x9).f2), (Qb x3 (wrap64 ((x3.length : Int) - 1))).f3, (Qb x3 (wrap64 ((x3.length : Int) - 1))).f4, (Qb x3 (wrap64 ((x3.length : Int) - 1))).f5, (Qb x3 (wrap64 ((x3.length : Int) - 1))).f6⟩ : Yv)) x7 x8 (wrap64 (x9 + 1))) else (none)) else (if x3.length < 1099511627776 then (Yo.l0 k (x3 ++ [(⟨(⟨(Qb x7 x9).f0.f0, (Qb x7 x9).f0.f1, (Qb x7 x9).f0.f2⟩ : Vz), (Qb x7 x9).f1, (Qb x7 x9).f2, (Qb x7 x9).f3, (Qb x7 x9).f4, (Qb x7 x9).f5, (Qb x7 x9).f6⟩ : Yv)]) x7 x8 (wrap64 (x9 + 1))) else (none)))) else (none)) else (none)) else (if x3.length < 1099511627776 then (Yo.l0 k (x3 ++ [(⟨(⟨(Qb x7 x9).f0.f0, (Qb x7 x9).f0.f1, (Qb x7 x9).f0.f2⟩ : Vz), (Qb x7 x9).f1, (Qb x7 x9).f2, (Qb x7 x9).f3, (Qb x7 x9).f4, (Qb x7 x9).f5, (Qb x7 x9).f6⟩ : Yv)]) x7 x8 (wrap64 (x9 + 1))) else (none))) else (if x3.length < 1099511627776 then (Yo.l0 k (x3 ++ [(⟨(⟨(Qb x7 x9).f0.f0, (Qb x7 x9).f0.f1, (Qb x7 x9).f0.f2⟩ : Vz), (Qb x7 x9).f1, (Qb x7 x9).f2, (Qb x7 x9).f3, (Qb x7 x9).f4, (Qb x7 x9).f5, (Qb x7 x9).f6⟩ : Yv)]) x7 x8 (wrap64 (x9 + 1))) else (none))))) else (none)) else (none)) else (some x3)
def Yo.f (k : Nat) (l0 : List (Yv)) : Option ((List (Yv))) := Yo.l0 k ([] : List (Yv)) l0 (l0.length : Int) 0
theorem Yo.mono_l : ∀ k, (∀ y0 y1 y2 y3, LeO (Yo.l0 k y0 y1 y2 y3) (Yo.l0 (k + 1) y0 y1 y2 y3))
 | 0 => fun _ _ _ _ r h => by simp [Yo.l0] at h
 | k + 1 => by
  have ih0 := Yo.mono_l k
  ·intro y0 y1 y2 y3
   unfold Yo.l0
   repeat' first
   | (with_reducible exact ih0 _ _ _ _)
   | (with_reducible exact LeO.refl _)
   | (with_reducible exact LeO.none _)
   | (with_reducible refine LeO.ite ?_ ?_)
   | (with_reducible refine LeO.bind ?_ (fun _ => ?_))
   | exact ih0 _ _ _ _
   | exact LeO.none _
   | refine LeO.ite ?_ ?_
   | refine LeO.bind ?_ (fun _ => ?_)
theorem Yo.mono : ∀ a0 k, LeO (Yo.f k a0) (Yo.f (k + 1) a0) := by
 intro a0 k; have ih0 := Yo.mono_l k; unfold Yo.f
 repeat' first
   | (with_reducible exact ih0 _ _ _ _)
   | (with_reducible exact LeO.refl _)
   | (with_reducible exact LeO.none _)
   | (with_reducible refine LeO.ite ?_ ?_)
   | (with_reducible refine LeO.bind ?_ (fun _ => ?_))
   | exact ih0 _ _ _ _
   | exact LeO.none _
   | refine LeO.ite ?_ ?_
   | refine LeO.bind ?_ (fun _ => ?_)
def Yo.T9 : Bool × List (List Nat × List Nat) := (true, [([], []), ([], []), ([1], [1]), ([0, 2], [0, 2]), ([3], [3]), ([4], [4]), ([], []), ([6], [6]), ([5, 7], [5, 7]), ([0, 2, 0, 1, 2, 3, 4, 5, 6, 7, 8], [0, 2]), ([9, 0, 1, 2, 3, 4, 5, 6, 7, 8], [9]), ([10, 8, 0, 1, 2, 3, 4, 5, 6, 7, 8], [8, 10])])
def Yo.B9 : List Nat := [0, 0, 2, 7, 15, 31, 0, 64, 255, 511, 1023, 2047]
theorem Yo.tab9 : Vx .any (Jb Try.f111 9) = Yo.T9 := by kernel_rfl
theorem Yo.bits9 : Vk Yo.T9.2 Yo.B9 = true := by kernel_rfl
set_option maxHeartbeats 8000000 in
set_option maxRecDepth 100000 in
theorem Yo.calls (k : Nat) (A0 : Option Addr) (c0 : Nat) (l0 : List (Yv)) (r : List (Yv)) (w : World) (hr0 : Kd.C Je w A0 l0.length l0) (hc0 : l0.length ≤ c0) (h : Yo.f k l0 = some r) :
  Calls Try.prog 111 #[.slice A0 l0.length c0] w fun e w' => ∃ v0_ : Value, e = .returned (v0_) ∧ Kd.R Je 120 w' w.heap.size (fun _ => True) v0_ r ∧ Below w.heap.size w w' := by
 have hu120 := Try.underlying120; have HR0 := Qa.mk hr0; have HC0 := Qa.mk hc0; clear hr0 hc0; have HB := Qa.mk (Below.refl w.heap.size w); have H : (Yo.l0 k ([] : List (Yv)) l0 (l0.length : Int) 0) = some r := h; clear h; have H' := Qa.mk H; clear H
 go_enter Try.func111, Try.ntmps111
 go_wp2
 go_loopg [3, 9] k (fun kq v3 v9 w' => ∃ (a2 : List (Yv)) (a1 : Int), v9 = .int .i64 a1 ∧ Qa (Yo.l0 kq a2 l0 (l0.length : Int) a1 = some r) ∧ Qa (kq ≤ k) ∧ Qa (Kd.R Je 120 w' w.heap.size (fun _ => True) v3 a2) ∧ Qa (Below w.heap.size w w'))
 case atStart => exact ⟨(([] : List (Yv))), (0), sm_, H', ⟨Nat.le_refl _⟩, ⟨by first | exact Kd.R_nil _ _ _ _ _ | exact Kd.N_nil _ _ _ _ _ | exact Kd.V_nil _ _ _ _ _ | exact Kd.Q_nil _ _ _ _ _ | exact Kd.S_nil _ _ _ _ _⟩, ⟨bw_⟩⟩
 case round =>
  clear H'
  try clear c1
  obtain ⟨a2, a1, rfl, HA, HK1, a6, HB⟩ := hrel
  cases gk with
  | zero => exact absurd HA.out (by simp [Yo.l0])
  | succ k1 =>
   have H := HA.out; clear HA
   simp only [Yo.l0] at H
   by_cases c2 : a1 < (l0.length : Int)
   ·rw [if_pos c2] at H
    have k7 : decide (a1 < (l0.length : Int)) = true := decide_eq_true c2; clear c2
    by_cases c3 : 0 ≤ a1
    ·rw [if_pos c3] at H
     have D6 : decide (0 ≤ a1) = true := decide_eq_true c3; clear c3
     by_cases c4 : a1 < (l0.length : Int)
     ·rw [if_pos c4] at H
      have D7 : decide (a1 < (l0.length : Int)) = true := decide_eq_true c4; clear c4
      by_cases c5 : (((((Qb l0 a1).f0.f0).toList) == ([] : List UInt8) && ((((Qb l0 a1).f0.f1).toList) == ([] : List UInt8) && ((((Qb l0 a1).f0.f2).toList) == ([] : List UInt8)))) && (!((Qb l0 a1).f1) && ((((Qb l0 a1).f2).toList) == ([] : List UInt8) && ((((Qb l0 a1).f3).toList) == ([] : List UInt8) && ((((Qb l0 a1).f4).toList) == ([] : List UInt8) && ((((Qb l0 a1).f5).toList) == ([] : List UInt8) && (!((Qb l0 a1).f6)))))))) = true
      ·rw [if_pos c5] at H
       have h8 : (((((Qb l0 a1).f0.f0).toList) == ([] : List UInt8) && ((((Qb l0 a1).f0.f1).toList) == ([] : List UInt8) && ((((Qb l0 a1).f0.f2).toList) == ([] : List UInt8)))) && (!((Qb l0 a1).f1) && ((((Qb l0 a1).f2).toList) == ([] : List UInt8) && ((((Qb l0 a1).f3).toList) == ([] : List UInt8) && ((((Qb l0 a1).f4).toList) == ([] : List UInt8) && ((((Qb l0 a1).f5).toList) == ([] : List UInt8) && (!((Qb l0 a1).f6)))))))) = true := c5
       (try simp only [List.beq_nil_eq] at h8)
       clear c5; have H' := Qa.mk H; clear H; have b6 : 0 ≤ (a1 : Int) := of_decide_eq_true Zx; have b7 : a1 < (l0.length : Int) := of_decide_eq_true Zx; obtain ⟨e7, b9, a7, a8, a9, b0, b1, b2, b3, b4, b5⟩ := Ky HR0.out a1 b6 b7
       cases b9; replace a7 := Qg HB.out a7; replace a8 := Qg HB.out a8; replace a9 := Qg HB.out a9; replace b0 := Qg HB.out b0; replace b1 := Qg HB.out b1; replace b2 := Qg HB.out b2; replace b3 := Qg HB.out b3; replace b4 := Qg HB.out b4; replace b5 := Qg HB.out b5; replace b6 := eq_true b6; replace b7 := eq_true b7; go_wp2_with (first | ((with_reducible refine Zd (N := 5) rfl ?_); refine Zc ?hg (N := 5) ?hd (cs := #[.string (⟨#[]⟩ : ByteArray), .string (⟨#[]⟩ : ByteArray), .string (⟨#[]⟩ : ByteArray), .bool false, .string (⟨#[]⟩ : ByteArray), .string (⟨#[]⟩ : ByteArray), .string (⟨#[]⟩ : ByteArray), .string (⟨#[]⟩ : ByteArray), .bool false]) (t := 120) ?hr ?_; (case hd => rfl); (case hg => rfl); (case hr => first | (go_simp; done) | (go_simp; rfl)); intro a4 hg w6 hbox hb; have n0_ := Qa.mk (Kd.R_below (Kd.R_elderB (ro_ a6.out) a4 (Nat.le_of_eq hg.symm)) hb); have n1_ := Qa.mk (Qj bw_ hb); have n2_ := Qa.mk (hbox); have n3_ := Qa.mk ((gw_ hg : w.heap.size ≤ a4)); have n4_ := Qa.mk ((gw_ hg : w.heap.size ≤ a4)); clear a6; clear HB; have a6 := n0_; have HB := n1_; have a5 := n2_; have e8 := n3_; have GE102 := n4_; clear n0_ n1_ n2_ n3_ n4_; clear hb hbox hg; obtain ⟨A3, A4, A5, A6, A7, A8, B2, B6, B7⟩ := Ju a5.out; obtain ⟨C0, C1, C2, C3, C4, C5, C6, C7, C8⟩ := Jv a5.out; obtain ⟨Ao8, co8, eo8⟩ := Kd.R_slice a6.out; subst eo8))
       go_roundg k1
       case measure => have := HK1.out; omega
       case rel => exact ⟨(a2), (wrap64 (a1 + 1)), sm_, H', ⟨by have := HK1.out; omega⟩, ⟨by (with_reducible repeat (first | apply Kd.R_alloc | apply Kd.R_drewN | apply Kd.R_drew)); exact Kd.R_mono (Kd.R_far (p := ⟨a4, 8, none⟩) (Kd.R_far (p := ⟨a4, 7, none⟩) (Kd.R_far (p := ⟨a4, 6, none⟩) (Kd.R_far (p := ⟨a4, 5, none⟩) (Kd.R_far (p := ⟨a4, 4, none⟩) (Kd.R_far (p := ⟨a4, 3, none⟩) (Kd.R_far (p := ⟨a4, 2, none⟩) (Kd.R_far (p := ⟨a4, 1, none⟩) (Kd.R_far (p := ⟨a4, 0, none⟩) (Kd.R_mono a6.out (fun k_ hk => (⟨hk, hk.2⟩ : _ ∧ k_ ≠ a4))) (fun _ hk => hk.2) (.string ((Qb l0 a1).f0.f0))) (fun _ hk => hk.2) (.string ((Qb l0 a1).f0.f1))) (fun _ hk => hk.2) (.string ((Qb l0 a1).f0.f2))) (fun _ hk => hk.2) (.bool ((Qb l0 a1).f1))) (fun _ hk => hk.2) (.string ((Qb l0 a1).f2))) (fun _ hk => hk.2) (.string ((Qb l0 a1).f3))) (fun _ hk => hk.2) (.string ((Qb l0 a1).f4))) (fun _ hk => hk.2) (.string ((Qb l0 a1).f5))) (fun _ hk => hk.2) (.bool ((Qb l0 a1).f6))) (fun _ hk => trivial)⟩, ⟨bw_⟩⟩
      ·rw [if_neg c5] at H
       have h8 : (((((Qb l0 a1).f0.f0).toList) == ([] : List UInt8) && ((((Qb l0 a1).f0.f1).toList) == ([] : List UInt8) && ((((Qb l0 a1).f0.f2).toList) == ([] : List UInt8)))) && (!((Qb l0 a1).f1) && ((((Qb l0 a1).f2).toList) == ([] : List UInt8) && ((((Qb l0 a1).f3).toList) == ([] : List UInt8) && ((((Qb l0 a1).f4).toList) == ([] : List UInt8) && ((((Qb l0 a1).f5).toList) == ([] : List UInt8) && (!((Qb l0 a1).f6)))))))) = false := by simpa using c5
       (try simp only [List.beq_nil_eq] at h8)
       clear c5; replace H := Option.bind_eq_some_iff.mp H; obtain ⟨g6, A90, H⟩ := H; replace H : (if g6 = true then (if (a2.length : Int) > 0 then (if 0 ≤ (wrap64 ((a2.length : Int) - 1)) then (if (wrap64 ((a2.length : Int) - 1)) < (a2.length : Int) then ((Zv.f ((Qb a2 (wrap64 ((a2.length : Int) - 1))).f0.f0) ((Qb a2 (wrap64 ((a2.length : Int) - 1))).f0.f1) ((Qb a2 (wrap64 ((a2.length : Int) - 1))).f0.f2) ((Qb a2 (wrap64 ((a2.length : Int) - 1))).f1) ((Qb a2 (wrap64 ((a2.length : Int) - 1))).f2) ((Qb a2 (wrap64 ((a2.length : Int) - 1))).f3) ((Qb a2 (wrap64 ((a2.length : Int) - 1))).f4) ((Qb a2 (wrap64 ((a2.length : Int) - 1))).f5) ((Qb a2 (wrap64 ((a2.length : Int) - 1))).f6)).bind fun b8 => (if b8 = true then (if ((Qb a2 (wrap64 ((a2.length : Int) - 1))).f2).size + ((Qb l0 a1).f2).size ≤ 9223372036854775807 then (Yo.l0 k1 (a2.set ((wrap64 ((a2.length : Int) - 1)) : Int).toNat (⟨(⟨(Qb a2 (wrap64 ((a2.length : Int) - 1))).f0.f0, (Qb a2 (wrap64 ((a2.length : Int) - 1))).f0.f1, (Qb a2 (wrap64 ((a2.length : Int) - 1))).f0.f2⟩ : Vz), (Qb a2 (wrap64 ((a2.length : Int) - 1))).f1, ((Qb a2 (wrap64 ((a2.length : Int) - 1))).f2) ++ ((Qb l0 a1).f2), (Qb a2 (wrap64 ((a2.length : Int) - 1))).f3, (Qb a2 (wrap64 ((a2.length : Int) - 1))).f4, (Qb a2 (wrap64 ((a2.length : Int) - 1))).f5, (Qb a2 (wrap64 ((a2.length : Int) - 1))).f6⟩ : Yv)) l0 (l0.length : Int) (wrap64 (a1 + 1))) else (none)) else (if a2.length < 1099511627776 then (Yo.l0 k1 (a2 ++ [(⟨(⟨(Qb l0 a1).f0.f0, (Qb l0 a1).f0.f1, (Qb l0 a1).f0.f2⟩ : Vz), (Qb l0 a1).f1, (Qb l0 a1).f2, (Qb l0 a1).f3, (Qb l0 a1).f4, (Qb l0 a1).f5, (Qb l0 a1).f6⟩ : Yv)]) l0 (l0.length : Int) (wrap64 (a1 + 1))) else (none)))) else (none)) else (none)) else (if a2.length < 1099511627776 then (Yo.l0 k1 (a2 ++ [(⟨(⟨(Qb l0 a1).f0.f0, (Qb l0 a1).f0.f1, (Qb l0 a1).f0.f2⟩ : Vz), (Qb l0 a1).f1, (Qb l0 a1).f2, (Qb l0 a1).f3, (Qb l0 a1).f4, (Qb l0 a1).f5, (Qb l0 a1).f6⟩ : Yv)]) l0 (l0.length : Int) (wrap64 (a1 + 1))) else (none))) else (if a2.length < 1099511627776 then (Yo.l0 k1 (a2 ++ [(⟨(⟨(Qb l0 a1).f0.f0, (Qb l0 a1).f0.f1, (Qb l0 a1).f0.f2⟩ : Vz), (Qb l0 a1).f1, (Qb l0 a1).f2, (Qb l0 a1).f3, (Qb l0 a1).f4, (Qb l0 a1).f5, (Qb l0 a1).f6⟩ : Yv)]) l0 (l0.length : Int) (wrap64 (a1 + 1))) else (none))) = some r := H; have A9 := Qa.mk A90; clear A90
       by_cases c10 : g6 = true
       ·subst c10
        have H1 : (if (a2.length : Int) > 0 then (if 0 ≤ (wrap64 ((a2.length : Int) - 1)) then (if (wrap64 ((a2.length : Int) - 1)) < (a2.length : Int) then ((Zv.f ((Qb a2 (wrap64 ((a2.length : Int) - 1))).f0.f0) ((Qb a2 (wrap64 ((a2.length : Int) - 1))).f0.f1) ((Qb a2 (wrap64 ((a2.length : Int) - 1))).f0.f2) ((Qb a2 (wrap64 ((a2.length : Int) - 1))).f1) ((Qb a2 (wrap64 ((a2.length : Int) - 1))).f2) ((Qb a2 (wrap64 ((a2.length : Int) - 1))).f3) ((Qb a2 (wrap64 ((a2.length : Int) - 1))).f4) ((Qb a2 (wrap64 ((a2.length : Int) - 1))).f5) ((Qb a2 (wrap64 ((a2.length : Int) - 1))).f6)).bind fun b8 => (if b8 = true then (if ((Qb a2 (wrap64 ((a2.length : Int) - 1))).f2).size + ((Qb l0 a1).f2).size ≤ 9223372036854775807 then (Yo.l0 k1 (a2.set ((wrap64 ((a2.length : Int) - 1)) : Int).toNat (⟨(⟨(Qb a2 (wrap64 ((a2.length : Int) - 1))).f0.f0, (Qb a2 (wrap64 ((a2.length : Int) - 1))).f0.f1, (Qb a2 (wrap64 ((a2.length : Int) - 1))).f0.f2⟩ : Vz), (Qb a2 (wrap64 ((a2.length : Int) - 1))).f1, ((Qb a2 (wrap64 ((a2.length : Int) - 1))).f2) ++ ((Qb l0 a1).f2), (Qb a2 (wrap64 ((a2.length : Int) - 1))).f3, (Qb a2 (wrap64 ((a2.length : Int) - 1))).f4, (Qb a2 (wrap64 ((a2.length : Int) - 1))).f5, (Qb a2 (wrap64 ((a2.length : Int) - 1))).f6⟩ : Yv)) l0 (l0.length : Int) (wrap64 (a1 + 1))) else (none)) else (if a2.length < 1099511627776 then (Yo.l0 k1 (a2 ++ [(⟨(⟨(Qb l0 a1).f0.f0, (Qb l0 a1).f0.f1, (Qb l0 a1).f0.f2⟩ : Vz), (Qb l0 a1).f1, (Qb l0 a1).f2, (Qb l0 a1).f3, (Qb l0 a1).f4, (Qb l0 a1).f5, (Qb l0 a1).f6⟩ : Yv)]) l0 (l0.length : Int) (wrap64 (a1 + 1))) else (none)))) else (none)) else (none)) else (if a2.length < 1099511627776 then (Yo.l0 k1 (a2 ++ [(⟨(⟨(Qb l0 a1).f0.f0, (Qb l0 a1).f0.f1, (Qb l0 a1).f0.f2⟩ : Vz), (Qb l0 a1).f1, (Qb l0 a1).f2, (Qb l0 a1).f3, (Qb l0 a1).f4, (Qb l0 a1).f5, (Qb l0 a1).f6⟩ : Yv)]) l0 (l0.length : Int) (wrap64 (a1 + 1))) else (none))) = some r := by rw [if_pos rfl] at H; exact H
        clear H; have H := H1; clear H1
        by_cases c11 : (a2.length : Int) > 0
        ·rw [if_pos c11] at H
         have i8 : decide (0 < (a2.length : Int)) = true := decide_eq_true c11; have i9 : decide (0 < a2.length) = true := decide_eq_true (by omega); clear c11; obtain ⟨a3, e9⟩ : ∃ j_ : Int, (wrap64 ((a2.length : Int) - 1)) = j_ := ⟨_, rfl⟩
         replace H : (if 0 ≤ (a3) then (if (a3) < (a2.length : Int) then ((Zv.f ((Qb a2 (a3)).f0.f0) ((Qb a2 (a3)).f0.f1) ((Qb a2 (a3)).f0.f2) ((Qb a2 (a3)).f1) ((Qb a2 (a3)).f2) ((Qb a2 (a3)).f3) ((Qb a2 (a3)).f4) ((Qb a2 (a3)).f5) ((Qb a2 (a3)).f6)).bind fun b8 => (if b8 = true then (if ((Qb a2 (a3)).f2).size + ((Qb l0 a1).f2).size ≤ 9223372036854775807 then (Yo.l0 k1 (a2.set ((a3) : Int).toNat (⟨(⟨(Qb a2 (a3)).f0.f0, (Qb a2 (a3)).f0.f1, (Qb a2 (a3)).f0.f2⟩ : Vz), (Qb a2 (a3)).f1, ((Qb a2 (a3)).f2) ++ ((Qb l0 a1).f2), (Qb a2 (a3)).f3, (Qb a2 (a3)).f4, (Qb a2 (a3)).f5, (Qb a2 (a3)).f6⟩ : Yv)) l0 (l0.length : Int) (wrap64 (a1 + 1))) else (none)) else (if a2.length < 1099511627776 then (Yo.l0 k1 (a2 ++ [(⟨(⟨(Qb l0 a1).f0.f0, (Qb l0 a1).f0.f1, (Qb l0 a1).f0.f2⟩ : Vz), (Qb l0 a1).f1, (Qb l0 a1).f2, (Qb l0 a1).f3, (Qb l0 a1).f4, (Qb l0 a1).f5, (Qb l0 a1).f6⟩ : Yv)]) l0 (l0.length : Int) (wrap64 (a1 + 1))) else (none)))) else (none)) else (none)) = some r := by first | (rw [e9] at H; exact H) | (simp only [e9] at H ⊢; exact H)
         (try rw [e9] at A9)
         have C9 : (IntKind.i64.wrap ((a2.length : Int) - 1)) = a3 := (Yx _).trans e9
         by_cases c13 : 0 ≤ (a3)
         ·rw [if_pos c13] at H
          have D0 : decide (0 ≤ (a3)) = true := decide_eq_true c13; clear c13
          by_cases c14 : (a3) < (a2.length : Int)
          ·rw [if_pos c14] at H
           have D2 : decide ((a3) < (a2.length : Int)) = true := decide_eq_true c14; clear c14; replace H := Option.bind_eq_some_iff.mp H; obtain ⟨b8, i2, H⟩ := H; replace H : (if b8 = true then (if ((Qb a2 (a3)).f2).size + ((Qb l0 a1).f2).size ≤ 9223372036854775807 then (Yo.l0 k1 (a2.set ((a3) : Int).toNat (⟨(⟨(Qb a2 (a3)).f0.f0, (Qb a2 (a3)).f0.f1, (Qb a2 (a3)).f0.f2⟩ : Vz), (Qb a2 (a3)).f1, ((Qb a2 (a3)).f2) ++ ((Qb l0 a1).f2), (Qb a2 (a3)).f3, (Qb a2 (a3)).f4, (Qb a2 (a3)).f5, (Qb a2 (a3)).f6⟩ : Yv)) l0 (l0.length : Int) (wrap64 (a1 + 1))) else (none)) else (if a2.length < 1099511627776 then (Yo.l0 k1 (a2 ++ [(⟨(⟨(Qb l0 a1).f0.f0, (Qb l0 a1).f0.f1, (Qb l0 a1).f0.f2⟩ : Vz), (Qb l0 a1).f1, (Qb l0 a1).f2, (Qb l0 a1).f3, (Qb l0 a1).f4, (Qb l0 a1).f5, (Qb l0 a1).f6⟩ : Yv)]) l0 (l0.length : Int) (wrap64 (a1 + 1))) else (none))) = some r := H; have A15 := Qa.mk i2; clear i2
           by_cases c16 : b8 = true
           ·subst c16
            have H1 : (if ((Qb a2 (a3)).f2).size + ((Qb l0 a1).f2).size ≤ 9223372036854775807 then (Yo.l0 k1 (a2.set ((a3) : Int).toNat (⟨(⟨(Qb a2 (a3)).f0.f0, (Qb a2 (a3)).f0.f1, (Qb a2 (a3)).f0.f2⟩ : Vz), (Qb a2 (a3)).f1, ((Qb a2 (a3)).f2) ++ ((Qb l0 a1).f2), (Qb a2 (a3)).f3, (Qb a2 (a3)).f4, (Qb a2 (a3)).f5, (Qb a2 (a3)).f6⟩ : Yv)) l0 (l0.length : Int) (wrap64 (a1 + 1))) else (none)) = some r := by rw [if_pos rfl] at H; exact H
            clear H; have H := H1; clear H1
            by_cases c17 : ((Qb a2 (a3)).f2).size + ((Qb l0 a1).f2).size ≤ 9223372036854775807
            ·rw [if_pos c17] at H
             have D3 := eq_true c17; have D4 : decide (((Qb a2 (a3)).f2).size + ((Qb l0 a1).f2).size ≤ 9223372036854775807) = true := decide_eq_true c17
             try have D5 : (9223372036854775807 < ((Qb a2 (a3)).f2).size + ((Qb l0 a1).f2).size) = False := eq_false (Nat.not_lt.2 c17)
             obtain ⟨i3, d4⟩ : ∃ y_ : List (Yv), y_ = (a2.set ((a3) : Int).toNat (⟨(⟨(Qb a2 (a3)).f0.f0, (Qb a2 (a3)).f0.f1, (Qb a2 (a3)).f0.f2⟩ : Vz), (Qb a2 (a3)).f1, ((Qb a2 (a3)).f2) ++ ((Qb l0 a1).f2), (Qb a2 (a3)).f3, (Qb a2 (a3)).f4, (Qb a2 (a3)).f5, (Qb a2 (a3)).f6⟩ : Yv)) := ⟨_, rfl⟩
             replace H : (Yo.l0 k1 i3 l0 (l0.length : Int) (wrap64 (a1 + 1))) = some r := by first | (rw [d4]; with_reducible exact H) | (have H2_ := (Option.bind_some _ _).symm.trans H; rw [d4]; with_reducible exact H2_) | (have H2_ := (Option.bind_some _ _).symm.trans H; with_reducible exact H2_) | with_reducible exact H | (rw [d4]; exact H) | exact H
             have j3 := Qa.mk d4; clear d4; have H' := Qa.mk H; clear H; have b6 : 0 ≤ (a1 : Int) := of_decide_eq_true Zx; have b7 : a1 < (l0.length : Int) := of_decide_eq_true Zx; obtain ⟨e7, b9, a7, a8, a9, b0, b1, b2, b3, b4, b5⟩ := Ky HR0.out a1 b6 b7
             cases b9; replace a7 := Qg HB.out a7; replace a8 := Qg HB.out a8; replace a9 := Qg HB.out a9; replace b0 := Qg HB.out b0; replace b1 := Qg HB.out b1; replace b2 := Qg HB.out b2; replace b3 := Qg HB.out b3; replace b4 := Qg HB.out b4; replace b5 := Qg HB.out b5; replace b6 := eq_true b6; replace b7 := eq_true b7
             try go_wp2_with (first | ((with_reducible refine Zd (N := 5) rfl ?_); refine Zc ?hg (N := 5) ?hd (cs := #[.string (⟨#[]⟩ : ByteArray), .string (⟨#[]⟩ : ByteArray), .string (⟨#[]⟩ : ByteArray), .bool false, .string (⟨#[]⟩ : ByteArray), .string (⟨#[]⟩ : ByteArray), .string (⟨#[]⟩ : ByteArray), .string (⟨#[]⟩ : ByteArray), .bool false]) (t := 120) ?hr ?_; (case hd => rfl); (case hg => rfl); (case hr => first | (go_simp; done) | (go_simp; rfl)); intro a4 hg w19 hbox hb; have n0_ := Qa.mk (Kd.R_below (Kd.R_elderB (ro_ a6.out) a4 (Nat.le_of_eq hg.symm)) hb); have n1_ := Qa.mk (Qj bw_ hb); have n2_ := Qa.mk (hbox); have n3_ := Qa.mk ((gw_ hg : w.heap.size ≤ a4)); have n4_ := Qa.mk ((gw_ hg : w.heap.size ≤ a4)); clear a6; clear HB; have a6 := n0_; have HB := n1_; have a5 := n2_; have e8 := n3_; have GE102 := n4_; clear n0_ n1_ n2_ n3_ n4_; clear hb hbox hg; obtain ⟨l7, l8, l9, m0, m1, m2, m3, m4, m5⟩ := Ju a5.out; obtain ⟨m6, m7, m8, m9, n0, n1, n2, n3, n4⟩ := Jv a5.out; obtain ⟨D8, D9, eo21⟩ := Kd.R_slice a6.out; subst eo21) | ((with_reducible refine Xo (f := 114) rfl ?_); refine Vb (some 25) rfl rfl Try.func114 (by kernel_rfl) rfl #[.agg #[.string ((Qb l0 a1).f0.f0), .string ((Qb l0 a1).f0.f1), .string ((Qb l0 a1).f0.f2), .bool ((Qb l0 a1).f1), .string ((Qb l0 a1).f2), .string ((Qb l0 a1).f3), .string ((Qb l0 a1).f4), .string ((Qb l0 a1).f5), .bool ((Qb l0 a1).f6)]] rfl (by (try simp only [List.map_toArray, List.map_cons, List.map_nil]); first | done | rfl | (simp only [List.length_drop, List.length_take]; rfl)) ?_; (with_reducible refine (Zv.calls ((Qb l0 a1).f0.f0) ((Qb l0 a1).f0.f1) ((Qb l0 a1).f0.f2) ((Qb l0 a1).f1) ((Qb l0 a1).f2) ((Qb l0 a1).f3) ((Qb l0 a1).f4) ((Qb l0 a1).f5) ((Qb l0 a1).f6) true _ A9.out).mono ?_); rintro e w22 ⟨rfl, hb⟩; refine ⟨_, rfl, ?_⟩; have n0_ := Qa.mk (Kd.R_below (ro_ ((Kd.R_mono (Kd.R_far (p := ⟨a4, 8, none⟩) (Kd.R_far (p := ⟨a4, 7, none⟩) (Kd.R_far (p := ⟨a4, 6, none⟩) (Kd.R_far (p := ⟨a4, 5, none⟩) (Kd.R_far (p := ⟨a4, 4, none⟩) (Kd.R_far (p := ⟨a4, 3, none⟩) (Kd.R_far (p := ⟨a4, 2, none⟩) (Kd.R_far (p := ⟨a4, 1, none⟩) (Kd.R_far (p := ⟨a4, 0, none⟩) (Kd.R_mono a6.out (fun k_ hk => (⟨hk, hk.2⟩ : _ ∧ k_ ≠ a4))) (fun _ hk => hk.2) (.string ((Qb l0 a1).f0.f0))) (fun _ hk => hk.2) (.string ((Qb l0 a1).f0.f1))) (fun _ hk => hk.2) (.string ((Qb l0 a1).f0.f2))) (fun _ hk => hk.2) (.bool ((Qb l0 a1).f1))) (fun _ hk => hk.2) (.string ((Qb l0 a1).f2))) (fun _ hk => hk.2) (.string ((Qb l0 a1).f3))) (fun _ hk => hk.2) (.string ((Qb l0 a1).f4))) (fun _ hk => hk.2) (.string ((Qb l0 a1).f5))) (fun _ hk => hk.2) (.bool ((Qb l0 a1).f6))) (fun _ h_ => h_.1)))) hb); have n1_ := Qa.mk (Qq (g := a4) (o := .cells #[.string ((Qb l0 a1).f0.f0), .string ((Qb l0 a1).f0.f1), .string ((Qb l0 a1).f0.f2), .bool ((Qb l0 a1).f1), .string ((Qb l0 a1).f2), .string ((Qb l0 a1).f3), .string ((Qb l0 a1).f4), .string ((Qb l0 a1).f5), .bool ((Qb l0 a1).f6)] 120 (0, 0)) (by (with_reducible repeat (first | refine Qn ?_ _ | refine Qp ?_ | refine Ql ?_ _)); refine Za (cs := #[.string ((Qb l0 a1).f0.f0), .string ((Qb l0 a1).f0.f1), .string ((Qb l0 a1).f0.f2), .bool ((Qb l0 a1).f1), .string ((Qb l0 a1).f2), .string ((Qb l0 a1).f3), .string ((Qb l0 a1).f4), .string ((Qb l0 a1).f5), .bool false]) ?_ 8 _ rfl; (with_reducible repeat (first | refine Qn ?_ _ | refine Qp ?_ | refine Ql ?_ _)); refine Za (cs := #[.string ((Qb l0 a1).f0.f0), .string ((Qb l0 a1).f0.f1), .string ((Qb l0 a1).f0.f2), .bool ((Qb l0 a1).f1), .string ((Qb l0 a1).f2), .string ((Qb l0 a1).f3), .string ((Qb l0 a1).f4), .string (⟨#[]⟩ : ByteArray), .bool false]) ?_ 7 _ rfl; (with_reducible repeat (first | refine Qn ?_ _ | refine Qp ?_ | refine Ql ?_ _)); refine Za (cs := #[.string ((Qb l0 a1).f0.f0), .string ((Qb l0 a1).f0.f1), .string ((Qb l0 a1).f0.f2), .bool ((Qb l0 a1).f1), .string ((Qb l0 a1).f2), .string ((Qb l0 a1).f3), .string (⟨#[]⟩ : ByteArray), .string (⟨#[]⟩ : ByteArray), .bool false]) ?_ 6 _ rfl; (with_reducible repeat (first | refine Qn ?_ _ | refine Qp ?_ | refine Ql ?_ _)); refine Za (cs := #[.string ((Qb l0 a1).f0.f0), .string ((Qb l0 a1).f0.f1), .string ((Qb l0 a1).f0.f2), .bool ((Qb l0 a1).f1), .string ((Qb l0 a1).f2), .string (⟨#[]⟩ : ByteArray), .string (⟨#[]⟩ : ByteArray), .string (⟨#[]⟩ : ByteArray), .bool false]) ?_ 5 _ rfl; (with_reducible repeat (first | refine Qn ?_ _ | refine Qp ?_ | refine Ql ?_ _)); refine Za (cs := #[.string ((Qb l0 a1).f0.f0), .string ((Qb l0 a1).f0.f1), .string ((Qb l0 a1).f0.f2), .bool ((Qb l0 a1).f1), .string (⟨#[]⟩ : ByteArray), .string (⟨#[]⟩ : ByteArray), .string (⟨#[]⟩ : ByteArray), .string (⟨#[]⟩ : ByteArray), .bool false]) ?_ 4 _ rfl; (with_reducible repeat (first | refine Qn ?_ _ | refine Qp ?_ | refine Ql ?_ _)); refine Za (cs := #[.string ((Qb l0 a1).f0.f0), .string ((Qb l0 a1).f0.f1), .string ((Qb l0 a1).f0.f2), .bool false, .string (⟨#[]⟩ : ByteArray), .string (⟨#[]⟩ : ByteArray), .string (⟨#[]⟩ : ByteArray), .string (⟨#[]⟩ : ByteArray), .bool false]) ?_ 3 _ rfl; (with_reducible repeat (first | refine Qn ?_ _ | refine Qp ?_ | refine Ql ?_ _)); refine Za (cs := #[.string ((Qb l0 a1).f0.f0), .string ((Qb l0 a1).f0.f1), .string (⟨#[]⟩ : ByteArray), .bool false, .string (⟨#[]⟩ : ByteArray), .string (⟨#[]⟩ : ByteArray), .string (⟨#[]⟩ : ByteArray), .string (⟨#[]⟩ : ByteArray), .bool false]) ?_ 2 _ rfl; (with_reducible repeat (first | refine Qn ?_ _ | refine Qp ?_ | refine Ql ?_ _)); refine Za (cs := #[.string ((Qb l0 a1).f0.f0), .string (⟨#[]⟩ : ByteArray), .string (⟨#[]⟩ : ByteArray), .bool false, .string (⟨#[]⟩ : ByteArray), .string (⟨#[]⟩ : ByteArray), .string (⟨#[]⟩ : ByteArray), .string (⟨#[]⟩ : ByteArray), .bool false]) ?_ 1 _ rfl; (with_reducible repeat (first | refine Qn ?_ _ | refine Qp ?_ | refine Ql ?_ _)); refine Za (cs := #[.string (⟨#[]⟩ : ByteArray), .string (⟨#[]⟩ : ByteArray), .string (⟨#[]⟩ : ByteArray), .bool false, .string (⟨#[]⟩ : ByteArray), .string (⟨#[]⟩ : ByteArray), .string (⟨#[]⟩ : ByteArray), .string (⟨#[]⟩ : ByteArray), .bool false]) ?_ 0 _ rfl; (with_reducible repeat (first | refine Qn ?_ _ | refine Qp ?_ | refine Ql ?_ _)); exact a5.out) hb); have n2_ := Qa.mk (Qj bw_ hb); clear a6; clear a5; clear HB; have a6 := n0_; have a5 := n1_; have HB := n2_; clear n0_ n1_ n2_; (try clear hb); (try clear hb2); (try clear hk); (try clear hi); have d0 : 0 ≤ ((a3) : Int) := of_decide_eq_true Zx; have d3 : (a3) < (a2.length : Int) := of_decide_eq_true Zx; obtain ⟨g7, h9, d8, d9, e0, e1, e2, e3, e4, e5, e6⟩ := Ky (Kd.R_reads' a6.out).2.2 (a3) d0 d3; cases h9; replace d0 := eq_true d0; replace d3 := eq_true d3) | (go_at_call 114; (with_reducible refine (Zv.calls ((Qb a2 (a3)).f0.f0) ((Qb a2 (a3)).f0.f1) ((Qb a2 (a3)).f0.f2) ((Qb a2 (a3)).f1) ((Qb a2 (a3)).f2) ((Qb a2 (a3)).f3) ((Qb a2 (a3)).f4) ((Qb a2 (a3)).f5) ((Qb a2 (a3)).f6) true _ A15.out).mono ?_); rintro e w23 ⟨rfl, hb⟩; have n0_ := Qa.mk (Kd.R_below (ro_ a6.out) hb); have n1_ := Qa.mk (Qq (g := a4) (o := .cells #[.string ((Qb l0 a1).f0.f0), .string ((Qb l0 a1).f0.f1), .string ((Qb l0 a1).f0.f2), .bool ((Qb l0 a1).f1), .string ((Qb l0 a1).f2), .string ((Qb l0 a1).f3), .string ((Qb l0 a1).f4), .string ((Qb l0 a1).f5), .bool ((Qb l0 a1).f6)] 120 (0, 0)) (bk_ a5.out) hb); have n2_ := Qa.mk (Qj bw_ hb); clear a6; clear a5; clear HB; have a6 := n0_; have a5 := n1_; have HB := n2_; clear n0_ n1_ n2_; (try clear hb); (try clear hb2); (try clear hk); (try clear hi)))
             have n0_ := Qa.mk (Kd.R_drew a6.out); have n1_ := Qa.mk (Qp a5.out); have n2_ := Qa.mk (Qi HB.out); clear a6; clear a5; clear HB; have a6 := n0_; have a5 := n1_; have HB := n2_; clear n0_ n1_ n2_; have i0 : 0 ≤ ((a3) : Int) := of_decide_eq_true Zx; have i1 : (a3) < (a2.length : Int) := of_decide_eq_true Zx; obtain ⟨j5, k8, f7, f8, f9, g0, g1, g2, g3, g4, g5⟩ := Ky (Kd.R_reads' a6.out).2.2 (a3) i0 i1; obtain rfl : g7 = j5 := (by injection k8); replace i0 := eq_true i0; replace i1 := eq_true i1; have p18 : 0 ≤ ((a3) : Int) := of_decide_eq_true Zx; have q18 : ((a3) : Int) < ((a2.length : Int) : Int) := of_decide_eq_true Zx; obtain ⟨go18, E0, eo18, i4, gl18, cl18, HG18⟩ := Kd.R_form a6.out (by omega)
             (first | cases eo18 | (injection eo18 with ea_ en_ ec_; (first | subst ea_ | (injection ea_ with ea_; subst ea_)); subst ec_; clear en_))
             have GB18 := Qa.mk i4; have GG18 := Qa.mk HG18; clear i4 gl18 HG18
             (first | simp only [Yf] at d8 | skip)
             (first | simp only [Yf] at d9 | skip)
             (first | simp only [Yf] at e0 | skip)
             (first | simp only [Yf] at e1 | skip)
             (first | simp only [Yf] at e2 | skip)
             (first | simp only [Yf] at e3 | skip)
             (first | simp only [Yf] at e4 | skip)
             (first | simp only [Yf] at e5 | skip)
             (first | simp only [Yf] at e6 | skip)
             (first | simp only [Yf] at f7 | skip)
             (first | simp only [Yf] at f8 | skip)
             (first | simp only [Yf] at f9 | skip)
             (first | simp only [Yf] at g0 | skip)
             (first | simp only [Yf] at g1 | skip)
             (first | simp only [Yf] at g2 | skip)
             (first | simp only [Yf] at g3 | skip)
             (first | simp only [Yf] at g4 | skip)
             (first | simp only [Yf] at g5 | skip)
             obtain ⟨ce18, hcl18, hM18, hcc18, hfr18⟩ := Kd.R_elem a6.out Qou ((a3) : Int) p18 q18; obtain rfl := Qgt hM18; have g8 : World.cell? _ ⟨go18, ((a3) : Int).toNat * 9, none⟩ = some (.string ((Qb a2 (a3)).f0.f0)) := hcc18 0 _ rfl; have g9 : World.cell? _ ⟨go18, ((a3) : Int).toNat * 9 + 1, none⟩ = some (.string ((Qb a2 (a3)).f0.f1)) := hcc18 1 _ rfl; have h0 : World.cell? _ ⟨go18, ((a3) : Int).toNat * 9 + 2, none⟩ = some (.string ((Qb a2 (a3)).f0.f2)) := hcc18 2 _ rfl; have h2 : World.cell? _ ⟨go18, ((a3) : Int).toNat * 9 + 3, none⟩ = some (.bool ((Qb a2 (a3)).f1)) := hcc18 3 _ rfl; have h3 : World.cell? _ ⟨go18, ((a3) : Int).toNat * 9 + 4, none⟩ = some (.string ((Qb a2 (a3)).f2)) := hcc18 4 _ rfl; have h4 : World.cell? _ ⟨go18, ((a3) : Int).toNat * 9 + 5, none⟩ = some (.string ((Qb a2 (a3)).f3)) := hcc18 5 _ rfl; have h5 : World.cell? _ ⟨go18, ((a3) : Int).toNat * 9 + 6, none⟩ = some (.string ((Qb a2 (a3)).f4)) := hcc18 6 _ rfl; have h6 : World.cell? _ ⟨go18, ((a3) : Int).toNat * 9 + 7, none⟩ = some (.string ((Qb a2 (a3)).f5)) := hcc18 7 _ rfl; have h7 : World.cell? _ ⟨go18, ((a3) : Int).toNat * 9 + 8, none⟩ = some (.bool ((Qb a2 (a3)).f6)) := hcc18 8 _ rfl; have hf18_0 : World.frozen? _ ⟨go18, ((a3) : Int).toNat * 9, none⟩ = false := hfr18 0; have hf18_1 : World.frozen? _ ⟨go18, ((a3) : Int).toNat * 9 + 1, none⟩ = false := hfr18 1; have hf18_2 : World.frozen? _ ⟨go18, ((a3) : Int).toNat * 9 + 2, none⟩ = false := hfr18 2; have hf18_3 : World.frozen? _ ⟨go18, ((a3) : Int).toNat * 9 + 3, none⟩ = false := hfr18 3; have hf18_4 : World.frozen? _ ⟨go18, ((a3) : Int).toNat * 9 + 4, none⟩ = false := hfr18 4; have hf18_5 : World.frozen? _ ⟨go18, ((a3) : Int).toNat * 9 + 5, none⟩ = false := hfr18 5; have hf18_6 : World.frozen? _ ⟨go18, ((a3) : Int).toNat * 9 + 6, none⟩ = false := hfr18 6; have hf18_7 : World.frozen? _ ⟨go18, ((a3) : Int).toNat * 9 + 7, none⟩ = false := hfr18 7; have hf18_8 : World.frozen? _ ⟨go18, ((a3) : Int).toNat * 9 + 8, none⟩ = false := hfr18 8; clear hcl18 hcc18 hfr18 hM18; replace p18 := eq_true p18; replace q18 := eq_true q18; obtain ⟨ce25, hcl25, hM25, hcc25, hfr25⟩ := Kd.R_elem a6.out Qou ((a3) : Int) (of_decide_eq_true Zx) (by have h_ : ((a3) : Int) < ((a2.length : Int) : Int) := of_decide_eq_true Zx; first | exact h_ | (have e_ := (Kd.R_reads' a6.out).1; omega) | simpa using h_); obtain rfl := Qgt hM25; have HP25 := (Kd.R_seg a6.out ((a3) : Int) (of_decide_eq_true Zx) (by have h_ : ((a3) : Int) < ((a2.length : Int) : Int) := of_decide_eq_true Zx; first | exact h_ | (have e_ := (Kd.R_reads' a6.out).1; omega) | simpa using h_) (seg := [.string (((Qb a2 (a3)).f2) ++ ((Qb l0 a1).f2))]) (j := 4) hcl25 hcc25 (show 5 ≤ 9 from by decide) (x' := (⟨(⟨(Qb a2 (a3)).f0.f0, (Qb a2 (a3)).f0.f1, (Qb a2 (a3)).f0.f2⟩ : Vz), (Qb a2 (a3)).f1, ((Qb a2 (a3)).f2) ++ ((Qb l0 a1).f2), (Qb a2 (a3)).f3, (Qb a2 (a3)).f4, (Qb a2 (a3)).f5, (Qb a2 (a3)).f6⟩ : Yv)) (Qba _ _ _ (⟨(⟨(Qb a2 (a3)).f0.f0, (Qb a2 (a3)).f0.f1, (Qb a2 (a3)).f0.f2⟩ : Vz), (Qb a2 (a3)).f1, ((Qb a2 (a3)).f2) ++ ((Qb l0 a1).f2), (Qb a2 (a3)).f3, (Qb a2 (a3)).f4, (Qb a2 (a3)).f5, (Qb a2 (a3)).f6⟩ : Yv) ) (fun _ hk => hk)).1
             rw [← j3.out] at HP25
             have HQ25 := Qa.mk HP25; clear hcl25 hcc25 hfr25 hM25 HP25; refine Ug (n := 12) (S := fun w' => w'.cell? ⟨a4, 0, none⟩ = some (.string ((Qb l0 a1).f0.f0)) ∧ w'.cell? ⟨a4, 1, none⟩ = some (.string ((Qb l0 a1).f0.f1)) ∧ w'.cell? ⟨a4, 2, none⟩ = some (.string ((Qb l0 a1).f0.f2)) ∧ w'.cell? ⟨a4, 3, none⟩ = some (.bool ((Qb l0 a1).f1)) ∧ w'.cell? ⟨a4, 4, none⟩ = some (.string ((Qb l0 a1).f2)) ∧ w'.cell? ⟨a4, 5, none⟩ = some (.string ((Qb l0 a1).f3)) ∧ w'.cell? ⟨a4, 6, none⟩ = some (.string ((Qb l0 a1).f4)) ∧ w'.cell? ⟨a4, 7, none⟩ = some (.string ((Qb l0 a1).f5)) ∧ w'.cell? ⟨a4, 8, none⟩ = some (.bool ((Qb l0 a1).f6)) ∧ w'.cell? ⟨go18, ((a3) : Int).toNat * 9, none⟩ = some (.string ((Qb a2 (a3)).f0.f0)) ∧ w'.cell? ⟨go18, ((a3) : Int).toNat * 9 + 1, none⟩ = some (.string ((Qb a2 (a3)).f0.f1)) ∧ w'.cell? ⟨go18, ((a3) : Int).toNat * 9 + 2, none⟩ = some (.string ((Qb a2 (a3)).f0.f2)) ∧ w'.cell? ⟨go18, ((a3) : Int).toNat * 9 + 3, none⟩ = some (.bool ((Qb a2 (a3)).f1)) ∧ w'.cell? ⟨go18, ((a3) : Int).toNat * 9 + 4, none⟩ = some (.string ((Qb a2 (a3)).f2)) ∧ w'.cell? ⟨go18, ((a3) : Int).toNat * 9 + 5, none⟩ = some (.string ((Qb a2 (a3)).f3)) ∧ w'.cell? ⟨go18, ((a3) : Int).toNat * 9 + 6, none⟩ = some (.string ((Qb a2 (a3)).f4)) ∧ w'.cell? ⟨go18, ((a3) : Int).toNat * 9 + 7, none⟩ = some (.string ((Qb a2 (a3)).f5)) ∧ w'.cell? ⟨go18, ((a3) : Int).toNat * 9 + 8, none⟩ = some (.bool ((Qb a2 (a3)).f6))) (ds := [11]) (bz_ 12 0) (by kernel_rfl) rfl rfl ⟨(Qc a5.out 0).trans rfl, (Qc a5.out 1).trans rfl, (Qc a5.out 2).trans rfl, (Qc a5.out 3).trans rfl, (Qc a5.out 4).trans rfl, (Qc a5.out 5).trans rfl, (Qc a5.out 6).trans rfl, (Qc a5.out 7).trans rfl, (Qc a5.out 8).trans rfl, g8, g9, h0, h2, h3, h4, h5, h6, h7⟩ (fun hHeld => ?_); refine Va Yo.tab9 Yo.bits9 (fun HT_ HW_ => ?_)
             generalize w23.drew = w24 at a6 a5 HB GG18 HQ25 hf18_0 hf18_1 hf18_2 hf18_3 hf18_4 hf18_5 hf18_6 hf18_7 hf18_8 d8 d9 e0 e1 e2 e3 e4 e5 e6 f7 f8 f9 g0 g1 g2 g3 g4 g5 g8 g9 h0 h2 h3 h4 h5 h6 h7 hHeld ⊢
             refine pu_ (i := 0) (N := some 38) #[true, false, false, false, false, false, false, false, false, false, false, false] ?_; refine pu_ (i := 1) (N := some 39) #[true, true, false, false, false, false, false, false, false, false, false, false] ?_; refine pu_ (i := 2) (N := some 40) #[true, true, true, false, false, false, false, false, false, false, false, false] ?_; refine pu_ (i := 3) (N := some 41) #[true, true, true, true, false, false, false, false, false, false, false, false] ?_; refine pu_ (i := 4) (N := some 42) #[true, true, true, true, true, false, false, false, false, false, false, false] ?_; refine pu_ (i := 6) (N := some 44) #[true, true, true, true, true, false, true, false, false, false, false, false] ?_; refine ta_ (i := 5) (N := some 43) #[true, true, true, true, true, true, true, false, false, false, false, false] ?_; refine ta_ (i := 7) (N := some 45) #[true, true, true, true, true, true, true, true, false, false, false, false] ?_; refine pu_ (i := 8) (N := some 46) #[true, true, true, true, true, true, true, true, true, false, false, false] ?_; refine pu_ (i := 9) (N := some 47) #[true, true, true, true, true, true, true, true, true, true, false, false] ?_; refine pu_ (i := 10) (N := some 48) #[true, true, true, true, true, true, true, true, true, true, true, false] ?_; refine Qbb (i := 11) (N := none) (bz_ 12 4095) rfl rfl (Kx HT_.out (by kernel_rfl)) (by decide) (fun K hK => ?_); refine Jz (w1 := ?_) (by rfl) rfl ?_ ?_; rotate_left
             ·go_simp
              rfl
             refine hK.out _ _ ?_; clear hK K; refine Ki (Vq HT_.out (by kernel_rfl)) ?_
             try go_wp2
             go_roundg k1
             case measure => have := HK1.out; omega
             case rel => exact ⟨(i3), (wrap64 (a1 + 1)), sm_, H', ⟨by have := HK1.out; omega⟩, ⟨by (with_reducible repeat (first | apply Kd.R_alloc | apply Kd.R_drewN | apply Kd.R_drew)); exact Kd.R_mono HQ25.out (fun _ hk => trivial)⟩, ⟨by repeat (first | (with_reducible first | exact HB.out | apply Qh | apply Qf | apply Qi | refine Qr ?_ GB18.out | refine Qr ?_ GE102.out) | exact HB.out)⟩⟩
            ·rw [if_neg c17] at H
             exact absurd H (by simp)
           ·replace c16 := Bool.eq_false_iff.mpr c16
            subst c16
            have H1 : (if a2.length < 1099511627776 then (Yo.l0 k1 (a2 ++ [(⟨(⟨(Qb l0 a1).f0.f0, (Qb l0 a1).f0.f1, (Qb l0 a1).f0.f2⟩ : Vz), (Qb l0 a1).f1, (Qb l0 a1).f2, (Qb l0 a1).f3, (Qb l0 a1).f4, (Qb l0 a1).f5, (Qb l0 a1).f6⟩ : Yv)]) l0 (l0.length : Int) (wrap64 (a1 + 1))) else (none)) = some r := by rw [if_neg (show ¬ (false = true) by decide)] at H; exact H
            clear H; have H := H1; clear H1
            by_cases c26 : a2.length < 1099511627776
            ·rw [if_pos c26] at H
             have j7 := Qa.mk c26; clear c26; obtain ⟨i5, d5⟩ : ∃ y_ : List (Yv), y_ = (a2 ++ [(⟨(⟨(Qb l0 a1).f0.f0, (Qb l0 a1).f0.f1, (Qb l0 a1).f0.f2⟩ : Vz), (Qb l0 a1).f1, (Qb l0 a1).f2, (Qb l0 a1).f3, (Qb l0 a1).f4, (Qb l0 a1).f5, (Qb l0 a1).f6⟩ : Yv)]) := ⟨_, rfl⟩
             replace H : (Yo.l0 k1 i5 l0 (l0.length : Int) (wrap64 (a1 + 1))) = some r := by first | (rw [d5]; with_reducible exact H) | (have H2_ := (Option.bind_some _ _).symm.trans H; rw [d5]; with_reducible exact H2_) | (have H2_ := (Option.bind_some _ _).symm.trans H; with_reducible exact H2_) | with_reducible exact H | (rw [d5]; exact H) | exact H
             have j8 := Qa.mk d5; clear d5; have H' := Qa.mk H; clear H; have b6 : 0 ≤ (a1 : Int) := of_decide_eq_true Zx; have b7 : a1 < (l0.length : Int) := of_decide_eq_true Zx; obtain ⟨e7, b9, a7, a8, a9, b0, b1, b2, b3, b4, b5⟩ := Ky HR0.out a1 b6 b7
             cases b9; replace a7 := Qg HB.out a7; replace a8 := Qg HB.out a8; replace a9 := Qg HB.out a9; replace b0 := Qg HB.out b0; replace b1 := Qg HB.out b1; replace b2 := Qg HB.out b2; replace b3 := Qg HB.out b3; replace b4 := Qg HB.out b4; replace b5 := Qg HB.out b5; replace b6 := eq_true b6; replace b7 := eq_true b7; go_wp2_with (first | ((with_reducible refine Zd (N := 5) rfl ?_); refine Zc ?hg (N := 5) ?hd (cs := #[.string (⟨#[]⟩ : ByteArray), .string (⟨#[]⟩ : ByteArray), .string (⟨#[]⟩ : ByteArray), .bool false, .string (⟨#[]⟩ : ByteArray), .string (⟨#[]⟩ : ByteArray), .string (⟨#[]⟩ : ByteArray), .string (⟨#[]⟩ : ByteArray), .bool false]) (t := 120) ?hr ?_; (case hd => rfl); (case hg => rfl); (case hr => first | (go_simp; done) | (go_simp; rfl)); intro a4 hg w27 hbox hb; have n0_ := Qa.mk (Kd.R_below (Kd.R_elderB (ro_ a6.out) a4 (Nat.le_of_eq hg.symm)) hb); have n1_ := Qa.mk (Qj bw_ hb); have n2_ := Qa.mk (hbox); have n3_ := Qa.mk ((gw_ hg : w.heap.size ≤ a4)); have n4_ := Qa.mk ((gw_ hg : w.heap.size ≤ a4)); clear a6; clear HB; have a6 := n0_; have HB := n1_; have a5 := n2_; have e8 := n3_; have GE102 := n4_; clear n0_ n1_ n2_ n3_ n4_; clear hb hbox hg; obtain ⟨n5, n6, n7, n8, n9, o0, o1, o2, o3⟩ := Ju a5.out; obtain ⟨o4, o5, o6, o7, o8, o9, p0, p1, p2⟩ := Jv a5.out; obtain ⟨E1, k9, eo29⟩ := Kd.R_slice a6.out; subst eo29) | ((with_reducible refine Xo (f := 114) rfl ?_); refine Vb (some 25) rfl rfl Try.func114 (by kernel_rfl) rfl #[.agg #[.string ((Qb l0 a1).f0.f0), .string ((Qb l0 a1).f0.f1), .string ((Qb l0 a1).f0.f2), .bool ((Qb l0 a1).f1), .string ((Qb l0 a1).f2), .string ((Qb l0 a1).f3), .string ((Qb l0 a1).f4), .string ((Qb l0 a1).f5), .bool ((Qb l0 a1).f6)]] rfl (by (try simp only [List.map_toArray, List.map_cons, List.map_nil]); first | done | rfl | (simp only [List.length_drop, List.length_take]; rfl)) ?_; (with_reducible refine (Zv.calls ((Qb l0 a1).f0.f0) ((Qb l0 a1).f0.f1) ((Qb l0 a1).f0.f2) ((Qb l0 a1).f1) ((Qb l0 a1).f2) ((Qb l0 a1).f3) ((Qb l0 a1).f4) ((Qb l0 a1).f5) ((Qb l0 a1).f6) true _ A9.out).mono ?_); rintro e w30 ⟨rfl, hb⟩; refine ⟨_, rfl, ?_⟩; have n0_ := Qa.mk (Kd.R_below (ro_ ((Kd.R_mono (Kd.R_far (p := ⟨a4, 8, none⟩) (Kd.R_far (p := ⟨a4, 7, none⟩) (Kd.R_far (p := ⟨a4, 6, none⟩) (Kd.R_far (p := ⟨a4, 5, none⟩) (Kd.R_far (p := ⟨a4, 4, none⟩) (Kd.R_far (p := ⟨a4, 3, none⟩) (Kd.R_far (p := ⟨a4, 2, none⟩) (Kd.R_far (p := ⟨a4, 1, none⟩) (Kd.R_far (p := ⟨a4, 0, none⟩) (Kd.R_mono a6.out (fun k_ hk => (⟨hk, hk.2⟩ : _ ∧ k_ ≠ a4))) (fun _ hk => hk.2) (.string ((Qb l0 a1).f0.f0))) (fun _ hk => hk.2) (.string ((Qb l0 a1).f0.f1))) (fun _ hk => hk.2) (.string ((Qb l0 a1).f0.f2))) (fun _ hk => hk.2) (.bool ((Qb l0 a1).f1))) (fun _ hk => hk.2) (.string ((Qb l0 a1).f2))) (fun _ hk => hk.2) (.string ((Qb l0 a1).f3))) (fun _ hk => hk.2) (.string ((Qb l0 a1).f4))) (fun _ hk => hk.2) (.string ((Qb l0 a1).f5))) (fun _ hk => hk.2) (.bool ((Qb l0 a1).f6))) (fun _ h_ => h_.1)))) hb); have n1_ := Qa.mk (Qq (g := a4) (o := .cells #[.string ((Qb l0 a1).f0.f0), .string ((Qb l0 a1).f0.f1), .string ((Qb l0 a1).f0.f2), .bool ((Qb l0 a1).f1), .string ((Qb l0 a1).f2), .string ((Qb l0 a1).f3), .string ((Qb l0 a1).f4), .string ((Qb l0 a1).f5), .bool ((Qb l0 a1).f6)] 120 (0, 0)) (by (with_reducible repeat (first | refine Qn ?_ _ | refine Qp ?_ | refine Ql ?_ _)); refine Za (cs := #[.string ((Qb l0 a1).f0.f0), .string ((Qb l0 a1).f0.f1), .string ((Qb l0 a1).f0.f2), .bool ((Qb l0 a1).f1), .string ((Qb l0 a1).f2), .string ((Qb l0 a1).f3), .string ((Qb l0 a1).f4), .string ((Qb l0 a1).f5), .bool false]) ?_ 8 _ rfl; (with_reducible repeat (first | refine Qn ?_ _ | refine Qp ?_ | refine Ql ?_ _)); refine Za (cs := #[.string ((Qb l0 a1).f0.f0), .string ((Qb l0 a1).f0.f1), .string ((Qb l0 a1).f0.f2), .bool ((Qb l0 a1).f1), .string ((Qb l0 a1).f2), .string ((Qb l0 a1).f3), .string ((Qb l0 a1).f4), .string (⟨#[]⟩ : ByteArray), .bool false]) ?_ 7 _ rfl; (with_reducible repeat (first | refine Qn ?_ _ | refine Qp ?_ | refine Ql ?_ _)); refine Za (cs := #[.string ((Qb l0 a1).f0.f0), .string ((Qb l0 a1).f0.f1), .string ((Qb l0 a1).f0.f2), .bool ((Qb l0 a1).f1), .string ((Qb l0 a1).f2), .string ((Qb l0 a1).f3), .string (⟨#[]⟩ : ByteArray), .string (⟨#[]⟩ : ByteArray), .bool false]) ?_ 6 _ rfl; (with_reducible repeat (first | refine Qn ?_ _ | refine Qp ?_ | refine Ql ?_ _)); refine Za (cs := #[.string ((Qb l0 a1).f0.f0), .string ((Qb l0 a1).f0.f1), .string ((Qb l0 a1).f0.f2), .bool ((Qb l0 a1).f1), .string ((Qb l0 a1).f2), .string (⟨#[]⟩ : ByteArray), .string (⟨#[]⟩ : ByteArray), .string (⟨#[]⟩ : ByteArray), .bool false]) ?_ 5 _ rfl; (with_reducible repeat (first | refine Qn ?_ _ | refine Qp ?_ | refine Ql ?_ _)); refine Za (cs := #[.string ((Qb l0 a1).f0.f0), .string ((Qb l0 a1).f0.f1), .string ((Qb l0 a1).f0.f2), .bool ((Qb l0 a1).f1), .string (⟨#[]⟩ : ByteArray), .string (⟨#[]⟩ : ByteArray), .string (⟨#[]⟩ : ByteArray), .string (⟨#[]⟩ : ByteArray), .bool false]) ?_ 4 _ rfl; (with_reducible repeat (first | refine Qn ?_ _ | refine Qp ?_ | refine Ql ?_ _)); refine Za (cs := #[.string ((Qb l0 a1).f0.f0), .string ((Qb l0 a1).f0.f1), .string ((Qb l0 a1).f0.f2), .bool false, .string (⟨#[]⟩ : ByteArray), .string (⟨#[]⟩ : ByteArray), .string (⟨#[]⟩ : ByteArray), .string (⟨#[]⟩ : ByteArray), .bool false]) ?_ 3 _ rfl; (with_reducible repeat (first | refine Qn ?_ _ | refine Qp ?_ | refine Ql ?_ _)); refine Za (cs := #[.string ((Qb l0 a1).f0.f0), .string ((Qb l0 a1).f0.f1), .string (⟨#[]⟩ : ByteArray), .bool false, .string (⟨#[]⟩ : ByteArray), .string (⟨#[]⟩ : ByteArray), .string (⟨#[]⟩ : ByteArray), .string (⟨#[]⟩ : ByteArray), .bool false]) ?_ 2 _ rfl; (with_reducible repeat (first | refine Qn ?_ _ | refine Qp ?_ | refine Ql ?_ _)); refine Za (cs := #[.string ((Qb l0 a1).f0.f0), .string (⟨#[]⟩ : ByteArray), .string (⟨#[]⟩ : ByteArray), .bool false, .string (⟨#[]⟩ : ByteArray), .string (⟨#[]⟩ : ByteArray), .string (⟨#[]⟩ : ByteArray), .string (⟨#[]⟩ : ByteArray), .bool false]) ?_ 1 _ rfl; (with_reducible repeat (first | refine Qn ?_ _ | refine Qp ?_ | refine Ql ?_ _)); refine Za (cs := #[.string (⟨#[]⟩ : ByteArray), .string (⟨#[]⟩ : ByteArray), .string (⟨#[]⟩ : ByteArray), .bool false, .string (⟨#[]⟩ : ByteArray), .string (⟨#[]⟩ : ByteArray), .string (⟨#[]⟩ : ByteArray), .string (⟨#[]⟩ : ByteArray), .bool false]) ?_ 0 _ rfl; (with_reducible repeat (first | refine Qn ?_ _ | refine Qp ?_ | refine Ql ?_ _)); exact a5.out) hb); have n2_ := Qa.mk (Qj bw_ hb); clear a6; clear a5; clear HB; have a6 := n0_; have a5 := n1_; have HB := n2_; clear n0_ n1_ n2_; (try clear hb); (try clear hb2); (try clear hk); (try clear hi); have d0 : 0 ≤ ((a3) : Int) := of_decide_eq_true Zx; have d3 : (a3) < (a2.length : Int) := of_decide_eq_true Zx; obtain ⟨g7, h9, d8, d9, e0, e1, e2, e3, e4, e5, e6⟩ := Ky (Kd.R_reads' a6.out).2.2 (a3) d0 d3; cases h9; replace d0 := eq_true d0; replace d3 := eq_true d3) | (go_at_call 114; (with_reducible refine (Zv.calls ((Qb a2 (a3)).f0.f0) ((Qb a2 (a3)).f0.f1) ((Qb a2 (a3)).f0.f2) ((Qb a2 (a3)).f1) ((Qb a2 (a3)).f2) ((Qb a2 (a3)).f3) ((Qb a2 (a3)).f4) ((Qb a2 (a3)).f5) ((Qb a2 (a3)).f6) false _ A15.out).mono ?_); rintro e w31 ⟨rfl, hb⟩; have n0_ := Qa.mk (Kd.R_below (ro_ a6.out) hb); have n1_ := Qa.mk (Qq (g := a4) (o := .cells #[.string ((Qb l0 a1).f0.f0), .string ((Qb l0 a1).f0.f1), .string ((Qb l0 a1).f0.f2), .bool ((Qb l0 a1).f1), .string ((Qb l0 a1).f2), .string ((Qb l0 a1).f3), .string ((Qb l0 a1).f4), .string ((Qb l0 a1).f5), .bool ((Qb l0 a1).f6)] 120 (0, 0)) (bk_ a5.out) hb); have n2_ := Qa.mk (Qj bw_ hb); clear a6; clear a5; clear HB; have a6 := n0_; have a5 := n1_; have HB := n2_; clear n0_ n1_ n2_; (try clear hb); (try clear hb2); (try clear hk); (try clear hi); obtain ⟨p3, p4, p5, p6, p7, p8, p9, q0, q1⟩ := Ju a5.out; obtain ⟨q2, q3, q4, q5, q6, q7, q8, q9, r0⟩ := Jv a5.out) | ((with_reducible refine Xl (b := .append) (xs := #[.tmp 15, .tmp 17]) rfl ?_); at_builtin; refine Kd.R_append Je (w0 := w) w.heap.size rfl (.tmp 15) (.tmp 17) 89 120 (.agg #[(.string ⟨#[]⟩), (.string ⟨#[]⟩), (.string ⟨#[]⟩), (.bool false), (.string ⟨#[]⟩), (.string ⟨#[]⟩), (.string ⟨#[]⟩), (.string ⟨#[]⟩), (.bool false)]) 128 rfl Try.underlying89 Qcy rfl (by decide) (by omega) (.slice (some g7) a2.length k9) a2 (⟨(⟨(Qb l0 a1).f0.f0, (Qb l0 a1).f0.f1, (Qb l0 a1).f0.f2⟩ : Vz), (Qb l0 a1).f1, (Qb l0 a1).f2, (Qb l0 a1).f3, (Qb l0 a1).f4, (Qb l0 a1).f5, (Qb l0 a1).f6⟩ : Yv) [.string ((Qb l0 a1).f0.f0), .string ((Qb l0 a1).f0.f1), .string ((Qb l0 a1).f0.f2), .bool ((Qb l0 a1).f1), .string ((Qb l0 a1).f2), .string ((Qb l0 a1).f3), .string ((Qb l0 a1).f4), .string ((Qb l0 a1).f5), .bool ((Qb l0 a1).f6)] (fun k_ => k_ ≠ a4) (fun _ => False) rfl rfl ?aP (fun _ hk => hk.elim) ?aF ?aO ?aB ?aS ?aL ?_; (case aP => exact Qba _ _ _ (⟨(⟨(Qb l0 a1).f0.f0, (Qb l0 a1).f0.f1, (Qb l0 a1).f0.f2⟩ : Vz), (Qb l0 a1).f1, (Qb l0 a1).f2, (Qb l0 a1).f3, (Qb l0 a1).f4, (Qb l0 a1).f5, (Qb l0 a1).f6⟩ : Yv)); (case aB => exact bw_); (case aF => exact (fun k_ hk => Kd.freshB (g := a4) (o := .cells #[.string ((Qb l0 a1).f0.f0), .string ((Qb l0 a1).f0.f1), .string ((Qb l0 a1).f0.f2), .bool ((Qb l0 a1).f1), .string ((Qb l0 a1).f2), .string ((Qb l0 a1).f3), .string ((Qb l0 a1).f4), .string ((Qb l0 a1).f5), .bool ((Qb l0 a1).f6)] 120 (0, 0)) (bk_ a5.out) k_ hk)); (case aO => exact (ro_ (Kd.R_mono a6.out (fun _ hk => hk.2)))); (case aS => exact (Qo bw_)); (case aL => have := j7.out; omega); intro E2 w33 ho hb hg hat; rw [← j8.out] at ho; have n0_ := Qa.mk (Ym (g := a4) (o := .cells #[.string ((Qb l0 a1).f0.f0), .string ((Qb l0 a1).f0.f1), .string ((Qb l0 a1).f0.f2), .bool ((Qb l0 a1).f1), .string ((Qb l0 a1).f2), .string ((Qb l0 a1).f3), .string ((Qb l0 a1).f4), .string ((Qb l0 a1).f5), .bool ((Qb l0 a1).f6)] 120 (0, 0)) (bk_ a5.out) hg (Kd.R_away a6.out (fun _ hk => hk.2))); have n1_ := Qa.mk (hb); have n2_ := Qa.mk (ho); clear a5; clear HB; clear a6; have a5 := n0_; have HB := n1_; have j9 := n2_; clear n0_ n1_ n2_; clear ho hb hg hat))
             go_roundg k1
             case measure => have := HK1.out; omega
             case rel => exact ⟨(i5), (wrap64 (a1 + 1)), sm_, H', ⟨by have := HK1.out; omega⟩, ⟨by (with_reducible repeat (first | apply Kd.R_alloc | apply Kd.R_drewN | apply Kd.R_drew)); exact Kd.R_mono j9.out (fun _ hk => trivial)⟩, ⟨bw_⟩⟩
            ·rw [if_neg c26] at H
             exact absurd H (by simp)
          ·rw [if_neg c14] at H
           exact absurd H (by simp)
         ·rw [if_neg c13] at H
          exact absurd H (by simp)
        ·rw [if_neg c11] at H
         have i8 : decide (0 < (a2.length : Int)) = false := decide_eq_false c11; have i9 : decide (0 < a2.length) = false := decide_eq_false (by omega); clear c11
         by_cases c34 : a2.length < 1099511627776
         ·rw [if_pos c34] at H
          have k0 := Qa.mk c34; clear c34; obtain ⟨i6, d6⟩ : ∃ y_ : List (Yv), y_ = (a2 ++ [(⟨(⟨(Qb l0 a1).f0.f0, (Qb l0 a1).f0.f1, (Qb l0 a1).f0.f2⟩ : Vz), (Qb l0 a1).f1, (Qb l0 a1).f2, (Qb l0 a1).f3, (Qb l0 a1).f4, (Qb l0 a1).f5, (Qb l0 a1).f6⟩ : Yv)]) := ⟨_, rfl⟩
          replace H : (Yo.l0 k1 i6 l0 (l0.length : Int) (wrap64 (a1 + 1))) = some r := by first | (rw [d6]; with_reducible exact H) | (have H2_ := (Option.bind_some _ _).symm.trans H; rw [d6]; with_reducible exact H2_) | (have H2_ := (Option.bind_some _ _).symm.trans H; with_reducible exact H2_) | with_reducible exact H | (rw [d6]; exact H) | exact H
          have k2 := Qa.mk d6; clear d6; have H' := Qa.mk H; clear H; have b6 : 0 ≤ (a1 : Int) := of_decide_eq_true Zx; have b7 : a1 < (l0.length : Int) := of_decide_eq_true Zx; obtain ⟨e7, b9, a7, a8, a9, b0, b1, b2, b3, b4, b5⟩ := Ky HR0.out a1 b6 b7
          cases b9; replace a7 := Qg HB.out a7; replace a8 := Qg HB.out a8; replace a9 := Qg HB.out a9; replace b0 := Qg HB.out b0; replace b1 := Qg HB.out b1; replace b2 := Qg HB.out b2; replace b3 := Qg HB.out b3; replace b4 := Qg HB.out b4; replace b5 := Qg HB.out b5; replace b6 := eq_true b6; replace b7 := eq_true b7; go_wp2_with (first | ((with_reducible refine Zd (N := 5) rfl ?_); refine Zc ?hg (N := 5) ?hd (cs := #[.string (⟨#[]⟩ : ByteArray), .string (⟨#[]⟩ : ByteArray), .string (⟨#[]⟩ : ByteArray), .bool false, .string (⟨#[]⟩ : ByteArray), .string (⟨#[]⟩ : ByteArray), .string (⟨#[]⟩ : ByteArray), .string (⟨#[]⟩ : ByteArray), .bool false]) (t := 120) ?hr ?_; (case hd => rfl); (case hg => rfl); (case hr => first | (go_simp; done) | (go_simp; rfl)); intro a4 hg w35 hbox hb; have n0_ := Qa.mk (Kd.R_below (Kd.R_elderB (ro_ a6.out) a4 (Nat.le_of_eq hg.symm)) hb); have n1_ := Qa.mk (Qj bw_ hb); have n2_ := Qa.mk (hbox); have n3_ := Qa.mk ((gw_ hg : w.heap.size ≤ a4)); have n4_ := Qa.mk ((gw_ hg : w.heap.size ≤ a4)); clear a6; clear HB; have a6 := n0_; have HB := n1_; have a5 := n2_; have e8 := n3_; have GE102 := n4_; clear n0_ n1_ n2_ n3_ n4_; clear hb hbox hg; obtain ⟨r1, r2, r3, r4, r5, r6, r7, r8, r9⟩ := Ju a5.out; obtain ⟨s0, s1, s2, s3, s4, s5, s6, s7, s8⟩ := Jv a5.out; obtain ⟨l3, l4, eo37⟩ := Kd.R_slice a6.out; subst eo37) | ((with_reducible refine Xo (f := 114) rfl ?_); refine Vb (some 25) rfl rfl Try.func114 (by kernel_rfl) rfl #[.agg #[.string ((Qb l0 a1).f0.f0), .string ((Qb l0 a1).f0.f1), .string ((Qb l0 a1).f0.f2), .bool ((Qb l0 a1).f1), .string ((Qb l0 a1).f2), .string ((Qb l0 a1).f3), .string ((Qb l0 a1).f4), .string ((Qb l0 a1).f5), .bool ((Qb l0 a1).f6)]] rfl (by (try simp only [List.map_toArray, List.map_cons, List.map_nil]); first | done | rfl | (simp only [List.length_drop, List.length_take]; rfl)) ?_; (with_reducible refine (Zv.calls ((Qb l0 a1).f0.f0) ((Qb l0 a1).f0.f1) ((Qb l0 a1).f0.f2) ((Qb l0 a1).f1) ((Qb l0 a1).f2) ((Qb l0 a1).f3) ((Qb l0 a1).f4) ((Qb l0 a1).f5) ((Qb l0 a1).f6) true _ A9.out).mono ?_); rintro e w38 ⟨rfl, hb⟩; refine ⟨_, rfl, ?_⟩; have n0_ := Qa.mk (Kd.R_below (ro_ ((Kd.R_mono (Kd.R_far (p := ⟨a4, 8, none⟩) (Kd.R_far (p := ⟨a4, 7, none⟩) (Kd.R_far (p := ⟨a4, 6, none⟩) (Kd.R_far (p := ⟨a4, 5, none⟩) (Kd.R_far (p := ⟨a4, 4, none⟩) (Kd.R_far (p := ⟨a4, 3, none⟩) (Kd.R_far (p := ⟨a4, 2, none⟩) (Kd.R_far (p := ⟨a4, 1, none⟩) (Kd.R_far (p := ⟨a4, 0, none⟩) (Kd.R_mono a6.out (fun k_ hk => (⟨hk, hk.2⟩ : _ ∧ k_ ≠ a4))) (fun _ hk => hk.2) (.string ((Qb l0 a1).f0.f0))) (fun _ hk => hk.2) (.string ((Qb l0 a1).f0.f1))) (fun _ hk => hk.2) (.string ((Qb l0 a1).f0.f2))) (fun _ hk => hk.2) (.bool ((Qb l0 a1).f1))) (fun _ hk => hk.2) (.string ((Qb l0 a1).f2))) (fun _ hk => hk.2) (.string ((Qb l0 a1).f3))) (fun _ hk => hk.2) (.string ((Qb l0 a1).f4))) (fun _ hk => hk.2) (.string ((Qb l0 a1).f5))) (fun _ hk => hk.2) (.bool ((Qb l0 a1).f6))) (fun _ h_ => h_.1)))) hb); have n1_ := Qa.mk (Qq (g := a4) (o := .cells #[.string ((Qb l0 a1).f0.f0), .string ((Qb l0 a1).f0.f1), .string ((Qb l0 a1).f0.f2), .bool ((Qb l0 a1).f1), .string ((Qb l0 a1).f2), .string ((Qb l0 a1).f3), .string ((Qb l0 a1).f4), .string ((Qb l0 a1).f5), .bool ((Qb l0 a1).f6)] 120 (0, 0)) (by (with_reducible repeat (first | refine Qn ?_ _ | refine Qp ?_ | refine Ql ?_ _)); refine Za (cs := #[.string ((Qb l0 a1).f0.f0), .string ((Qb l0 a1).f0.f1), .string ((Qb l0 a1).f0.f2), .bool ((Qb l0 a1).f1), .string ((Qb l0 a1).f2), .string ((Qb l0 a1).f3), .string ((Qb l0 a1).f4), .string ((Qb l0 a1).f5), .bool false]) ?_ 8 _ rfl; (with_reducible repeat (first | refine Qn ?_ _ | refine Qp ?_ | refine Ql ?_ _)); refine Za (cs := #[.string ((Qb l0 a1).f0.f0), .string ((Qb l0 a1).f0.f1), .string ((Qb l0 a1).f0.f2), .bool ((Qb l0 a1).f1), .string ((Qb l0 a1).f2), .string ((Qb l0 a1).f3), .string ((Qb l0 a1).f4), .string (⟨#[]⟩ : ByteArray), .bool false]) ?_ 7 _ rfl; (with_reducible repeat (first | refine Qn ?_ _ | refine Qp ?_ | refine Ql ?_ _)); refine Za (cs := #[.string ((Qb l0 a1).f0.f0), .string ((Qb l0 a1).f0.f1), .string ((Qb l0 a1).f0.f2), .bool ((Qb l0 a1).f1), .string ((Qb l0 a1).f2), .string ((Qb l0 a1).f3), .string (⟨#[]⟩ : ByteArray), .string (⟨#[]⟩ : ByteArray), .bool false]) ?_ 6 _ rfl; (with_reducible repeat (first | refine Qn ?_ _ | refine Qp ?_ | refine Ql ?_ _)); refine Za (cs := #[.string ((Qb l0 a1).f0.f0), .string ((Qb l0 a1).f0.f1), .string ((Qb l0 a1).f0.f2), .bool ((Qb l0 a1).f1), .string ((Qb l0 a1).f2), .string (⟨#[]⟩ : ByteArray), .string (⟨#[]⟩ : ByteArray), .string (⟨#[]⟩ : ByteArray), .bool false]) ?_ 5 _ rfl; (with_reducible repeat (first | refine Qn ?_ _ | refine Qp ?_ | refine Ql ?_ _)); refine Za (cs := #[.string ((Qb l0 a1).f0.f0), .string ((Qb l0 a1).f0.f1), .string ((Qb l0 a1).f0.f2), .bool ((Qb l0 a1).f1), .string (⟨#[]⟩ : ByteArray), .string (⟨#[]⟩ : ByteArray), .string (⟨#[]⟩ : ByteArray), .string (⟨#[]⟩ : ByteArray), .bool false]) ?_ 4 _ rfl; (with_reducible repeat (first | refine Qn ?_ _ | refine Qp ?_ | refine Ql ?_ _)); refine Za (cs := #[.string ((Qb l0 a1).f0.f0), .string ((Qb l0 a1).f0.f1), .string ((Qb l0 a1).f0.f2), .bool false, .string (⟨#[]⟩ : ByteArray), .string (⟨#[]⟩ : ByteArray), .string (⟨#[]⟩ : ByteArray), .string (⟨#[]⟩ : ByteArray), .bool false]) ?_ 3 _ rfl; (with_reducible repeat (first | refine Qn ?_ _ | refine Qp ?_ | refine Ql ?_ _)); refine Za (cs := #[.string ((Qb l0 a1).f0.f0), .string ((Qb l0 a1).f0.f1), .string (⟨#[]⟩ : ByteArray), .bool false, .string (⟨#[]⟩ : ByteArray), .string (⟨#[]⟩ : ByteArray), .string (⟨#[]⟩ : ByteArray), .string (⟨#[]⟩ : ByteArray), .bool false]) ?_ 2 _ rfl; (with_reducible repeat (first | refine Qn ?_ _ | refine Qp ?_ | refine Ql ?_ _)); refine Za (cs := #[.string ((Qb l0 a1).f0.f0), .string (⟨#[]⟩ : ByteArray), .string (⟨#[]⟩ : ByteArray), .bool false, .string (⟨#[]⟩ : ByteArray), .string (⟨#[]⟩ : ByteArray), .string (⟨#[]⟩ : ByteArray), .string (⟨#[]⟩ : ByteArray), .bool false]) ?_ 1 _ rfl; (with_reducible repeat (first | refine Qn ?_ _ | refine Qp ?_ | refine Ql ?_ _)); refine Za (cs := #[.string (⟨#[]⟩ : ByteArray), .string (⟨#[]⟩ : ByteArray), .string (⟨#[]⟩ : ByteArray), .bool false, .string (⟨#[]⟩ : ByteArray), .string (⟨#[]⟩ : ByteArray), .string (⟨#[]⟩ : ByteArray), .string (⟨#[]⟩ : ByteArray), .bool false]) ?_ 0 _ rfl; (with_reducible repeat (first | refine Qn ?_ _ | refine Qp ?_ | refine Ql ?_ _)); exact a5.out) hb); have n2_ := Qa.mk (Qj bw_ hb); clear a6; clear a5; clear HB; have a6 := n0_; have a5 := n1_; have HB := n2_; clear n0_ n1_ n2_; (try clear hb); (try clear hb2); (try clear hk); (try clear hi); obtain ⟨s9, t0, t1, t2, t3, t4, t5, t6, t7⟩ := Ju a5.out; obtain ⟨t8, t9, u0, u1, u2, u3, u4, u5, u6⟩ := Jv a5.out) | ((with_reducible refine Xl (b := .append) (xs := #[.tmp 15, .tmp 17]) rfl ?_); at_builtin; refine Kd.R_append Je (w0 := w) w.heap.size rfl (.tmp 15) (.tmp 17) 89 120 (.agg #[(.string ⟨#[]⟩), (.string ⟨#[]⟩), (.string ⟨#[]⟩), (.bool false), (.string ⟨#[]⟩), (.string ⟨#[]⟩), (.string ⟨#[]⟩), (.string ⟨#[]⟩), (.bool false)]) 128 rfl Try.underlying89 Qcy rfl (by decide) (by omega) (.slice l3 a2.length l4) a2 (⟨(⟨(Qb l0 a1).f0.f0, (Qb l0 a1).f0.f1, (Qb l0 a1).f0.f2⟩ : Vz), (Qb l0 a1).f1, (Qb l0 a1).f2, (Qb l0 a1).f3, (Qb l0 a1).f4, (Qb l0 a1).f5, (Qb l0 a1).f6⟩ : Yv) [.string ((Qb l0 a1).f0.f0), .string ((Qb l0 a1).f0.f1), .string ((Qb l0 a1).f0.f2), .bool ((Qb l0 a1).f1), .string ((Qb l0 a1).f2), .string ((Qb l0 a1).f3), .string ((Qb l0 a1).f4), .string ((Qb l0 a1).f5), .bool ((Qb l0 a1).f6)] (fun k_ => k_ ≠ a4) (fun _ => False) rfl rfl ?aP (fun _ hk => hk.elim) ?aF ?aO ?aB ?aS ?aL ?_; (case aP => exact Qba _ _ _ (⟨(⟨(Qb l0 a1).f0.f0, (Qb l0 a1).f0.f1, (Qb l0 a1).f0.f2⟩ : Vz), (Qb l0 a1).f1, (Qb l0 a1).f2, (Qb l0 a1).f3, (Qb l0 a1).f4, (Qb l0 a1).f5, (Qb l0 a1).f6⟩ : Yv)); (case aB => exact bw_); (case aF => exact (fun k_ hk => Kd.freshB (g := a4) (o := .cells #[.string ((Qb l0 a1).f0.f0), .string ((Qb l0 a1).f0.f1), .string ((Qb l0 a1).f0.f2), .bool ((Qb l0 a1).f1), .string ((Qb l0 a1).f2), .string ((Qb l0 a1).f3), .string ((Qb l0 a1).f4), .string ((Qb l0 a1).f5), .bool ((Qb l0 a1).f6)] 120 (0, 0)) (bk_ a5.out) k_ hk)); (case aO => exact (ro_ (Kd.R_mono a6.out (fun _ hk => hk.2)))); (case aS => exact (Qo bw_)); (case aL => have := k0.out; omega); intro E3 w40 ho hb hg hat; rw [← k2.out] at ho; have n0_ := Qa.mk (Ym (g := a4) (o := .cells #[.string ((Qb l0 a1).f0.f0), .string ((Qb l0 a1).f0.f1), .string ((Qb l0 a1).f0.f2), .bool ((Qb l0 a1).f1), .string ((Qb l0 a1).f2), .string ((Qb l0 a1).f3), .string ((Qb l0 a1).f4), .string ((Qb l0 a1).f5), .bool ((Qb l0 a1).f6)] 120 (0, 0)) (bk_ a5.out) hg (Kd.R_away a6.out (fun _ hk => hk.2))); have n1_ := Qa.mk (hb); have n2_ := Qa.mk (ho); clear a5; clear HB; clear a6; have a5 := n0_; have HB := n1_; have k3 := n2_; clear n0_ n1_ n2_; clear ho hb hg hat))
          go_roundg k1
          case measure => have := HK1.out; omega
          case rel => exact ⟨(i6), (wrap64 (a1 + 1)), sm_, H', ⟨by have := HK1.out; omega⟩, ⟨by (with_reducible repeat (first | apply Kd.R_alloc | apply Kd.R_drewN | apply Kd.R_drew)); exact Kd.R_mono k3.out (fun _ hk => trivial)⟩, ⟨bw_⟩⟩
         ·rw [if_neg c34] at H
          exact absurd H (by simp)
       ·replace c10 := Bool.eq_false_iff.mpr c10
        subst c10
        have H1 : (if a2.length < 1099511627776 then (Yo.l0 k1 (a2 ++ [(⟨(⟨(Qb l0 a1).f0.f0, (Qb l0 a1).f0.f1, (Qb l0 a1).f0.f2⟩ : Vz), (Qb l0 a1).f1, (Qb l0 a1).f2, (Qb l0 a1).f3, (Qb l0 a1).f4, (Qb l0 a1).f5, (Qb l0 a1).f6⟩ : Yv)]) l0 (l0.length : Int) (wrap64 (a1 + 1))) else (none)) = some r := by rw [if_neg (show ¬ (false = true) by decide)] at H; exact H
        clear H; have H := H1; clear H1
        by_cases c41 : a2.length < 1099511627776
        ·rw [if_pos c41] at H
         have k4 := Qa.mk c41; clear c41; obtain ⟨i7, d7⟩ : ∃ y_ : List (Yv), y_ = (a2 ++ [(⟨(⟨(Qb l0 a1).f0.f0, (Qb l0 a1).f0.f1, (Qb l0 a1).f0.f2⟩ : Vz), (Qb l0 a1).f1, (Qb l0 a1).f2, (Qb l0 a1).f3, (Qb l0 a1).f4, (Qb l0 a1).f5, (Qb l0 a1).f6⟩ : Yv)]) := ⟨_, rfl⟩
         replace H : (Yo.l0 k1 i7 l0 (l0.length : Int) (wrap64 (a1 + 1))) = some r := by first | (rw [d7]; with_reducible exact H) | (have H2_ := (Option.bind_some _ _).symm.trans H; rw [d7]; with_reducible exact H2_) | (have H2_ := (Option.bind_some _ _).symm.trans H; with_reducible exact H2_) | with_reducible exact H | (rw [d7]; exact H) | exact H
         have k5 := Qa.mk d7; clear d7; have H' := Qa.mk H; clear H; have b6 : 0 ≤ (a1 : Int) := of_decide_eq_true Zx; have b7 : a1 < (l0.length : Int) := of_decide_eq_true Zx; obtain ⟨e7, b9, a7, a8, a9, b0, b1, b2, b3, b4, b5⟩ := Ky HR0.out a1 b6 b7
         cases b9; replace a7 := Qg HB.out a7; replace a8 := Qg HB.out a8; replace a9 := Qg HB.out a9; replace b0 := Qg HB.out b0; replace b1 := Qg HB.out b1; replace b2 := Qg HB.out b2; replace b3 := Qg HB.out b3; replace b4 := Qg HB.out b4; replace b5 := Qg HB.out b5; replace b6 := eq_true b6; replace b7 := eq_true b7; go_wp2_with (first | ((with_reducible refine Zd (N := 5) rfl ?_); refine Zc ?hg (N := 5) ?hd (cs := #[.string (⟨#[]⟩ : ByteArray), .string (⟨#[]⟩ : ByteArray), .string (⟨#[]⟩ : ByteArray), .bool false, .string (⟨#[]⟩ : ByteArray), .string (⟨#[]⟩ : ByteArray), .string (⟨#[]⟩ : ByteArray), .string (⟨#[]⟩ : ByteArray), .bool false]) (t := 120) ?hr ?_; (case hd => rfl); (case hg => rfl); (case hr => first | (go_simp; done) | (go_simp; rfl)); intro a4 hg w42 hbox hb; have n0_ := Qa.mk (Kd.R_below (Kd.R_elderB (ro_ a6.out) a4 (Nat.le_of_eq hg.symm)) hb); have n1_ := Qa.mk (Qj bw_ hb); have n2_ := Qa.mk (hbox); have n3_ := Qa.mk ((gw_ hg : w.heap.size ≤ a4)); have n4_ := Qa.mk ((gw_ hg : w.heap.size ≤ a4)); clear a6; clear HB; have a6 := n0_; have HB := n1_; have a5 := n2_; have e8 := n3_; have GE102 := n4_; clear n0_ n1_ n2_ n3_ n4_; clear hb hbox hg; obtain ⟨u7, u8, u9, v0, v2, v4, v5, v6, v7⟩ := Ju a5.out; obtain ⟨v8, w2, w3, w4, w5, w7, w8, w9, x0⟩ := Jv a5.out; obtain ⟨l5, l6, eo44⟩ := Kd.R_slice a6.out; subst eo44) | ((with_reducible refine Xo (f := 114) rfl ?_); refine Vb (some 25) rfl rfl Try.func114 (by kernel_rfl) rfl #[.agg #[.string ((Qb l0 a1).f0.f0), .string ((Qb l0 a1).f0.f1), .string ((Qb l0 a1).f0.f2), .bool ((Qb l0 a1).f1), .string ((Qb l0 a1).f2), .string ((Qb l0 a1).f3), .string ((Qb l0 a1).f4), .string ((Qb l0 a1).f5), .bool ((Qb l0 a1).f6)]] rfl (by (try simp only [List.map_toArray, List.map_cons, List.map_nil]); first | done | rfl | (simp only [List.length_drop, List.length_take]; rfl)) ?_; (with_reducible refine (Zv.calls ((Qb l0 a1).f0.f0) ((Qb l0 a1).f0.f1) ((Qb l0 a1).f0.f2) ((Qb l0 a1).f1) ((Qb l0 a1).f2) ((Qb l0 a1).f3) ((Qb l0 a1).f4) ((Qb l0 a1).f5) ((Qb l0 a1).f6) false _ A9.out).mono ?_); rintro e w45 ⟨rfl, hb⟩; refine ⟨_, rfl, ?_⟩; have n0_ := Qa.mk (Kd.R_below (ro_ ((Kd.R_mono (Kd.R_far (p := ⟨a4, 8, none⟩) (Kd.R_far (p := ⟨a4, 7, none⟩) (Kd.R_far (p := ⟨a4, 6, none⟩) (Kd.R_far (p := ⟨a4, 5, none⟩) (Kd.R_far (p := ⟨a4, 4, none⟩) (Kd.R_far (p := ⟨a4, 3, none⟩) (Kd.R_far (p := ⟨a4, 2, none⟩) (Kd.R_far (p := ⟨a4, 1, none⟩) (Kd.R_far (p := ⟨a4, 0, none⟩) (Kd.R_mono a6.out (fun k_ hk => (⟨hk, hk.2⟩ : _ ∧ k_ ≠ a4))) (fun _ hk => hk.2) (.string ((Qb l0 a1).f0.f0))) (fun _ hk => hk.2) (.string ((Qb l0 a1).f0.f1))) (fun _ hk => hk.2) (.string ((Qb l0 a1).f0.f2))) (fun _ hk => hk.2) (.bool ((Qb l0 a1).f1))) (fun _ hk => hk.2) (.string ((Qb l0 a1).f2))) (fun _ hk => hk.2) (.string ((Qb l0 a1).f3))) (fun _ hk => hk.2) (.string ((Qb l0 a1).f4))) (fun _ hk => hk.2) (.string ((Qb l0 a1).f5))) (fun _ hk => hk.2) (.bool ((Qb l0 a1).f6))) (fun _ h_ => h_.1)))) hb); have n1_ := Qa.mk (Qq (g := a4) (o := .cells #[.string ((Qb l0 a1).f0.f0), .string ((Qb l0 a1).f0.f1), .string ((Qb l0 a1).f0.f2), .bool ((Qb l0 a1).f1), .string ((Qb l0 a1).f2), .string ((Qb l0 a1).f3), .string ((Qb l0 a1).f4), .string ((Qb l0 a1).f5), .bool ((Qb l0 a1).f6)] 120 (0, 0)) (by (with_reducible repeat (first | refine Qn ?_ _ | refine Qp ?_ | refine Ql ?_ _)); refine Za (cs := #[.string ((Qb l0 a1).f0.f0), .string ((Qb l0 a1).f0.f1), .string ((Qb l0 a1).f0.f2), .bool ((Qb l0 a1).f1), .string ((Qb l0 a1).f2), .string ((Qb l0 a1).f3), .string ((Qb l0 a1).f4), .string ((Qb l0 a1).f5), .bool false]) ?_ 8 _ rfl; (with_reducible repeat (first | refine Qn ?_ _ | refine Qp ?_ | refine Ql ?_ _)); refine Za (cs := #[.string ((Qb l0 a1).f0.f0), .string ((Qb l0 a1).f0.f1), .string ((Qb l0 a1).f0.f2), .bool ((Qb l0 a1).f1), .string ((Qb l0 a1).f2), .string ((Qb l0 a1).f3), .string ((Qb l0 a1).f4), .string (⟨#[]⟩ : ByteArray), .bool false]) ?_ 7 _ rfl; (with_reducible repeat (first | refine Qn ?_ _ | refine Qp ?_ | refine Ql ?_ _)); refine Za (cs := #[.string ((Qb l0 a1).f0.f0), .string ((Qb l0 a1).f0.f1), .string ((Qb l0 a1).f0.f2), .bool ((Qb l0 a1).f1), .string ((Qb l0 a1).f2), .string ((Qb l0 a1).f3), .string (⟨#[]⟩ : ByteArray), .string (⟨#[]⟩ : ByteArray), .bool false]) ?_ 6 _ rfl; (with_reducible repeat (first | refine Qn ?_ _ | refine Qp ?_ | refine Ql ?_ _)); refine Za (cs := #[.string ((Qb l0 a1).f0.f0), .string ((Qb l0 a1).f0.f1), .string ((Qb l0 a1).f0.f2), .bool ((Qb l0 a1).f1), .string ((Qb l0 a1).f2), .string (⟨#[]⟩ : ByteArray), .string (⟨#[]⟩ : ByteArray), .string (⟨#[]⟩ : ByteArray), .bool false]) ?_ 5 _ rfl; (with_reducible repeat (first | refine Qn ?_ _ | refine Qp ?_ | refine Ql ?_ _)); refine Za (cs := #[.string ((Qb l0 a1).f0.f0), .string ((Qb l0 a1).f0.f1), .string ((Qb l0 a1).f0.f2), .bool ((Qb l0 a1).f1), .string (⟨#[]⟩ : ByteArray), .string (⟨#[]⟩ : ByteArray), .string (⟨#[]⟩ : ByteArray), .string (⟨#[]⟩ : ByteArray), .bool false]) ?_ 4 _ rfl; (with_reducible repeat (first | refine Qn ?_ _ | refine Qp ?_ | refine Ql ?_ _)); refine Za (cs := #[.string ((Qb l0 a1).f0.f0), .string ((Qb l0 a1).f0.f1), .string ((Qb l0 a1).f0.f2), .bool false, .string (⟨#[]⟩ : ByteArray), .string (⟨#[]⟩ : ByteArray), .string (⟨#[]⟩ : ByteArray), .string (⟨#[]⟩ : ByteArray), .bool false]) ?_ 3 _ rfl; (with_reducible repeat (first | refine Qn ?_ _ | refine Qp ?_ | refine Ql ?_ _)); refine Za (cs := #[.string ((Qb l0 a1).f0.f0), .string ((Qb l0 a1).f0.f1), .string (⟨#[]⟩ : ByteArray), .bool false, .string (⟨#[]⟩ : ByteArray), .string (⟨#[]⟩ : ByteArray), .string (⟨#[]⟩ : ByteArray), .string (⟨#[]⟩ : ByteArray), .bool false]) ?_ 2 _ rfl; (with_reducible repeat (first | refine Qn ?_ _ | refine Qp ?_ | refine Ql ?_ _)); refine Za (cs := #[.string ((Qb l0 a1).f0.f0), .string (⟨#[]⟩ : ByteArray), .string (⟨#[]⟩ : ByteArray), .bool false, .string (⟨#[]⟩ : ByteArray), .string (⟨#[]⟩ : ByteArray), .string (⟨#[]⟩ : ByteArray), .string (⟨#[]⟩ : ByteArray), .bool false]) ?_ 1 _ rfl; (with_reducible repeat (first | refine Qn ?_ _ | refine Qp ?_ | refine Ql ?_ _)); refine Za (cs := #[.string (⟨#[]⟩ : ByteArray), .string (⟨#[]⟩ : ByteArray), .string (⟨#[]⟩ : ByteArray), .bool false, .string (⟨#[]⟩ : ByteArray), .string (⟨#[]⟩ : ByteArray), .string (⟨#[]⟩ : ByteArray), .string (⟨#[]⟩ : ByteArray), .bool false]) ?_ 0 _ rfl; (with_reducible repeat (first | refine Qn ?_ _ | refine Qp ?_ | refine Ql ?_ _)); exact a5.out) hb); have n2_ := Qa.mk (Qj bw_ hb); clear a6; clear a5; clear HB; have a6 := n0_; have a5 := n1_; have HB := n2_; clear n0_ n1_ n2_; (try clear hb); (try clear hb2); (try clear hk); (try clear hi); obtain ⟨x1, x2, x5, y7, y8, y9, z0, z1, z2⟩ := Ju a5.out; obtain ⟨z3, z4, z5, z6, z7, z8, z9, A1, A2⟩ := Jv a5.out) | ((with_reducible refine Xl (b := .append) (xs := #[.tmp 15, .tmp 17]) rfl ?_); at_builtin; refine Kd.R_append Je (w0 := w) w.heap.size rfl (.tmp 15) (.tmp 17) 89 120 (.agg #[(.string ⟨#[]⟩), (.string ⟨#[]⟩), (.string ⟨#[]⟩), (.bool false), (.string ⟨#[]⟩), (.string ⟨#[]⟩), (.string ⟨#[]⟩), (.string ⟨#[]⟩), (.bool false)]) 128 rfl Try.underlying89 Qcy rfl (by decide) (by omega) (.slice l5 a2.length l6) a2 (⟨(⟨(Qb l0 a1).f0.f0, (Qb l0 a1).f0.f1, (Qb l0 a1).f0.f2⟩ : Vz), (Qb l0 a1).f1, (Qb l0 a1).f2, (Qb l0 a1).f3, (Qb l0 a1).f4, (Qb l0 a1).f5, (Qb l0 a1).f6⟩ : Yv) [.string ((Qb l0 a1).f0.f0), .string ((Qb l0 a1).f0.f1), .string ((Qb l0 a1).f0.f2), .bool ((Qb l0 a1).f1), .string ((Qb l0 a1).f2), .string ((Qb l0 a1).f3), .string ((Qb l0 a1).f4), .string ((Qb l0 a1).f5), .bool ((Qb l0 a1).f6)] (fun k_ => k_ ≠ a4) (fun _ => False) rfl rfl ?aP (fun _ hk => hk.elim) ?aF ?aO ?aB ?aS ?aL ?_; (case aP => exact Qba _ _ _ (⟨(⟨(Qb l0 a1).f0.f0, (Qb l0 a1).f0.f1, (Qb l0 a1).f0.f2⟩ : Vz), (Qb l0 a1).f1, (Qb l0 a1).f2, (Qb l0 a1).f3, (Qb l0 a1).f4, (Qb l0 a1).f5, (Qb l0 a1).f6⟩ : Yv)); (case aB => exact bw_); (case aF => exact (fun k_ hk => Kd.freshB (g := a4) (o := .cells #[.string ((Qb l0 a1).f0.f0), .string ((Qb l0 a1).f0.f1), .string ((Qb l0 a1).f0.f2), .bool ((Qb l0 a1).f1), .string ((Qb l0 a1).f2), .string ((Qb l0 a1).f3), .string ((Qb l0 a1).f4), .string ((Qb l0 a1).f5), .bool ((Qb l0 a1).f6)] 120 (0, 0)) (bk_ a5.out) k_ hk)); (case aO => exact (ro_ (Kd.R_mono a6.out (fun _ hk => hk.2)))); (case aS => exact (Qo bw_)); (case aL => have := k4.out; omega); intro E4 w47 ho hb hg hat; rw [← k5.out] at ho; have n0_ := Qa.mk (Ym (g := a4) (o := .cells #[.string ((Qb l0 a1).f0.f0), .string ((Qb l0 a1).f0.f1), .string ((Qb l0 a1).f0.f2), .bool ((Qb l0 a1).f1), .string ((Qb l0 a1).f2), .string ((Qb l0 a1).f3), .string ((Qb l0 a1).f4), .string ((Qb l0 a1).f5), .bool ((Qb l0 a1).f6)] 120 (0, 0)) (bk_ a5.out) hg (Kd.R_away a6.out (fun _ hk => hk.2))); have n1_ := Qa.mk (hb); have n2_ := Qa.mk (ho); clear a5; clear HB; clear a6; have a5 := n0_; have HB := n1_; have k6 := n2_; clear n0_ n1_ n2_; clear ho hb hg hat))
         go_roundg k1
         case measure => have := HK1.out; omega
         case rel => exact ⟨(i7), (wrap64 (a1 + 1)), sm_, H', ⟨by have := HK1.out; omega⟩, ⟨by (with_reducible repeat (first | apply Kd.R_alloc | apply Kd.R_drewN | apply Kd.R_drew)); exact Kd.R_mono k6.out (fun _ hk => trivial)⟩, ⟨bw_⟩⟩
        ·rw [if_neg c41] at H
         exact absurd H (by simp)
     ·rw [if_neg c4] at H
      exact absurd H (by simp)
    ·rw [if_neg c3] at H
     exact absurd H (by simp)
   ·rw [if_neg c2] at H
    have k7 : decide (a1 < (l0.length : Int)) = false := decide_eq_false c2; clear c2; obtain rfl := Option.some.inj H
    go_wp2
    go_ret; exact ⟨_, by first | rfl | (simp [Qt, Qu] <;> rfl) | (simp [*, Qt, Qu] <;> rfl), ro_ a6.out, bw_⟩
end Go.Proofs.Ytadafplbgophfaa.PA
end
section
namespace Go.Proofs.Ytadafplbgophfaa.PA
open Go.RowKit Go.Proofs.YtadafplbgophfaaW.PrintWords Go.Proofs.YtadafplbgophfaaW.PrintLast Go.Proofs.YtadafplbgophfaaW.PrintMore
attribute [local go_sem] Xx Xz Yk Yl Xj Xk Xy Ya
def Xs.f (k : Nat) (a0 : Int) (a1 : Int) (l1 : List ByteArray) : Option (List ByteArray) := if a0 < 0 then (some ([] : List ByteArray)) else (if a1 > (l1.length : Int) then (some ([] : List ByteArray)) else (if a1 < a0 then (some ([] : List ByteArray)) else (if 0 ≤ a0 then (if a0 ≤ a1 then (if a1 ≤ (l1.length : Int) then ((Xw.f k ((l1.take (a1 : Int).toNat).drop (a0 : Int).toNat)).bind fun a4 => (some a4)) else (none)) else (none)) else (none))))
set_option maxHeartbeats 8000000 in
set_option maxRecDepth 100000 in
theorem Xs.calls (k : Nat) (a0 : Int) (a1 : Int) (A1 : Option Addr) (c1 : Nat) (l1 : List ByteArray) (r : List ByteArray) (w : World) (hr1 : Kd.C Kd.string w A1 l1.length l1) (hc1 : l1.length ≤ c1) (h : Xs.f k a0 a1 l1 = some r) :
  Calls Try.prog 129 #[.agg #[.int .i64 a0, .int .i64 a1], .slice A1 l1.length c1] w fun e w' => ∃ v0_ : Value, e = .returned (v0_) ∧ Kd.R Kd.string 9 w' w.heap.size (fun _ => True) v0_ r ∧ Below w.heap.size w w' := by
 have hu76 := Try.underlying76; have HR1 := Qa.mk hr1; have HC1 := Qa.mk hc1; clear hr1 hc1; have HB := Qa.mk (Below.refl w.heap.size w); have H : (if a0 < 0 then (some ([] : List ByteArray)) else (if a1 > (l1.length : Int) then (some ([] : List ByteArray)) else (if a1 < a0 then (some ([] : List ByteArray)) else (if 0 ≤ a0 then (if a0 ≤ a1 then (if a1 ≤ (l1.length : Int) then ((Xw.f k ((l1.take (a1 : Int).toNat).drop (a0 : Int).toNat)).bind fun a4 => (some a4)) else (none)) else (none)) else (none))))) = some r := h; clear h
 by_cases c3 : a0 < 0
 ·rw [if_pos c3] at H
  have b0 : decide (a0 < 0) = true := decide_eq_true c3; clear c3; obtain rfl := Option.some.inj H
  go_enter Try.func129, Try.ntmps129
  go_wp2_with (first | ((with_reducible refine Zd (N := 2) rfl ?_); (try (refine Xq (by rfl) ?_; dsimp only)); refine Zc ?hg (N := 2) ?hd (cs := #[.int .i64 a0, .int .i64 a1]) (t := 76) ?hr ?_; (case hd => rfl); (case hg => rfl); (case hr => first | (go_simp; done) | (go_simp; rfl)); intro a3 hg w4 hbox hb; have n0_ := Qa.mk (Qj bw_ hb); have n1_ := Qa.mk (hbox); have n2_ := Qa.mk ((gw_ hg : w.heap.size ≤ a3)); have n3_ := Qa.mk ((gw_ hg : w.heap.size ≤ a3)); clear HB; have HB := n0_; have a2 := n1_; have a5 := n2_; have GE101 := n3_; clear n0_ n1_ n2_ n3_; clear hb hbox hg; obtain ⟨d3, d4⟩ := Qfn a2.out; obtain ⟨d5, d6⟩ := Qdh a2.out)); go_ret; exact ⟨_, by first | rfl | (simp [Qt, Qu] <;> rfl) | (simp [*, Qt, Qu] <;> rfl), by first | exact Kd.R_nil _ _ _ _ _ | exact Kd.N_nil _ _ _ _ _ | exact Kd.V_nil _ _ _ _ _ | exact Kd.Q_nil _ _ _ _ _ | exact Kd.S_nil _ _ _ _ _, bw_⟩
 ·rw [if_neg c3] at H
  have b0 : decide (a0 < 0) = false := decide_eq_false c3; clear c3
  by_cases c6 : a1 > (l1.length : Int)
  ·rw [if_pos c6] at H
   have b1 : decide ((l1.length : Int) < a1) = true := decide_eq_true c6; clear c6; obtain rfl := Option.some.inj H
   go_enter Try.func129, Try.ntmps129
   go_wp2_with (first | ((with_reducible refine Zd (N := 2) rfl ?_); (try (refine Xq (by rfl) ?_; dsimp only)); refine Zc ?hg (N := 2) ?hd (cs := #[.int .i64 a0, .int .i64 a1]) (t := 76) ?hr ?_; (case hd => rfl); (case hg => rfl); (case hr => first | (go_simp; done) | (go_simp; rfl)); intro a3 hg w7 hbox hb; have n0_ := Qa.mk (Qj bw_ hb); have n1_ := Qa.mk (hbox); have n2_ := Qa.mk ((gw_ hg : w.heap.size ≤ a3)); have n3_ := Qa.mk ((gw_ hg : w.heap.size ≤ a3)); clear HB; have HB := n0_; have a2 := n1_; have a5 := n2_; have GE101 := n3_; clear n0_ n1_ n2_ n3_; clear hb hbox hg; obtain ⟨d7, d8⟩ := Qfn a2.out; obtain ⟨d9, e0⟩ := Qdh a2.out)); go_ret; exact ⟨_, by first | rfl | (simp [Qt, Qu] <;> rfl) | (simp [*, Qt, Qu] <;> rfl), by first | exact Kd.R_nil _ _ _ _ _ | exact Kd.N_nil _ _ _ _ _ | exact Kd.V_nil _ _ _ _ _ | exact Kd.Q_nil _ _ _ _ _ | exact Kd.S_nil _ _ _ _ _, bw_⟩
  ·rw [if_neg c6] at H
   have b1 : decide ((l1.length : Int) < a1) = false := decide_eq_false c6; clear c6
   by_cases c9 : a1 < a0
   ·rw [if_pos c9] at H
    have b2 : decide (a1 < a0) = true := decide_eq_true c9; clear c9; obtain rfl := Option.some.inj H
    go_enter Try.func129, Try.ntmps129
    go_wp2_with (first | ((with_reducible refine Zd (N := 2) rfl ?_); (try (refine Xq (by rfl) ?_; dsimp only)); refine Zc ?hg (N := 2) ?hd (cs := #[.int .i64 a0, .int .i64 a1]) (t := 76) ?hr ?_; (case hd => rfl); (case hg => rfl); (case hr => first | (go_simp; done) | (go_simp; rfl)); intro a3 hg w10 hbox hb; have n0_ := Qa.mk (Qj bw_ hb); have n1_ := Qa.mk (hbox); have n2_ := Qa.mk ((gw_ hg : w.heap.size ≤ a3)); have n3_ := Qa.mk ((gw_ hg : w.heap.size ≤ a3)); clear HB; have HB := n0_; have a2 := n1_; have a5 := n2_; have GE101 := n3_; clear n0_ n1_ n2_ n3_; clear hb hbox hg; obtain ⟨b3, b4⟩ := Qfn a2.out; obtain ⟨b5, b6⟩ := Qdh a2.out)); go_ret; exact ⟨_, by first | rfl | (simp [Qt, Qu] <;> rfl) | (simp [*, Qt, Qu] <;> rfl), by first | exact Kd.R_nil _ _ _ _ _ | exact Kd.N_nil _ _ _ _ _ | exact Kd.V_nil _ _ _ _ _ | exact Kd.Q_nil _ _ _ _ _ | exact Kd.S_nil _ _ _ _ _, bw_⟩
   ·rw [if_neg c9] at H
    have b2 : decide (a1 < a0) = false := decide_eq_false c9; clear c9
    by_cases c12 : 0 ≤ a0
    ·rw [if_pos c12] at H
     have e1 := eq_true c12; have e2 : decide (0 ≤ a0) = true := decide_eq_true c12; clear c12
     by_cases c13 : a0 ≤ a1
     ·rw [if_pos c13] at H
      have e3 := eq_true c13; have e4 : decide (a0 ≤ a1) = true := decide_eq_true c13; clear c13
      by_cases c14 : a1 ≤ (l1.length : Int)
      ·rw [if_pos c14] at H
       have e5 := eq_true c14; have e6 : decide (a1 ≤ (l1.length : Int)) = true := decide_eq_true c14; clear c14; replace H := Option.bind_eq_some_iff.mp H; obtain ⟨a4, a6, H⟩ := H; replace H : (some a4) = some r := H; have A15 := Qa.mk a6; clear a6; obtain rfl := Option.some.inj H
       go_enter Try.func129, Try.ntmps129
       go_wp2_with (first | ((with_reducible refine Zd (N := 2) rfl ?_); (try (refine Xq (by rfl) ?_; dsimp only)); refine Zc ?hg (N := 2) ?hd (cs := #[.int .i64 a0, .int .i64 a1]) (t := 76) ?hr ?_; (case hd => rfl); (case hg => rfl); (case hr => first | (go_simp; done) | (go_simp; rfl)); intro a3 hg w16 hbox hb; have n0_ := Qa.mk (Qj bw_ hb); have n1_ := Qa.mk (hbox); have n2_ := Qa.mk ((gw_ hg : w.heap.size ≤ a3)); have n3_ := Qa.mk ((gw_ hg : w.heap.size ≤ a3)); clear HB; have HB := n0_; have a2 := n1_; have a5 := n2_; have GE101 := n3_; clear n0_ n1_ n2_ n3_; clear hb hbox hg; obtain ⟨b7, b8⟩ := Qfn a2.out; obtain ⟨b9, d0⟩ := Qdh a2.out; obtain ⟨i018, hi018, _, hsz18, _⟩ := info_parts Ko; obtain ⟨A18, hcut18, hA18, hC18⟩ := Qed (P := Try.prog) Value.string (⟨#[]⟩ : ByteArray) 27 9 .i64 .i64 Try.underlying27 hi018 hsz18 A1 c1 l1 a0 a1 (of_decide_eq_true Zx) (by first | omega | exact of_decide_eq_true Zx) (of_decide_eq_true Zx) HC1.out; have a7 := Qa.mk (Kd.C_of_reads (h1 := fun _ => rfl) (hA18 _ (Kd.reads_of_C HR1.out))); have a8 := Qa.mk hC18; clear hA18 hC18 hi018 hsz18) | ((with_reducible refine Xo (f := 127) rfl ?_); refine Vb (some 28) rfl rfl Try.func127 (by kernel_rfl) rfl #[.slice A18 ((l1.take (a1 : Int).toNat).drop (a0 : Int).toNat).length (c1 - a0.toNat)] rfl (by (try simp only [List.map_toArray, List.map_cons, List.map_nil]); first | done | (rw [show ((l1.take (a1 : Int).toNat).drop (a0 : Int).toNat).length = (a1.toNat - a0.toNat) from (by rw [List.length_drop, List.length_take]; have h_ : (a1 : Int) ≤ (l1.length : Int) := of_decide_eq_true Zx; omega)] <;> rfl) | rfl | (simp only [List.length_drop, List.length_take]; rfl)) ?_; (with_reducible refine (Xw.calls k _ _ ((l1.take (a1 : Int).toNat).drop (a0 : Int).toNat) a4 _ ?side1 ?side2 A15.out).mono ?_); (case side1 => repeat (first | exact (Kd.C_below a7.out HB.out) | (with_reducible refine Kd.C_alloc ?_ _) | (with_reducible refine Kd.C_drewN ?_ _) | (with_reducible refine Kd.C_drew ?_))); (case side2 => exact a8.out); rintro e w19 ⟨e7, rfl, ho0, hb⟩; refine ⟨_, rfl, ?_⟩; have n0_ := Qa.mk (Kd.R_lower ho0 (Qo bw_)); have n1_ := Qa.mk (Qq (g := a3) (o := .cells #[.int .i64 a0, .int .i64 a1] 76 (0, 0)) (bk_ a2.out) hb); have n2_ := Qa.mk (Qj bw_ hb); clear a2; clear HB; have a9 := n0_; have a2 := n1_; have HB := n2_; clear n0_ n1_ n2_; (try clear hb); (try clear hb2); (try clear hk); (try clear hi); (try clear ho0))); go_ret; exact ⟨_, by first | rfl | (simp [Qt, Qu] <;> rfl) | (simp [*, Qt, Qu] <;> rfl), ro_ a9.out, bw_⟩
      ·rw [if_neg c14] at H
       exact absurd H (by simp)
     ·rw [if_neg c13] at H
      exact absurd H (by simp)
    ·rw [if_neg c12] at H
     exact absurd H (by simp)
def Zk.l0 : Nat → List ByteArray → List ByteArray → Int → Int → Option (Bool)
 | 0, _, _, _, _ => none
 | k + 1, x0, x1, x12, x13 => if x13 < x12 then (if 0 ≤ x13 then (if x13 < (x0.length : Int) then (if x13 < (x1.length : Int) then (if (Ye ByteArray.empty x0 x13).toList = (Ye ByteArray.empty x1 x13).toList then (Zk.l0 k x0 x1 x12 (wrap64 (x13 + 1))) else (some false)) else (none)) else (none)) else (none)) else (some true)
def Zk.f (k : Nat) (l0 : List ByteArray) (l1 : List ByteArray) : Option (Bool) := if (l0.length : Int) = (l1.length : Int) then (Zk.l0 k l0 l1 (l0.length : Int) 0) else (some false)
set_option maxHeartbeats 8000000 in
set_option maxRecDepth 100000 in
theorem Zk.calls (k : Nat) (A0 : Option Addr) (c0 : Nat) (l0 : List ByteArray) (A1 : Option Addr) (c1 : Nat) (l1 : List ByteArray) (r : Bool) (w : World) (hr0 : Kd.C Kd.string w A0 l0.length l0) (hc0 : l0.length ≤ c0) (hr1 : Kd.C Kd.string w A1 l1.length l1) (hc1 : l1.length ≤ c1) (h : Zk.f k l0 l1 = some r) :
  Calls Try.prog 83 #[.slice A0 l0.length c0, .slice A1 l1.length c1] w fun e w' => e = .returned (.bool r) ∧ Zl w w' := by
 have HR0 := Qa.mk hr0; have HC0 := Qa.mk hc0; clear hr0 hc0; have HR1 := Qa.mk hr1; have HC1 := Qa.mk hc1; clear hr1 hc1; have H : (if (l0.length : Int) = (l1.length : Int) then (Zk.l0 k l0 l1 (l0.length : Int) 0) else (some false)) = some r := h; clear h
 by_cases c3 : (l0.length : Int) = (l1.length : Int)
 ·rw [if_pos c3] at H
  have a9 : ((l0.length : Int) == (l1.length : Int)) = true := beq_iff_eq.mpr c3; have b0 : ((l0.length : Int) != (l1.length : Int)) = false := bne_eq_false_iff_eq.mpr c3
  have b1 : (l0.length == l1.length) = true := by first | simpa using c3 | (simp at c3 ⊢; omega)
  clear c3; have H' := Qa.mk H; clear H
  go_enter Try.func83, Try.ntmps83
  go_wp2
  repeat (go_quiet (fail); try go_wp2)
  go_loopg [13] k (fun kq v13 w' => ∃ (a0 : Int), v13 = .int .i64 a0 ∧ Qa (Zk.l0 kq l0 l1 (l0.length : Int) a0 = some r) ∧ Qa (kq ≤ k) ∧ Zl w w')
  case atStart => exact ⟨(0), sm_, H', ⟨Nat.le_refl _⟩, by repeat (first | exact Zl.refl _ | apply Zl.step)⟩
  case round =>
   clear H'
   try clear c1
   try clear p2
   try clear c3
   try clear a9
   try clear b0
   try clear b1
   obtain ⟨a0, rfl, HA, HK1, ⟨m1, rfl⟩⟩ := hrel
   cases gk with
   | zero => exact absurd HA.out (by simp [Zk.l0])
   | succ k1 =>
    have H := HA.out; clear HA
    simp only [Zk.l0] at H
    by_cases c4 : a0 < (l0.length : Int)
    ·rw [if_pos c4] at H
     have b4 : decide (a0 < (l0.length : Int)) = true := decide_eq_true c4; clear c4
     by_cases c5 : 0 ≤ a0
     ·rw [if_pos c5] at H
      have b7 : decide (0 ≤ a0) = true := decide_eq_true c5; clear c5
      by_cases c6 : a0 < (l0.length : Int)
      ·rw [if_pos c6] at H
       have b8 : decide (a0 < (l0.length : Int)) = true := decide_eq_true c6; clear c6
       by_cases c7 : a0 < (l1.length : Int)
       ·rw [if_pos c7] at H
        have b9 : decide (a0 < (l1.length : Int)) = true := decide_eq_true c7; clear c7
        by_cases c8 : (Ye ByteArray.empty l0 a0).toList = (Ye ByteArray.empty l1 a0).toList
        ·rw [if_pos c8] at H
         have b5 : ((Ye ByteArray.empty l0 a0).toList == (Ye ByteArray.empty l1 a0).toList) = true := beq_iff_eq.mpr c8; have b6 : ((Ye ByteArray.empty l0 a0).toList != (Ye ByteArray.empty l1 a0).toList) = false := bne_eq_false_iff_eq.mpr c8; clear c8; have H' := Qa.mk H; clear H; have a1 : 0 ≤ (a0 : Int) := of_decide_eq_true Zx; have a2 : a0 < (l0.length : Int) := of_decide_eq_true Zx; obtain ⟨b2, a5, a7⟩ := Kd.at_string HR0.out a0 a1 a2
         cases a5; replace a1 := eq_true a1; replace a2 := eq_true a2; have a3 : 0 ≤ (a0 : Int) := of_decide_eq_true Zx; have a4 : a0 < (l1.length : Int) := of_decide_eq_true Zx; obtain ⟨b3, a6, a8⟩ := Kd.at_string HR1.out a0 a3 a4
         cases a6; replace a3 := eq_true a3; replace a4 := eq_true a4
         go_wp2
         repeat (go_quiet (fail); try go_wp2)
         go_roundg k1
         case measure => have := HK1.out; omega
         case rel => exact ⟨(wrap64 (a0 + 1)), sm_, H', ⟨by have := HK1.out; omega⟩, by repeat (first | exact Zl.refl _ | apply Zl.step)⟩
        ·rw [if_neg c8] at H
         have b5 : ((Ye ByteArray.empty l0 a0).toList == (Ye ByteArray.empty l1 a0).toList) = false := beq_eq_false_iff_ne.mpr c8; have b6 : ((Ye ByteArray.empty l0 a0).toList != (Ye ByteArray.empty l1 a0).toList) = true := bne_iff_ne.mpr c8; obtain rfl := Option.some.inj H; have a1 : 0 ≤ (a0 : Int) := of_decide_eq_true Zx; have a2 : a0 < (l0.length : Int) := of_decide_eq_true Zx; obtain ⟨b2, a5, a7⟩ := Kd.at_string HR0.out a0 a1 a2
         cases a5; replace a1 := eq_true a1; replace a2 := eq_true a2; have a3 : 0 ≤ (a0 : Int) := of_decide_eq_true Zx; have a4 : a0 < (l1.length : Int) := of_decide_eq_true Zx; obtain ⟨b3, a6, a8⟩ := Kd.at_string HR1.out a0 a3 a4
         cases a6; replace a3 := eq_true a3; replace a4 := eq_true a4
         go_wp2
         repeat (go_quiet (fail); try go_wp2)
         go_ret; exact ⟨sm_, by repeat (first | exact Zl.refl _ | apply Zl.step)⟩
       ·rw [if_neg c7] at H
        exact absurd H (by simp)
      ·rw [if_neg c6] at H
       exact absurd H (by simp)
     ·rw [if_neg c5] at H
      exact absurd H (by simp)
    ·rw [if_neg c4] at H
     have b4 : decide (a0 < (l0.length : Int)) = false := decide_eq_false c4; clear c4; obtain rfl := Option.some.inj H
     go_wp2
     repeat (go_quiet (fail); try go_wp2)
     go_ret; exact ⟨sm_, by repeat (first | exact Zl.refl _ | apply Zl.step)⟩
 ·rw [if_neg c3] at H
  have a9 : ((l0.length : Int) == (l1.length : Int)) = false := beq_eq_false_iff_ne.mpr c3; have b0 : ((l0.length : Int) != (l1.length : Int)) = true := bne_iff_ne.mpr c3
  have b1 : (l0.length == l1.length) = false := by first | simpa using c3 | (simp at c3 ⊢; omega)
  obtain rfl := Option.some.inj H
  go_enter Try.func83, Try.ntmps83
  go_wp2
  repeat (go_quiet (fail); try go_wp2)
  go_ret; exact ⟨sm_, by repeat (first | exact Zl.refl _ | apply Zl.step)⟩
def Yy.f (k : Nat) (l0 : List ByteArray) (l1 : List ByteArray) : Option (Bool) := (Zk.f k l0 l1).bind fun a0 => (some a0)
set_option maxHeartbeats 8000000 in
set_option maxRecDepth 100000 in
theorem Yy.calls (k : Nat) (A0 : Option Addr) (c0 : Nat) (l0 : List ByteArray) (A1 : Option Addr) (c1 : Nat) (l1 : List ByteArray) (r : Bool) (w : World) (hr0 : Kd.C Kd.string w A0 l0.length l0) (hc0 : l0.length ≤ c0) (hr1 : Kd.C Kd.string w A1 l1.length l1) (hc1 : l1.length ≤ c1) (h : Yy.f k l0 l1 = some r) :
  Calls Try.prog 24 #[.slice A0 l0.length c0, .slice A1 l1.length c1] w fun e w' => e = .returned (.bool r) ∧ Zl w w' := by
 have HR0 := Qa.mk hr0; have HC0 := Qa.mk hc0; clear hr0 hc0; have HR1 := Qa.mk hr1; have HC1 := Qa.mk hc1; clear hr1 hc1; have H : ((Zk.f k l0 l1).bind fun a0 => (some a0)) = some r := h; clear h; replace H := Option.bind_eq_some_iff.mp H; obtain ⟨a0, A30, H⟩ := H; replace H : (some a0) = some r := H; have A3 := Qa.mk A30; clear A30; obtain rfl := Option.some.inj H
 go_enter Try.func24, Try.ntmps24
 go_wp2_with (first | ((with_reducible refine Xo (f := 83) rfl ?_); refine Vb (some 7) rfl rfl Try.func83 (by kernel_rfl) rfl #[.slice A0 l0.length c0, .slice A1 l1.length c1] rfl (by (try simp only [List.map_toArray, List.map_cons, List.map_nil]); first | done | rfl | (simp only [List.length_drop, List.length_take]; rfl)) ?_; (with_reducible refine (Zk.calls k _ _ l0 _ _ l1 a0 _ ?side1 ?side2 ?side3 ?side4 A3.out).mono ?_); (case side1 => repeat (first | exact HR0.out | (with_reducible refine Kd.C_alloc ?_ _) | (with_reducible refine Kd.C_drewN ?_ _) | (with_reducible refine Kd.C_drew ?_))); (case side2 => exact HC0.out); (case side3 => repeat (first | exact HR1.out | (with_reducible refine Kd.C_alloc ?_ _) | (with_reducible refine Kd.C_drewN ?_ _) | (with_reducible refine Kd.C_drew ?_))); (case side4 => exact HC1.out); rintro e w' ⟨rfl, ⟨nd, rfl⟩⟩; refine ⟨_, rfl, ?_⟩)); go_ret; exact ⟨sm_, by repeat (first | exact Zl.refl _ | apply Zl.step)⟩
def Xr.f (k : Nat) (b0 : Bool) (b1 : Int) (b2 : Int) (b3 : Int) (b4 : Int) (b5 : Int) (b6 : Int) (l1 : List ByteArray) (l2 : List ByteArray) (l3 : List ByteArray) : Option (Int) := (Xs.f k b1 b2 l1).bind fun a7 => ((Xs.f k b3 b4 l2).bind fun a8 => ((Xs.f k b5 b6 l3).bind fun a9 => (if b0 = true then (some 0) else ((Yy.f k a7 a8).bind fun b7 => (if b7 = true then (some 2) else ((Yy.f k a7 a9).bind fun b8 => (if b8 = true then (some 1) else ((Yy.f k a8 a9).bind fun b9 => (if b9 = true then (some 3) else (some 4))))))))))
def Xr.T1 : Bool × List (List Nat × List Nat) := (true, [([], []), ([0], [0]), ([], []), ([1, 2], [1, 2]), ([], []), ([4], [4]), ([], []), ([5, 6, 3], [5, 6]), ([], []), ([8], [8]), ([], []), ([9, 10, 7], [9, 10]), ([3, 11, 0, 1, 2, 3], [3]), ([7, 12, 0, 1, 2, 3, 4, 5, 6, 7, 12], [7]), ([11, 13, 0, 1, 2, 3, 4, 5, 6, 7, 8, 9, 10, 11, 12, 13], [11])])
def Xr.B1 : List Nat := [0, 1, 0, 7, 0, 16, 0, 127, 0, 256, 0, 2047, 4095, 8191, 16383]
theorem Xr.tab1 : Vx .any (Jb Try.f96 1) = Xr.T1 := by kernel_rfl
theorem Xr.bits1 : Vk Xr.T1.2 Xr.B1 = true := by kernel_rfl
set_option maxHeartbeats 8000000 in
set_option maxRecDepth 100000 in
theorem Xr.calls (k : Nat) (a0 : Bool) (a1 : Int) (a2 : Int) (a3 : Int) (a4 : Int) (a5 : Int) (a6 : Int) (A1 : Option Addr) (c1 : Nat) (l1 : List ByteArray) (A2 : Option Addr) (c2 : Nat) (l2 : List ByteArray) (A3 : Option Addr) (c3 : Nat) (l3 : List ByteArray) (r : Int) (w : World) (hr1 : Kd.C Kd.string w A1 l1.length l1) (hc1 : l1.length ≤ c1) (hr2 : Kd.C Kd.string w A2 l2.length l2) (hc2 : l2.length ≤ c2) (hr3 : Kd.C Kd.string w A3 l3.length l3) (hc3 : l3.length ≤ c3) (h : Xr.f k a0 a1 a2 a3 a4 a5 a6 l1 l2 l3 = some r) :
  Calls Try.prog 96 #[.agg #[.bool a0, .int .i64 a1, .int .i64 a2, .int .i64 a3, .int .i64 a4, .int .i64 a5, .int .i64 a6], .slice A1 l1.length c1, .slice A2 l2.length c2, .slice A3 l3.length c3] w fun e w' => e = .returned (.int .i64 r) ∧ Below w.heap.size w w' := by
 have hu78 := Try.underlying78; have hu76 := Try.underlying76; have K1 := Qa.mk hr1; have K2 := Qa.mk hr2; have K3 := Qa.mk hr3; have HC1 := Qa.mk hc1; have HC2 := Qa.mk hc2; have HC3 := Qa.mk hc3; clear hr1 hc1 hr2 hc2 hr3 hc3; have H0 := h
 unfold Xr.f at h
 replace h := Option.bind_eq_some_iff.1 h; obtain ⟨x, hx, h⟩ := h; replace h := Option.bind_eq_some_iff.1 h; obtain ⟨y, hy, h⟩ := h; replace h := Option.bind_eq_some_iff.1 h; obtain ⟨z, hz, h⟩ := h; have X1 := Qa.mk hx; have X2 := Qa.mk hy; have X3 := Qa.mk hz; clear hx hy hz H0; have H := Qa.mk h; clear h
 go_enter Try.func96, Try.ntmps96
 go_wp2_with ((with_reducible refine Zd (N := 4) rfl ?_); refine Zc ?hg (N := 4) ?hd (cs := #[.bool a0, .int .i64 a1, .int .i64 a2, .int .i64 a3, .int .i64 a4, .int .i64 a5, .int .i64 a6]) (t := 78) ?hr ?_; (case hd => rfl); (case hg => rfl); (case hr => first | (go_simp; done) | (go_simp; rfl)); intro gb hg w1 hbox hb; have BK := Qa.mk hbox; have HB := Qa.mk hb; replace K1 := Qa.mk (Kd.C_below K1.out hb); replace K2 := Qa.mk (Kd.C_below K2.out hb); replace K3 := Qa.mk (Kd.C_below K3.out hb); clear hg hbox hb); refine Ug (n := 15) (S := fun w' => w'.cell? ⟨gb, 0, none⟩ = some (.bool a0) ∧ w'.cell? ⟨gb, 1, none⟩ = some (.int .i64 a1) ∧ w'.cell? ⟨gb, 2, none⟩ = some (.int .i64 a2) ∧ w'.cell? ⟨gb, 3, none⟩ = some (.int .i64 a3) ∧ w'.cell? ⟨gb, 4, none⟩ = some (.int .i64 a4) ∧ w'.cell? ⟨gb, 5, none⟩ = some (.int .i64 a5) ∧ w'.cell? ⟨gb, 6, none⟩ = some (.int .i64 a6)) (ds := []) (bz_ 15 0) (by kernel_rfl) rfl rfl (Qbv BK.out) (fun hHeld => ?_); refine Va Xr.tab1 Xr.bits1 (fun HT_ HW_ => ?_); replace K1 := Qa.mk (Kd.C_drew K1.out); replace K2 := Qa.mk (Kd.C_drew K2.out); replace K3 := Qa.mk (Kd.C_drew K3.out); replace BK := Qa.mk (Qp BK.out); replace HB := Qa.mk (Qi HB.out)
 generalize w1.drew = wd at K1 K2 K3 BK HB hHeld ⊢
 refine pu_ (i := 0) (N := some 12) #[true, false, false, false, false, false, false, false, false, false, false, false, false, false, false] ?_; refine pu_ (i := 2) (N := some 14) #[true, false, true, false, false, false, false, false, false, false, false, false, false, false, false] ?_; refine pu_ (i := 4) (N := some 16) #[true, false, true, false, true, false, false, false, false, false, false, false, false, false, false] ?_; refine pu_ (i := 6) (N := some 18) #[true, false, true, false, true, false, true, false, false, false, false, false, false, false, false] ?_; refine pu_ (i := 8) (N := some 20) #[true, false, true, false, true, false, true, false, true, false, false, false, false, false, false] ?_; refine pu_ (i := 10) (N := some 22) #[true, false, true, false, true, false, true, false, true, false, true, false, false, false, false] ?_; refine ta_ (i := 1) (N := some 13) #[true, true, true, false, true, false, true, false, true, false, true, false, false, false, false] ?_; refine ta_ (i := 5) (N := some 17) #[true, true, true, false, true, true, true, false, true, false, true, false, false, false, false] ?_; refine ta_ (i := 9) (N := some 21) #[true, true, true, false, true, true, true, false, true, true, true, false, false, false, false] ?_; refine on_ (i := 3) (N := some 15) #[true, true, true, true, true, true, true, false, true, true, true, false, false, false, false] (fun K hK => ?_); refine Vr Try.func129 (by kernel_rfl) rfl #[.agg #[.int .i64 a1, .int .i64 a2], .slice A1 l1.length c1] (by rfl) rfl rfl (by (try simp only [List.map_toArray, List.map_cons, List.map_nil]); first | done | rfl) ?_; refine (Xs.calls k a1 a2 A1 c1 l1 x _ K1.out HC1.out X1.out).mono ?_; rintro e w2 ⟨v0_, rfl, hR, hb⟩; obtain ⟨B1, d1, rfl, hd, hC⟩ := Kd.R_reads hR; have E1 := Qa.mk hC; have D1 := Qa.mk hd; replace K1 := Qa.mk (Kd.C_below K1.out hb); replace K2 := Qa.mk (Kd.C_below K2.out hb); replace K3 := Qa.mk (Kd.C_below K3.out hb); replace BK := Qa.mk (Qq BK.out hb); replace HB := Qa.mk (Qj HB.out hb); refine ⟨_, rfl, ?_⟩; clear hC hd hb hR hHeld; refine hK.out _ _ (Qbv BK.out) (fun hHeld => ?_); clear hK K; refine nN_ 15 ?_; refine on_ (i := 7) (N := some 19) #[true, true, true, true, true, true, true, true, true, true, true, false, false, false, false] (fun K hK => ?_); refine Vr Try.func129 (by kernel_rfl) rfl #[.agg #[.int .i64 a3, .int .i64 a4], .slice A2 l2.length c2] (by rfl) rfl rfl (by (try simp only [List.map_toArray, List.map_cons, List.map_nil]); first | done | rfl) ?_; refine (Xs.calls k a3 a4 A2 c2 l2 y _ K2.out HC2.out X2.out).mono ?_; rintro e w3 ⟨v0_, rfl, hR, hb⟩; obtain ⟨B2, d2, rfl, hd, hC⟩ := Kd.R_reads hR; have E2 := Qa.mk hC; have D2 := Qa.mk hd; replace K1 := Qa.mk (Kd.C_below K1.out hb); replace K2 := Qa.mk (Kd.C_below K2.out hb); replace K3 := Qa.mk (Kd.C_below K3.out hb); replace E1 := Qa.mk (Kd.C_below E1.out hb); replace BK := Qa.mk (Qq BK.out hb); replace HB := Qa.mk (Qj HB.out hb); refine ⟨_, rfl, ?_⟩; clear hC hd hb hR hHeld; refine hK.out _ _ (Qbv BK.out) (fun hHeld => ?_); clear hK K; refine nN_ 19 ?_; refine on_ (i := 11) (N := some 23) #[true, true, true, true, true, true, true, true, true, true, true, true, false, false, false] (fun K hK => ?_); refine Vr Try.func129 (by kernel_rfl) rfl #[.agg #[.int .i64 a5, .int .i64 a6], .slice A3 l3.length c3] (by rfl) rfl rfl (by (try simp only [List.map_toArray, List.map_cons, List.map_nil]); first | done | rfl) ?_; refine (Xs.calls k a5 a6 A3 c3 l3 z _ K3.out HC3.out X3.out).mono ?_; rintro e w4 ⟨v0_, rfl, hR, hb⟩; obtain ⟨B3, d3, rfl, hd, hC⟩ := Kd.R_reads hR; have E3 := Qa.mk hC; have D3 := Qa.mk hd; replace K1 := Qa.mk (Kd.C_below K1.out hb); replace K2 := Qa.mk (Kd.C_below K2.out hb); replace K3 := Qa.mk (Kd.C_below K3.out hb); replace E1 := Qa.mk (Kd.C_below E1.out hb); replace E2 := Qa.mk (Kd.C_below E2.out hb); replace BK := Qa.mk (Qq BK.out hb); replace HB := Qa.mk (Qj HB.out hb); refine ⟨_, rfl, ?_⟩; clear hC hd hb hR hHeld; refine hK.out _ _ (Qbv BK.out) (fun hHeld => ?_); clear hK K; refine nN_ 23 ?_; refine pu_ (i := 12) (N := some 9) #[true, true, true, true, true, true, true, true, true, true, true, true, true, false, false] ?_; refine pu_ (i := 13) (N := some 10) #[true, true, true, true, true, true, true, true, true, true, true, true, true, true, false] ?_; refine pu_ (i := 14) (N := some 11) #[true, true, true, true, true, true, true, true, true, true, true, true, true, true, true] ?_; refine Ki (Vq HT_.out (by kernel_rfl)) ?_; clear hHeld K1 K2 K3 X1 X2 X3; have z0 : w4.cell? ⟨gb, 0, none⟩ = some (.bool a0) := (Qc BK.out 0).trans rfl; have hh := H.out; clear H
 cases a0 with
 | true =>
  rw [if_pos rfl] at hh
  obtain rfl := Option.some.inj hh; go_wp2_with fail; go_ret; exact ⟨by first | rfl | (simp; done), HB.out⟩
 | false =>
  rw [if_neg (by decide)] at hh
  replace hh := Option.bind_eq_some_iff.1 hh; obtain ⟨t, ht, hh⟩ := hh; have G := Qa.mk ht; have HH := Qa.mk hh; clear ht hh; go_wp2_with fail; refine (Yy.calls k B1 d1 x B2 d2 y _ _ E1.out D1.out E2.out D2.out G.out).mono ?_; rintro e w5 ⟨rfl, hD⟩; have hb := Zl.below hD; replace HB := Qa.mk (Qj HB.out hb); replace E1 := Qa.mk (Kd.C_below E1.out hb); replace E2 := Qa.mk (Kd.C_below E2.out hb); replace E3 := Qa.mk (Kd.C_below E3.out hb); clear hb hD G; have hh := HH.out; clear HH
  cases t with
  | true =>
   rw [if_pos rfl] at hh
   obtain rfl := Option.some.inj hh; go_wp2_with fail; go_ret; exact ⟨by first | rfl | (simp; done), HB.out⟩
  | false =>
   rw [if_neg (by decide)] at hh
   replace hh := Option.bind_eq_some_iff.1 hh; obtain ⟨t, ht, hh⟩ := hh; have G := Qa.mk ht; have HH := Qa.mk hh; clear ht hh; go_wp2_with fail; refine (Yy.calls k B1 d1 x B3 d3 z _ _ E1.out D1.out E3.out D3.out G.out).mono ?_; rintro e w6 ⟨rfl, hD⟩; have hb := Zl.below hD; replace HB := Qa.mk (Qj HB.out hb); replace E1 := Qa.mk (Kd.C_below E1.out hb); replace E2 := Qa.mk (Kd.C_below E2.out hb); replace E3 := Qa.mk (Kd.C_below E3.out hb); clear hb hD G; have hh := HH.out; clear HH
   cases t with
   | true =>
    rw [if_pos rfl] at hh
    obtain rfl := Option.some.inj hh; go_wp2_with fail; go_ret; exact ⟨by first | rfl | (simp; done), HB.out⟩
   | false =>
    rw [if_neg (by decide)] at hh
    replace hh := Option.bind_eq_some_iff.1 hh; obtain ⟨t, ht, hh⟩ := hh; have G := Qa.mk ht; have HH := Qa.mk hh; clear ht hh; go_wp2_with fail; refine (Yy.calls k B2 d2 y B3 d3 z _ _ E2.out D2.out E3.out D3.out G.out).mono ?_; rintro e w7 ⟨rfl, hD⟩; have hb := Zl.below hD; replace HB := Qa.mk (Qj HB.out hb); replace E1 := Qa.mk (Kd.C_below E1.out hb); replace E2 := Qa.mk (Kd.C_below E2.out hb); replace E3 := Qa.mk (Kd.C_below E3.out hb); clear hb hD G; have hh := HH.out; clear HH
    cases t with
    | true =>
     rw [if_pos rfl] at hh
     obtain rfl := Option.some.inj hh; go_wp2_with fail; go_ret; exact ⟨by first | rfl | (simp; done), HB.out⟩
    | false =>
     rw [if_neg (by decide)] at hh
     obtain rfl := Option.some.inj hh; go_wp2_with fail; go_ret; exact ⟨by first | rfl | (simp; done), HB.out⟩
def Xn.f (k : Nat) (b5 : List ByteArray) (b4 : List ByteArray) (b3 : List ByteArray) (b1 : Bool) (a6 : Int) (a7 : Int) (a8 : Int) (a9 : Int) (b0 : Int) (b2 : Int) : Option (Bool × Int × Int × Int × Int × Int × Int × List ByteArray × List ByteArray × List ByteArray × Int) := (Xs.f k a6 a7 b5).bind fun d3 => ((Xs.f k a8 a9 b4).bind fun d4 => ((Xs.f k b0 b2 b3).bind fun d5 => ((Xr.f k b1 a6 a7 a8 a9 b0 b2 b5 b4 b3).bind fun d6 => (some (b1, a6, a7, a8, a9, b0, b2, d3, d4, d5, d6)))))
def Xn.T1 : Bool × List (List Nat × List Nat) := (true, [([], []), ([], []), ([1], [1]), ([], []), ([3], [3]), ([2, 4], [2, 4]), ([], []), ([6], [6]), ([], []), ([8], [8]), ([7, 9, 5], [7, 9]), ([], []), ([11], [11]), ([], []), ([13], [13]), ([12, 14, 10], [12, 14]), ([], []), ([], []), ([17], [17]), ([], []), ([19], [19]), ([], []), ([21], [21]), ([16, 18, 20, 22, 15], [16, 18, 20, 22]), ([0, 5, 10, 15, 23], [0, 5, 10, 15, 23]), ([24, 23, 0, 1, 2, 3, 4, 5, 6, 7, 8, 9, 10, 11, 12, 13, 14, 15, 16, 17, 18, 19, 20, 21, 22, 23, 24], [24])])
def Xn.B1 : List Nat := [0, 0, 2, 0, 8, 30, 0, 64, 0, 256, 1022, 0, 2048, 0, 8192, 32766, 0, 0, 131072, 0, 524288, 0, 2097152, 8388606, 16777215, 33554431]
theorem Xn.tab1 : Vx .any (Jb Try.f120 1) = Xn.T1 := by kernel_rfl
theorem Xn.bits1 : Vk Xn.T1.2 Xn.B1 = true := by kernel_rfl
set_option maxHeartbeats 8000000 in
set_option maxRecDepth 100000 in
theorem Xn.calls (k : Nat) (d7 : Option Addr) (d8 : Nat) (b5 : List ByteArray) (d9 : Option Addr) (e0 : Nat) (b4 : List ByteArray) (e1 : Option Addr) (e2 : Nat) (b3 : List ByteArray) (b1 : Bool) (a6 : Int) (a7 : Int) (a8 : Int) (a9 : Int) (b0 : Int) (b2 : Int) (r1 : Bool) (r2 : Int) (r3 : Int) (r4 : Int) (r5 : Int) (r6 : Int) (r7 : Int) (r8 : List ByteArray) (r9 : List ByteArray) (r10 : List ByteArray) (r11 : Int) (w : World) (hr0_0 : Kd.C Kd.string w d7 b5.length b5) (hc0_0 : b5.length ≤ d8) (hr0_1 : Kd.C Kd.string w d9 b4.length b4) (hc0_1 : b4.length ≤ e0) (hr0_2 : Kd.C Kd.string w e1 b3.length b3) (hc0_2 : b3.length ≤ e2) (h : Xn.f k b5 b4 b3 b1 a6 a7 a8 a9 b0 b2 = some (r1, r2, r3, r4, r5, r6, r7, r8, r9, r10, r11)) :
  Calls Try.prog 120 #[.agg #[.slice d7 b5.length d8, .slice d9 b4.length e0, .slice e1 b3.length e2], .agg #[.bool b1, .int .i64 a6, .int .i64 a7, .int .i64 a8, .int .i64 a9, .int .i64 b0, .int .i64 b2]] w fun e w' => ∃ v7_ v8_ v9_ : Value, e = .returned (.agg #[.bool r1, .int .i64 r2, .int .i64 r3, .int .i64 r4, .int .i64 r5, .int .i64 r6, .int .i64 r7, v7_, v8_, v9_, .int .i64 r11]) ∧ Kd.R Kd.string 9 w' w.heap.size (fun k_ => some k_ ≠ (v8_ : Value).ownBlock ∧ some k_ ≠ (v9_ : Value).ownBlock) v7_ r8 ∧ Kd.R Kd.string 9 w' w.heap.size (fun k_ => some k_ ≠ (v7_ : Value).ownBlock ∧ some k_ ≠ (v9_ : Value).ownBlock) v8_ r9 ∧ Kd.R Kd.string 9 w' w.heap.size (fun k_ => some k_ ≠ (v7_ : Value).ownBlock ∧ some k_ ≠ (v8_ : Value).ownBlock) v9_ r10 ∧ Below w.heap.size w w' := by
 have hu112 := Try.underlying112; have hu78 := Try.underlying78; have hu184 := Try.underlying184; have hu76 := Try.underlying76; have f1 := Qa.mk hr0_0; have f2 := Qa.mk hc0_0; clear hr0_0 hc0_0; have f3 := Qa.mk hr0_1; have f4 := Qa.mk hc0_1; clear hr0_1 hc0_1; have f5 := Qa.mk hr0_2; have f6 := Qa.mk hc0_2; clear hr0_2 hc0_2; have HB := Qa.mk (Below.refl w.heap.size w); have H : ((Xs.f k a6 a7 b5).bind fun d3 => ((Xs.f k a8 a9 b4).bind fun d4 => ((Xs.f k b0 b2 b3).bind fun d5 => ((Xr.f k b1 a6 a7 a8 a9 b0 b2 b5 b4 b3).bind fun d6 => (some (b1, a6, a7, a8, a9, b0, b2, d3, d4, d5, d6)))))) = some (r1, r2, r3, r4, r5, r6, r7, r8, r9, r10, r11) := h; clear h; replace H := Option.bind_eq_some_iff.mp H; obtain ⟨d3, A30, H⟩ := H; replace H : ((Xs.f k a8 a9 b4).bind fun d4 => ((Xs.f k b0 b2 b3).bind fun d5 => ((Xr.f k b1 a6 a7 a8 a9 b0 b2 b5 b4 b3).bind fun d6 => (some (b1, a6, a7, a8, a9, b0, b2, d3, d4, d5, d6))))) = some (r1, r2, r3, r4, r5, r6, r7, r8, r9, r10, r11) := H; have A3 := Qa.mk A30; clear A30; replace H := Option.bind_eq_some_iff.mp H; obtain ⟨d4, A40, H⟩ := H; replace H : ((Xs.f k b0 b2 b3).bind fun d5 => ((Xr.f k b1 a6 a7 a8 a9 b0 b2 b5 b4 b3).bind fun d6 => (some (b1, a6, a7, a8, a9, b0, b2, d3, d4, d5, d6)))) = some (r1, r2, r3, r4, r5, r6, r7, r8, r9, r10, r11) := H; have A4 := Qa.mk A40; clear A40; replace H := Option.bind_eq_some_iff.mp H; obtain ⟨d5, A50, H⟩ := H; replace H : ((Xr.f k b1 a6 a7 a8 a9 b0 b2 b5 b4 b3).bind fun d6 => (some (b1, a6, a7, a8, a9, b0, b2, d3, d4, d5, d6))) = some (r1, r2, r3, r4, r5, r6, r7, r8, r9, r10, r11) := H; have A5 := Qa.mk A50; clear A50; replace H := Option.bind_eq_some_iff.mp H; obtain ⟨d6, A60, H⟩ := H; replace H : (some (b1, a6, a7, a8, a9, b0, b2, d3, d4, d5, d6)) = some (r1, r2, r3, r4, r5, r6, r7, r8, r9, r10, r11) := H; have A6 := Qa.mk A60; clear A60
 simp only [Option.some.injEq, Prod.mk.injEq] at H
 obtain ⟨rfl, rfl, rfl, rfl, rfl, rfl, rfl, rfl, rfl, rfl, rfl⟩ := H
 go_enter Try.func120, Try.ntmps120
 try go_wp2_with (first | ((with_reducible refine Zd (N := 2) rfl ?_); refine Zc ?hg (N := 2) ?hd (cs := #[.slice d7 b5.length d8, .slice d9 b4.length e0, .slice e1 b3.length e2]) (t := 112) ?hr ?_; (case hd => rfl); (case hg => rfl); (case hr => first | (go_simp; done) | (go_simp; rfl)); intro b9 hg w7 hbox hb; have n0_ := Qa.mk (Qj bw_ hb); have n1_ := Qa.mk (hbox); have n2_ := Qa.mk ((gw_ hg : w.heap.size ≤ b9)); have n3_ := Qa.mk ((gw_ hg : w.heap.size ≤ b9)); clear HB; have HB := n0_; have a5 := n1_; have f9 := n2_; have GE101 := n3_; clear n0_ n1_ n2_ n3_; clear hb hbox hg) | ((with_reducible refine Zd (N := 3) rfl ?_); refine Zc ?hg (N := 3) ?hd (cs := #[.bool b1, .int .i64 a6, .int .i64 a7, .int .i64 a8, .int .i64 a9, .int .i64 b0, .int .i64 b2]) (t := 78) ?hr ?_; (case hd => rfl); (case hg => rfl); (case hr => first | (go_simp; done) | (go_simp; rfl)); intro b8 hg w8 hbox hb; have n0_ := Qa.mk (Qq (g := b9) (o := .cells #[.slice d7 b5.length d8, .slice d9 b4.length e0, .slice e1 b3.length e2] 112 (0, 0)) (bk_ a5.out) hb); have n1_ := Qa.mk (Qj bw_ hb); have n2_ := Qa.mk (hbox); have n3_ := Qa.mk ((gw_ hg : w.heap.size ≤ b8)); have n4_ := Qa.mk ((gw_ hg : w.heap.size ≤ b8)); have n5_ := Qa.mk ((by rw [hg]; exact Nat.ne_of_lt (Zu (g := b9) (o := .cells #[.slice d7 b5.length d8, .slice d9 b4.length e0, .slice e1 b3.length e2] 112 (0, 0)) (bk_ a5.out)) : b9 ≠ b8)); have n6_ := Qa.mk ((by rw [hg]; exact Nat.ne_of_gt (Zu (g := b9) (o := .cells #[.slice d7 b5.length d8, .slice d9 b4.length e0, .slice e1 b3.length e2] 112 (0, 0)) (bk_ a5.out)) : b8 ≠ b9)); clear a5; clear HB; have a5 := n0_; have HB := n1_; have a3 := n2_; have g0 := n3_; have GE102 := n4_; have f7 := n5_; have f8 := n6_; clear n0_ n1_ n2_ n3_ n4_ n5_ n6_; clear hb hbox hg) | ((with_reducible refine Zd (N := 4) rfl ?_); refine Zc ?hg (N := 4) ?hd (cs := #[.bool false, .int .i64 0, .int .i64 0, .int .i64 0, .int .i64 0, .int .i64 0, .int .i64 0, .slice none 0 0, .slice none 0 0, .slice none 0 0, .int .i64 0]) (t := 184) ?hr ?_; (case hd => rfl); (case hg => rfl); (case hr => first | (go_simp; done) | (go_simp; rfl)); intro a0 hg w9 hbox hb; have n0_ := Qa.mk (Qq (g := b9) (o := .cells #[.slice d7 b5.length d8, .slice d9 b4.length e0, .slice e1 b3.length e2] 112 (0, 0)) (bk_ a5.out) hb); have n1_ := Qa.mk (Qq (g := b8) (o := .cells #[.bool b1, .int .i64 a6, .int .i64 a7, .int .i64 a8, .int .i64 a9, .int .i64 b0, .int .i64 b2] 78 (0, 0)) (bk_ a3.out) hb); have n2_ := Qa.mk (Qj bw_ hb); have n3_ := Qa.mk (hbox); have n4_ := Qa.mk ((gw_ hg : w.heap.size ≤ a0)); have n5_ := Qa.mk ((gw_ hg : w.heap.size ≤ a0)); have n6_ := Qa.mk ((by rw [hg]; exact Nat.ne_of_lt (Zu (g := b9) (o := .cells #[.slice d7 b5.length d8, .slice d9 b4.length e0, .slice e1 b3.length e2] 112 (0, 0)) (bk_ a5.out)) : b9 ≠ a0)); have n7_ := Qa.mk ((by rw [hg]; exact Nat.ne_of_gt (Zu (g := b9) (o := .cells #[.slice d7 b5.length d8, .slice d9 b4.length e0, .slice e1 b3.length e2] 112 (0, 0)) (bk_ a5.out)) : a0 ≠ b9)); have n8_ := Qa.mk ((by rw [hg]; exact Nat.ne_of_lt (Zu (g := b8) (o := .cells #[.bool b1, .int .i64 a6, .int .i64 a7, .int .i64 a8, .int .i64 a9, .int .i64 b0, .int .i64 b2] 78 (0, 0)) (bk_ a3.out)) : b8 ≠ a0)); have n9_ := Qa.mk ((by rw [hg]; exact Nat.ne_of_gt (Zu (g := b8) (o := .cells #[.bool b1, .int .i64 a6, .int .i64 a7, .int .i64 a8, .int .i64 a9, .int .i64 b0, .int .i64 b2] 78 (0, 0)) (bk_ a3.out)) : a0 ≠ b8)); clear a5; clear a3; clear HB; have a5 := n0_; have a3 := n1_; have HB := n2_; have a4 := n3_; have g1 := n4_; have GE103 := n5_; have a2 := n6_; have b6 := n7_; have a1 := n8_; have b7 := n9_; clear n0_ n1_ n2_ n3_ n4_ n5_ n6_ n7_ n8_ n9_; clear hb hbox hg))
 have n0_ := Qa.mk (Qp a5.out); have n1_ := Qa.mk (Qp a3.out); have n2_ := Qa.mk (Qp a4.out); have n3_ := Qa.mk (Qi HB.out); clear a5; clear a3; clear a4; clear HB; have a5 := n0_; have a3 := n1_; have a4 := n2_; have HB := n3_; clear n0_ n1_ n2_ n3_; refine Ug (n := 26) (S := fun w' => w'.cell? ⟨b8, 0, none⟩ = some (.bool b1) ∧ w'.cell? ⟨b8, 1, none⟩ = some (.int .i64 a6) ∧ w'.cell? ⟨b8, 2, none⟩ = some (.int .i64 a7) ∧ w'.cell? ⟨b8, 3, none⟩ = some (.int .i64 a8) ∧ w'.cell? ⟨b8, 4, none⟩ = some (.int .i64 a9) ∧ w'.cell? ⟨b8, 5, none⟩ = some (.int .i64 b0) ∧ w'.cell? ⟨b8, 6, none⟩ = some (.int .i64 b2) ∧ w'.cell? ⟨b9, 0, none⟩ = some (.slice d7 b5.length d8) ∧ w'.cell? ⟨b9, 1, none⟩ = some (.slice d9 b4.length e0) ∧ w'.cell? ⟨b9, 2, none⟩ = some (.slice e1 b3.length e2)) (ds := []) (bz_ 26 0) (by kernel_rfl) rfl rfl ⟨(Qc a3.out 0).trans rfl, (Qc a3.out 1).trans rfl, (Qc a3.out 2).trans rfl, (Qc a3.out 3).trans rfl, (Qc a3.out 4).trans rfl, (Qc a3.out 5).trans rfl, (Qc a3.out 6).trans rfl, (Qc a5.out 0).trans rfl, (Qc a5.out 1).trans rfl, (Qc a5.out 2).trans rfl⟩ (fun hHeld => ?_); refine Va Xn.tab1 Xn.bits1 (fun HT_ HW_ => ?_)
 generalize w9.drew = w10 at a5 a3 a4 HB hHeld ⊢
 refine pu_ (i := 1) (N := some 6) #[false, true, false, false, false, false, false, false, false, false, false, false, false, false, false, false, false, false, false, false, false, false, false, false, false, false] ?_; refine pu_ (i := 3) (N := some 8) #[false, true, false, true, false, false, false, false, false, false, false, false, false, false, false, false, false, false, false, false, false, false, false, false, false, false] ?_; refine pu_ (i := 6) (N := some 11) #[false, true, false, true, false, false, true, false, false, false, false, false, false, false, false, false, false, false, false, false, false, false, false, false, false, false] ?_; refine pu_ (i := 8) (N := some 13) #[false, true, false, true, false, false, true, false, true, false, false, false, false, false, false, false, false, false, false, false, false, false, false, false, false, false] ?_; refine pu_ (i := 11) (N := some 16) #[false, true, false, true, false, false, true, false, true, false, false, true, false, false, false, false, false, false, false, false, false, false, false, false, false, false] ?_; refine pu_ (i := 13) (N := some 18) #[false, true, false, true, false, false, true, false, true, false, false, true, false, true, false, false, false, false, false, false, false, false, false, false, false, false] ?_; refine pu_ (i := 17) (N := some 22) #[false, true, false, true, false, false, true, false, true, false, false, true, false, true, false, false, false, true, false, false, false, false, false, false, false, false] ?_; refine pu_ (i := 19) (N := some 24) #[false, true, false, true, false, false, true, false, true, false, false, true, false, true, false, false, false, true, false, true, false, false, false, false, false, false] ?_; refine pu_ (i := 21) (N := some 26) #[false, true, false, true, false, false, true, false, true, false, false, true, false, true, false, false, false, true, false, true, false, true, false, false, false, false] ?_; refine ta_ (i := 0) (N := some 5) #[true, true, false, true, false, false, true, false, true, false, false, true, false, true, false, false, false, true, false, true, false, true, false, false, false, false] ?_; refine ta_ (i := 2) (N := some 7) #[true, true, true, true, false, false, true, false, true, false, false, true, false, true, false, false, false, true, false, true, false, true, false, false, false, false] ?_; refine ta_ (i := 4) (N := some 9) #[true, true, true, true, true, false, true, false, true, false, false, true, false, true, false, false, false, true, false, true, false, true, false, false, false, false] ?_; refine ta_ (i := 7) (N := some 12) #[true, true, true, true, true, false, true, true, true, false, false, true, false, true, false, false, false, true, false, true, false, true, false, false, false, false] ?_; refine ta_ (i := 9) (N := some 14) #[true, true, true, true, true, false, true, true, true, true, false, true, false, true, false, false, false, true, false, true, false, true, false, false, false, false] ?_; refine ta_ (i := 12) (N := some 17) #[true, true, true, true, true, false, true, true, true, true, false, true, true, true, false, false, false, true, false, true, false, true, false, false, false, false] ?_; refine ta_ (i := 14) (N := some 19) #[true, true, true, true, true, false, true, true, true, true, false, true, true, true, true, false, false, true, false, true, false, true, false, false, false, false] ?_; refine ta_ (i := 16) (N := some 21) #[true, true, true, true, true, false, true, true, true, true, false, true, true, true, true, false, true, true, false, true, false, true, false, false, false, false] ?_; refine ta_ (i := 18) (N := some 23) #[true, true, true, true, true, false, true, true, true, true, false, true, true, true, true, false, true, true, true, true, false, true, false, false, false, false] ?_; refine ta_ (i := 20) (N := some 25) #[true, true, true, true, true, false, true, true, true, true, false, true, true, true, true, false, true, true, true, true, true, true, false, false, false, false] ?_; refine ta_ (i := 22) (N := some 27) #[true, true, true, true, true, false, true, true, true, true, false, true, true, true, true, false, true, true, true, true, true, true, true, false, false, false] ?_; refine on_ (i := 5) (N := some 10) #[true, true, true, true, true, true, true, true, true, true, false, true, true, true, true, false, true, true, true, true, true, true, true, false, false, false] (fun K hK => ?_); refine Vr Try.func129 (by kernel_rfl) rfl #[.agg #[.int .i64 a6, .int .i64 a7], .slice d7 b5.length d8] (by rfl) rfl rfl (by (try simp only [List.map_toArray, List.map_cons, List.map_nil]); first | done | rfl | (simp only [List.length_drop, List.length_take]; rfl)) ?_
 with_reducible refine (Xs.calls k a6 a7 _ _ b5 d3 _ ?side1 ?side2 A3.out).mono ?_
 (case side1 => repeat (first | exact (Kd.C_below f1.out HB.out) | (with_reducible refine Kd.C_alloc ?_ _) | (with_reducible refine Kd.C_drewN ?_ _) | (with_reducible refine Kd.C_drew ?_)))
 (case side2 => exact f2.out)
 rintro e w11 ⟨g2, rfl, ho0, hb⟩; refine ⟨_, rfl, ?_⟩; have n0_ := Qa.mk (Kd.R_lower ho0 (Qo bw_)); have n1_ := Qa.mk (Qq (g := b9) (o := .cells #[.slice d7 b5.length d8, .slice d9 b4.length e0, .slice e1 b3.length e2] 112 (0, 0)) (bk_ a5.out) hb); have n2_ := Qa.mk (Qq (g := b8) (o := .cells #[.bool b1, .int .i64 a6, .int .i64 a7, .int .i64 a8, .int .i64 a9, .int .i64 b0, .int .i64 b2] 78 (0, 0)) (bk_ a3.out) hb); have n3_ := Qa.mk (Qq (g := a0) (o := .cells #[.bool false, .int .i64 0, .int .i64 0, .int .i64 0, .int .i64 0, .int .i64 0, .int .i64 0, .slice none 0 0, .slice none 0 0, .slice none 0 0, .int .i64 0] 184 (0, 0)) (bk_ a4.out) hb); have n4_ := Qa.mk (Qj bw_ hb); clear a5; clear a3; clear a4; clear HB; have d0 := n0_; have a5 := n1_; have a3 := n2_; have a4 := n3_; have HB := n4_; clear n0_ n1_ n2_ n3_ n4_
 (try clear hb)
 (try clear hb2)
 (try clear hk)
 (try clear hi)
 (try clear ho0)
 refine hK.out _ _ ⟨(Qc a3.out 0).trans rfl, (Qc a3.out 1).trans rfl, (Qc a3.out 2).trans rfl, (Qc a3.out 3).trans rfl, (Qc a3.out 4).trans rfl, (Qc a3.out 5).trans rfl, (Qc a3.out 6).trans rfl, (Qc a5.out 0).trans rfl, (Qc a5.out 1).trans rfl, (Qc a5.out 2).trans rfl⟩ (fun hHeld => ?_); clear hK K; refine nN_ 10 ?_; refine on_ (i := 10) (N := some 15) #[true, true, true, true, true, true, true, true, true, true, true, true, true, true, true, false, true, true, true, true, true, true, true, false, false, false] (fun K hK => ?_); refine Vr Try.func129 (by kernel_rfl) rfl #[.agg #[.int .i64 a8, .int .i64 a9], .slice d9 b4.length e0] (by rfl) rfl rfl (by (try simp only [List.map_toArray, List.map_cons, List.map_nil]); first | done | rfl | (simp only [List.length_drop, List.length_take]; rfl)) ?_
 with_reducible refine (Xs.calls k a8 a9 _ _ b4 d4 _ ?side1 ?side2 A4.out).mono ?_
 (case side1 => repeat (first | exact (Kd.C_below f3.out HB.out) | (with_reducible refine Kd.C_alloc ?_ _) | (with_reducible refine Kd.C_drewN ?_ _) | (with_reducible refine Kd.C_drew ?_)))
 (case side2 => exact f4.out)
 rintro e w12 ⟨g3, rfl, ho0, hb⟩; refine ⟨_, rfl, ?_⟩; have n0_ := Qa.mk (Kd.R_elder' (ro_ d0.out) (Kd.R_base ho0) hb); have n1_ := Qa.mk (Kd.R_lower (Kd.R_new' ho0 (Kd.R_lt (ro_ d0.out))) (Qo bw_)); have n2_ := Qa.mk (Qq (g := b9) (o := .cells #[.slice d7 b5.length d8, .slice d9 b4.length e0, .slice e1 b3.length e2] 112 (0, 0)) (bk_ a5.out) hb); have n3_ := Qa.mk (Qq (g := b8) (o := .cells #[.bool b1, .int .i64 a6, .int .i64 a7, .int .i64 a8, .int .i64 a9, .int .i64 b0, .int .i64 b2] 78 (0, 0)) (bk_ a3.out) hb); have n4_ := Qa.mk (Qq (g := a0) (o := .cells #[.bool false, .int .i64 0, .int .i64 0, .int .i64 0, .int .i64 0, .int .i64 0, .int .i64 0, .slice none 0 0, .slice none 0 0, .slice none 0 0, .int .i64 0] 184 (0, 0)) (bk_ a4.out) hb); have n5_ := Qa.mk (Qj bw_ hb); clear d0; clear a5; clear a3; clear a4; clear HB; have d0 := n0_; have e3 := n1_; have a5 := n2_; have a3 := n3_; have a4 := n4_; have HB := n5_; clear n0_ n1_ n2_ n3_ n4_ n5_
 (try clear hb)
 (try clear hb2)
 (try clear hk)
 (try clear hi)
 (try clear ho0)
 refine hK.out _ _ ⟨(Qc a3.out 0).trans rfl, (Qc a3.out 1).trans rfl, (Qc a3.out 2).trans rfl, (Qc a3.out 3).trans rfl, (Qc a3.out 4).trans rfl, (Qc a3.out 5).trans rfl, (Qc a3.out 6).trans rfl, (Qc a5.out 0).trans rfl, (Qc a5.out 1).trans rfl, (Qc a5.out 2).trans rfl⟩ (fun hHeld => ?_); clear hK K; refine nN_ 15 ?_; refine on_ (i := 15) (N := some 20) #[true, true, true, true, true, true, true, true, true, true, true, true, true, true, true, true, true, true, true, true, true, true, true, false, false, false] (fun K hK => ?_); refine Vr Try.func129 (by kernel_rfl) rfl #[.agg #[.int .i64 b0, .int .i64 b2], .slice e1 b3.length e2] (by rfl) rfl rfl (by (try simp only [List.map_toArray, List.map_cons, List.map_nil]); first | done | rfl | (simp only [List.length_drop, List.length_take]; rfl)) ?_
 with_reducible refine (Xs.calls k b0 b2 _ _ b3 d5 _ ?side1 ?side2 A5.out).mono ?_
 (case side1 => repeat (first | exact (Kd.C_below f5.out HB.out) | (with_reducible refine Kd.C_alloc ?_ _) | (with_reducible refine Kd.C_drewN ?_ _) | (with_reducible refine Kd.C_drew ?_)))
 (case side2 => exact f6.out)
 rintro e w13 ⟨g4, rfl, ho0, hb⟩; refine ⟨_, rfl, ?_⟩; have n0_ := Qa.mk (Kd.R_elder' (ro_ d0.out) (Kd.R_base ho0) hb); have n1_ := Qa.mk (Kd.R_elder' (ro_ e3.out) (Kd.R_base ho0) hb); have n2_ := Qa.mk (Kd.R_lower (Kd.R_new' (Kd.R_new' ho0 (Kd.R_lt (ro_ d0.out))) (Kd.R_lt (ro_ e3.out))) (Qo bw_)); have n3_ := Qa.mk (Qq (g := b9) (o := .cells #[.slice d7 b5.length d8, .slice d9 b4.length e0, .slice e1 b3.length e2] 112 (0, 0)) (bk_ a5.out) hb); have n4_ := Qa.mk (Qq (g := b8) (o := .cells #[.bool b1, .int .i64 a6, .int .i64 a7, .int .i64 a8, .int .i64 a9, .int .i64 b0, .int .i64 b2] 78 (0, 0)) (bk_ a3.out) hb); have n5_ := Qa.mk (Qq (g := a0) (o := .cells #[.bool false, .int .i64 0, .int .i64 0, .int .i64 0, .int .i64 0, .int .i64 0, .int .i64 0, .slice none 0 0, .slice none 0 0, .slice none 0 0, .int .i64 0] 184 (0, 0)) (bk_ a4.out) hb); have n6_ := Qa.mk (Qj bw_ hb); clear d0; clear e3; clear a5; clear a3; clear a4; clear HB; have d0 := n0_; have e3 := n1_; have e6 := n2_; have a5 := n3_; have a3 := n4_; have a4 := n5_; have HB := n6_; clear n0_ n1_ n2_ n3_ n4_ n5_ n6_
 (try clear hb)
 (try clear hb2)
 (try clear hk)
 (try clear hi)
 (try clear ho0)
 refine hK.out _ _ ⟨(Qc a3.out 0).trans rfl, (Qc a3.out 1).trans rfl, (Qc a3.out 2).trans rfl, (Qc a3.out 3).trans rfl, (Qc a3.out 4).trans rfl, (Qc a3.out 5).trans rfl, (Qc a3.out 6).trans rfl, (Qc a5.out 0).trans rfl, (Qc a5.out 1).trans rfl, (Qc a5.out 2).trans rfl⟩ (fun hHeld => ?_); clear hK K; refine nN_ 20 ?_; refine on_ (i := 23) (N := some 28) #[true, true, true, true, true, true, true, true, true, true, true, true, true, true, true, true, true, true, true, true, true, true, true, true, false, false] (fun K hK => ?_); refine Vr Try.func96 (by kernel_rfl) rfl #[.agg #[.bool b1, .int .i64 a6, .int .i64 a7, .int .i64 a8, .int .i64 a9, .int .i64 b0, .int .i64 b2], .slice d7 b5.length d8, .slice d9 b4.length e0, .slice e1 b3.length e2] (by rfl) rfl rfl (by (try simp only [List.map_toArray, List.map_cons, List.map_nil]); first | done | rfl | (simp only [List.length_drop, List.length_take]; rfl)) ?_
 with_reducible refine (Xr.calls k b1 a6 a7 a8 a9 b0 b2 _ _ b5 _ _ b4 _ _ b3 d6 _ ?side1 ?side2 ?side3 ?side4 ?side5 ?side6 A6.out).mono ?_
 (case side1 => repeat (first | exact (Kd.C_below f1.out HB.out) | (with_reducible refine Kd.C_alloc ?_ _) | (with_reducible refine Kd.C_drewN ?_ _) | (with_reducible refine Kd.C_drew ?_)))
 (case side2 => exact f2.out)
 (case side3 => repeat (first | exact (Kd.C_below f3.out HB.out) | (with_reducible refine Kd.C_alloc ?_ _) | (with_reducible refine Kd.C_drewN ?_ _) | (with_reducible refine Kd.C_drew ?_)))
 (case side4 => exact f4.out)
 (case side5 => repeat (first | exact (Kd.C_below f5.out HB.out) | (with_reducible refine Kd.C_alloc ?_ _) | (with_reducible refine Kd.C_drewN ?_ _) | (with_reducible refine Kd.C_drew ?_)))
 (case side6 => exact f6.out)
 rintro e w14 ⟨rfl, hb⟩; refine ⟨_, rfl, ?_⟩; have n0_ := Qa.mk (Kd.R_below (ro_ d0.out) hb); have n1_ := Qa.mk (Kd.R_below (ro_ e3.out) hb); have n2_ := Qa.mk (Kd.R_below (ro_ e6.out) hb); have n3_ := Qa.mk (Qq (g := b9) (o := .cells #[.slice d7 b5.length d8, .slice d9 b4.length e0, .slice e1 b3.length e2] 112 (0, 0)) (bk_ a5.out) hb); have n4_ := Qa.mk (Qq (g := b8) (o := .cells #[.bool b1, .int .i64 a6, .int .i64 a7, .int .i64 a8, .int .i64 a9, .int .i64 b0, .int .i64 b2] 78 (0, 0)) (bk_ a3.out) hb); have n5_ := Qa.mk (Qq (g := a0) (o := .cells #[.bool false, .int .i64 0, .int .i64 0, .int .i64 0, .int .i64 0, .int .i64 0, .int .i64 0, .slice none 0 0, .slice none 0 0, .slice none 0 0, .int .i64 0] 184 (0, 0)) (bk_ a4.out) hb); have n6_ := Qa.mk (Qj bw_ hb); clear d0; clear e3; clear e6; clear a5; clear a3; clear a4; clear HB; have d0 := n0_; have e3 := n1_; have e6 := n2_; have a5 := n3_; have a3 := n4_; have a4 := n5_; have HB := n6_; clear n0_ n1_ n2_ n3_ n4_ n5_ n6_
 (try clear hb)
 (try clear hb2)
 (try clear hk)
 (try clear hi)
 obtain ⟨e9, f0, eo15⟩ := Kd.R_slice e6.out
 (first | subst eo15 | (injection eo15 with f1_ f2_ f3_; have f4_ := f1_.symm; have f5_ := f3_.symm; clear f1_ f2_ f3_; subst f4_; subst f5_))
 obtain ⟨e7, e8, eo16⟩ := Kd.R_slice e3.out
 (first | subst eo16 | (injection eo16 with f1_ f2_ f3_; have f4_ := f1_.symm; have f5_ := f3_.symm; clear f1_ f2_ f3_; subst f4_; subst f5_))
 obtain ⟨e4, e5, eo17⟩ := Kd.R_slice d0.out
 (first | subst eo17 | (injection eo17 with f1_ f2_ f3_; have f4_ := f1_.symm; have f5_ := f3_.symm; clear f1_ f2_ f3_; subst f4_; subst f5_))
 refine hK.out _ _ ⟨(Qc a3.out 0).trans rfl, (Qc a3.out 1).trans rfl, (Qc a3.out 2).trans rfl, (Qc a3.out 3).trans rfl, (Qc a3.out 4).trans rfl, (Qc a3.out 5).trans rfl, (Qc a3.out 6).trans rfl, (Qc a5.out 0).trans rfl, (Qc a5.out 1).trans rfl, (Qc a5.out 2).trans rfl⟩ (fun hHeld => ?_); clear hK K; refine nN_ 28 ?_; refine pu_ (i := 24) (N := some 29) #[true, true, true, true, true, true, true, true, true, true, true, true, true, true, true, true, true, true, true, true, true, true, true, true, true, false] ?_; refine on_ (i := 25) (N := none) #[true, true, true, true, true, true, true, true, true, true, true, true, true, true, true, true, true, true, true, true, true, true, true, true, true, true] (fun K hK => ?_); have hs18 : w14.cell? ⟨a0, 0, none⟩ = some (.bool false) := (Qc a4.out 0).trans rfl; have hfs18 := Qe a4.out 0; have hns18_0 := a2.out; have hns18_1 := a1.out; have hms18_0 := b6.out; have hms18_1 := b7.out; have hs19 : w14.cell? ⟨a0, 1, none⟩ = some (.int .i64 0) := (Qc a4.out 1).trans rfl; have hfs19 := Qe a4.out 1; have hns19_0 := a2.out; have hns19_1 := a1.out; have hms19_0 := b6.out; have hms19_1 := b7.out; have hs20 : w14.cell? ⟨a0, 2, none⟩ = some (.int .i64 0) := (Qc a4.out 2).trans rfl; have hfs20 := Qe a4.out 2; have hns20_0 := a2.out; have hns20_1 := a1.out; have hms20_0 := b6.out; have hms20_1 := b7.out; have hs21 : w14.cell? ⟨a0, 3, none⟩ = some (.int .i64 0) := (Qc a4.out 3).trans rfl; have hfs21 := Qe a4.out 3; have hns21_0 := a2.out; have hns21_1 := a1.out; have hms21_0 := b6.out; have hms21_1 := b7.out; have hs22 : w14.cell? ⟨a0, 4, none⟩ = some (.int .i64 0) := (Qc a4.out 4).trans rfl; have hfs22 := Qe a4.out 4; have hns22_0 := a2.out; have hns22_1 := a1.out; have hms22_0 := b6.out; have hms22_1 := b7.out; have hs23 : w14.cell? ⟨a0, 5, none⟩ = some (.int .i64 0) := (Qc a4.out 5).trans rfl; have hfs23 := Qe a4.out 5; have hns23_0 := a2.out; have hns23_1 := a1.out; have hms23_0 := b6.out; have hms23_1 := b7.out; have hs24 : w14.cell? ⟨a0, 6, none⟩ = some (.int .i64 0) := (Qc a4.out 6).trans rfl; have hfs24 := Qe a4.out 6; have hns24_0 := a2.out; have hns24_1 := a1.out; have hms24_0 := b6.out; have hms24_1 := b7.out; have hs25 : w14.cell? ⟨a0, 7, none⟩ = some (.slice none 0 0) := (Qc a4.out 7).trans rfl; have hfs25 := Qe a4.out 7; have hns25_0 := a2.out; have hns25_1 := a1.out; have hms25_0 := b6.out; have hms25_1 := b7.out; have hs26 : w14.cell? ⟨a0, 8, none⟩ = some (.slice none 0 0) := (Qc a4.out 8).trans rfl; have hfs26 := Qe a4.out 8; have hns26_0 := a2.out; have hns26_1 := a1.out; have hms26_0 := b6.out; have hms26_1 := b7.out; have hs27 : w14.cell? ⟨a0, 9, none⟩ = some (.slice none 0 0) := (Qc a4.out 9).trans rfl; have hfs27 := Qe a4.out 9; have hns27_0 := a2.out; have hns27_1 := a1.out; have hms27_0 := b6.out; have hms27_1 := b7.out; have hs28 : w14.cell? ⟨a0, 10, none⟩ = some (.int .i64 0) := (Qc a4.out 10).trans rfl; have hfs28 := Qe a4.out 10; have hns28_0 := a2.out; have hns28_1 := a1.out; have hms28_0 := b6.out; have hms28_1 := b7.out; refine Jz (w1 := ?_) (by rfl) rfl ?_ ?_; rotate_left
 ·go_simp
  rfl
 refine hK.out _ _ ⟨((Ze (p := ⟨a0, _, none⟩) a1.out _).trans (((Ze (p := ⟨a0, _, none⟩) a1.out _).trans (((Ze (p := ⟨a0, _, none⟩) a1.out _).trans (((Ze (p := ⟨a0, _, none⟩) a1.out _).trans (((Ze (p := ⟨a0, _, none⟩) a1.out _).trans (((Ze (p := ⟨a0, _, none⟩) a1.out _).trans (((Ze (p := ⟨a0, _, none⟩) a1.out _).trans (((Ze (p := ⟨a0, _, none⟩) a1.out _).trans (((Ze (p := ⟨a0, _, none⟩) a1.out _).trans (((Ze (p := ⟨a0, _, none⟩) a1.out _).trans (((Ze (p := ⟨a0, _, none⟩) a1.out _).trans (hHeld.1)))))))))))))))))))))), ((Ze (p := ⟨a0, _, none⟩) a1.out _).trans (((Ze (p := ⟨a0, _, none⟩) a1.out _).trans (((Ze (p := ⟨a0, _, none⟩) a1.out _).trans (((Ze (p := ⟨a0, _, none⟩) a1.out _).trans (((Ze (p := ⟨a0, _, none⟩) a1.out _).trans (((Ze (p := ⟨a0, _, none⟩) a1.out _).trans (((Ze (p := ⟨a0, _, none⟩) a1.out _).trans (((Ze (p := ⟨a0, _, none⟩) a1.out _).trans (((Ze (p := ⟨a0, _, none⟩) a1.out _).trans (((Ze (p := ⟨a0, _, none⟩) a1.out _).trans (((Ze (p := ⟨a0, _, none⟩) a1.out _).trans (hHeld.2.1)))))))))))))))))))))), ((Ze (p := ⟨a0, _, none⟩) a1.out _).trans (((Ze (p := ⟨a0, _, none⟩) a1.out _).trans (((Ze (p := ⟨a0, _, none⟩) a1.out _).trans (((Ze (p := ⟨a0, _, none⟩) a1.out _).trans (((Ze (p := ⟨a0, _, none⟩) a1.out _).trans (((Ze (p := ⟨a0, _, none⟩) a1.out _).trans (((Ze (p := ⟨a0, _, none⟩) a1.out _).trans (((Ze (p := ⟨a0, _, none⟩) a1.out _).trans (((Ze (p := ⟨a0, _, none⟩) a1.out _).trans (((Ze (p := ⟨a0, _, none⟩) a1.out _).trans (((Ze (p := ⟨a0, _, none⟩) a1.out _).trans (hHeld.2.2.1)))))))))))))))))))))), ((Ze (p := ⟨a0, _, none⟩) a1.out _).trans (((Ze (p := ⟨a0, _, none⟩) a1.out _).trans (((Ze (p := ⟨a0, _, none⟩) a1.out _).trans (((Ze (p := ⟨a0, _, none⟩) a1.out _).trans (((Ze (p := ⟨a0, _, none⟩) a1.out _).trans (((Ze (p := ⟨a0, _, none⟩) a1.out _).trans (((Ze (p := ⟨a0, _, none⟩) a1.out _).trans (((Ze (p := ⟨a0, _, none⟩) a1.out _).trans (((Ze (p := ⟨a0, _, none⟩) a1.out _).trans (((Ze (p := ⟨a0, _, none⟩) a1.out _).trans (((Ze (p := ⟨a0, _, none⟩) a1.out _).trans (hHeld.2.2.2.1)))))))))))))))))))))), ((Ze (p := ⟨a0, _, none⟩) a1.out _).trans (((Ze (p := ⟨a0, _, none⟩) a1.out _).trans (((Ze (p := ⟨a0, _, none⟩) a1.out _).trans (((Ze (p := ⟨a0, _, none⟩) a1.out _).trans (((Ze (p := ⟨a0, _, none⟩) a1.out _).trans (((Ze (p := ⟨a0, _, none⟩) a1.out _).trans (((Ze (p := ⟨a0, _, none⟩) a1.out _).trans (((Ze (p := ⟨a0, _, none⟩) a1.out _).trans (((Ze (p := ⟨a0, _, none⟩) a1.out _).trans (((Ze (p := ⟨a0, _, none⟩) a1.out _).trans (((Ze (p := ⟨a0, _, none⟩) a1.out _).trans (hHeld.2.2.2.2.1)))))))))))))))))))))), ((Ze (p := ⟨a0, _, none⟩) a1.out _).trans (((Ze (p := ⟨a0, _, none⟩) a1.out _).trans (((Ze (p := ⟨a0, _, none⟩) a1.out _).trans (((Ze (p := ⟨a0, _, none⟩) a1.out _).trans (((Ze (p := ⟨a0, _, none⟩) a1.out _).trans (((Ze (p := ⟨a0, _, none⟩) a1.out _).trans (((Ze (p := ⟨a0, _, none⟩) a1.out _).trans (((Ze (p := ⟨a0, _, none⟩) a1.out _).trans (((Ze (p := ⟨a0, _, none⟩) a1.out _).trans (((Ze (p := ⟨a0, _, none⟩) a1.out _).trans (((Ze (p := ⟨a0, _, none⟩) a1.out _).trans (hHeld.2.2.2.2.2.1)))))))))))))))))))))), ((Ze (p := ⟨a0, _, none⟩) a1.out _).trans (((Ze (p := ⟨a0, _, none⟩) a1.out _).trans (((Ze (p := ⟨a0, _, none⟩) a1.out _).trans (((Ze (p := ⟨a0, _, none⟩) a1.out _).trans (((Ze (p := ⟨a0, _, none⟩) a1.out _).trans (((Ze (p := ⟨a0, _, none⟩) a1.out _).trans (((Ze (p := ⟨a0, _, none⟩) a1.out _).trans (((Ze (p := ⟨a0, _, none⟩) a1.out _).trans (((Ze (p := ⟨a0, _, none⟩) a1.out _).trans (((Ze (p := ⟨a0, _, none⟩) a1.out _).trans (((Ze (p := ⟨a0, _, none⟩) a1.out _).trans (hHeld.2.2.2.2.2.2.1)))))))))))))))))))))), ((Ze (p := ⟨a0, _, none⟩) a2.out _).trans (((Ze (p := ⟨a0, _, none⟩) a2.out _).trans (((Ze (p := ⟨a0, _, none⟩) a2.out _).trans (((Ze (p := ⟨a0, _, none⟩) a2.out _).trans (((Ze (p := ⟨a0, _, none⟩) a2.out _).trans (((Ze (p := ⟨a0, _, none⟩) a2.out _).trans (((Ze (p := ⟨a0, _, none⟩) a2.out _).trans (((Ze (p := ⟨a0, _, none⟩) a2.out _).trans (((Ze (p := ⟨a0, _, none⟩) a2.out _).trans (((Ze (p := ⟨a0, _, none⟩) a2.out _).trans (((Ze (p := ⟨a0, _, none⟩) a2.out _).trans (hHeld.2.2.2.2.2.2.2.1)))))))))))))))))))))), ((Ze (p := ⟨a0, _, none⟩) a2.out _).trans (((Ze (p := ⟨a0, _, none⟩) a2.out _).trans (((Ze (p := ⟨a0, _, none⟩) a2.out _).trans (((Ze (p := ⟨a0, _, none⟩) a2.out _).trans (((Ze (p := ⟨a0, _, none⟩) a2.out _).trans (((Ze (p := ⟨a0, _, none⟩) a2.out _).trans (((Ze (p := ⟨a0, _, none⟩) a2.out _).trans (((Ze (p := ⟨a0, _, none⟩) a2.out _).trans (((Ze (p := ⟨a0, _, none⟩) a2.out _).trans (((Ze (p := ⟨a0, _, none⟩) a2.out _).trans (((Ze (p := ⟨a0, _, none⟩) a2.out _).trans (hHeld.2.2.2.2.2.2.2.2.1)))))))))))))))))))))), ((Ze (p := ⟨a0, _, none⟩) a2.out _).trans (((Ze (p := ⟨a0, _, none⟩) a2.out _).trans (((Ze (p := ⟨a0, _, none⟩) a2.out _).trans (((Ze (p := ⟨a0, _, none⟩) a2.out _).trans (((Ze (p := ⟨a0, _, none⟩) a2.out _).trans (((Ze (p := ⟨a0, _, none⟩) a2.out _).trans (((Ze (p := ⟨a0, _, none⟩) a2.out _).trans (((Ze (p := ⟨a0, _, none⟩) a2.out _).trans (((Ze (p := ⟨a0, _, none⟩) a2.out _).trans (((Ze (p := ⟨a0, _, none⟩) a2.out _).trans (((Ze (p := ⟨a0, _, none⟩) a2.out _).trans (hHeld.2.2.2.2.2.2.2.2.2))))))))))))))))))))))⟩ (fun hHeld => ?_); clear hK K; refine Ki (Vq HT_.out (by kernel_rfl)) ?_
 try go_wp2
 refine bodyPost_ret (results_cell_row rfl _ _ a0 184 #[.bool b1, .int .i64 a6, .int .i64 a7, .int .i64 a8, .int .i64 a9, .int .i64 b0, .int .i64 b2, .slice e4 d3.length e5, .slice e7 d4.length e8, .slice e9 d5.length f0, .int .i64 d6] (0, 0) _ rfl (by (with_reducible repeat (first | refine Qn ?_ _ | refine Qp ?_ | refine Ql ?_ _)); refine Za (cs := #[.bool b1, .int .i64 a6, .int .i64 a7, .int .i64 a8, .int .i64 a9, .int .i64 b0, .int .i64 b2, .slice e4 d3.length e5, .slice e7 d4.length e8, .slice e9 d5.length f0, .int .i64 0]) ?_ 10 _ rfl; (with_reducible repeat (first | refine Qn ?_ _ | refine Qp ?_ | refine Ql ?_ _)); refine Za (cs := #[.bool b1, .int .i64 a6, .int .i64 a7, .int .i64 a8, .int .i64 a9, .int .i64 b0, .int .i64 b2, .slice e4 d3.length e5, .slice e7 d4.length e8, .slice none 0 0, .int .i64 0]) ?_ 9 _ rfl; (with_reducible repeat (first | refine Qn ?_ _ | refine Qp ?_ | refine Ql ?_ _)); refine Za (cs := #[.bool b1, .int .i64 a6, .int .i64 a7, .int .i64 a8, .int .i64 a9, .int .i64 b0, .int .i64 b2, .slice e4 d3.length e5, .slice none 0 0, .slice none 0 0, .int .i64 0]) ?_ 8 _ rfl; (with_reducible repeat (first | refine Qn ?_ _ | refine Qp ?_ | refine Ql ?_ _)); refine Za (cs := #[.bool b1, .int .i64 a6, .int .i64 a7, .int .i64 a8, .int .i64 a9, .int .i64 b0, .int .i64 b2, .slice none 0 0, .slice none 0 0, .slice none 0 0, .int .i64 0]) ?_ 7 _ rfl; (with_reducible repeat (first | refine Qn ?_ _ | refine Qp ?_ | refine Ql ?_ _)); refine Za (cs := #[.bool b1, .int .i64 a6, .int .i64 a7, .int .i64 a8, .int .i64 a9, .int .i64 b0, .int .i64 0, .slice none 0 0, .slice none 0 0, .slice none 0 0, .int .i64 0]) ?_ 6 _ rfl; (with_reducible repeat (first | refine Qn ?_ _ | refine Qp ?_ | refine Ql ?_ _)); refine Za (cs := #[.bool b1, .int .i64 a6, .int .i64 a7, .int .i64 a8, .int .i64 a9, .int .i64 0, .int .i64 0, .slice none 0 0, .slice none 0 0, .slice none 0 0, .int .i64 0]) ?_ 5 _ rfl; (with_reducible repeat (first | refine Qn ?_ _ | refine Qp ?_ | refine Ql ?_ _)); refine Za (cs := #[.bool b1, .int .i64 a6, .int .i64 a7, .int .i64 a8, .int .i64 0, .int .i64 0, .int .i64 0, .slice none 0 0, .slice none 0 0, .slice none 0 0, .int .i64 0]) ?_ 4 _ rfl; (with_reducible repeat (first | refine Qn ?_ _ | refine Qp ?_ | refine Ql ?_ _)); refine Za (cs := #[.bool b1, .int .i64 a6, .int .i64 a7, .int .i64 0, .int .i64 0, .int .i64 0, .int .i64 0, .slice none 0 0, .slice none 0 0, .slice none 0 0, .int .i64 0]) ?_ 3 _ rfl; (with_reducible repeat (first | refine Qn ?_ _ | refine Qp ?_ | refine Ql ?_ _)); refine Za (cs := #[.bool b1, .int .i64 a6, .int .i64 0, .int .i64 0, .int .i64 0, .int .i64 0, .int .i64 0, .slice none 0 0, .slice none 0 0, .slice none 0 0, .int .i64 0]) ?_ 2 _ rfl; (with_reducible repeat (first | refine Qn ?_ _ | refine Qp ?_ | refine Ql ?_ _)); refine Za (cs := #[.bool b1, .int .i64 0, .int .i64 0, .int .i64 0, .int .i64 0, .int .i64 0, .int .i64 0, .slice none 0 0, .slice none 0 0, .slice none 0 0, .int .i64 0]) ?_ 1 _ rfl; (with_reducible repeat (first | refine Qn ?_ _ | refine Qp ?_ | refine Ql ?_ _)); refine Za (cs := #[.bool false, .int .i64 0, .int .i64 0, .int .i64 0, .int .i64 0, .int .i64 0, .int .i64 0, .slice none 0 0, .slice none 0 0, .slice none 0 0, .int .i64 0]) ?_ 0 _ rfl; (with_reducible repeat (first | refine Qn ?_ _ | refine Qp ?_ | refine Ql ?_ _)); exact a4.out) Try.underlying184 rfl (by kernel_rfl)) rfl ?_; exact ⟨_, _, _, by first | rfl | (simp [Qt, Qu] <;> rfl) | (simp [*, Qt, Qu] <;> rfl), by (with_reducible repeat (first | apply Kd.R_alloc | apply Kd.R_drewN | apply Kd.R_drew)); exact Kd.R_mono (Kd.R_far (p := ⟨a0, 10, none⟩) (Kd.R_far (p := ⟨a0, 9, none⟩) (Kd.R_far (p := ⟨a0, 8, none⟩) (Kd.R_far (p := ⟨a0, 7, none⟩) (Kd.R_far (p := ⟨a0, 6, none⟩) (Kd.R_far (p := ⟨a0, 5, none⟩) (Kd.R_far (p := ⟨a0, 4, none⟩) (Kd.R_far (p := ⟨a0, 3, none⟩) (Kd.R_far (p := ⟨a0, 2, none⟩) (Kd.R_far (p := ⟨a0, 1, none⟩) (Kd.R_far (p := ⟨a0, 0, none⟩) (Kd.R_types d0.out a4.out (by decide)) (fun _ hk => hk.2) (.bool b1)) (fun _ hk => hk.2) (.int .i64 a6)) (fun _ hk => hk.2) (.int .i64 a7)) (fun _ hk => hk.2) (.int .i64 a8)) (fun _ hk => hk.2) (.int .i64 a9)) (fun _ hk => hk.2) (.int .i64 b0)) (fun _ hk => hk.2) (.int .i64 b2)) (fun _ hk => hk.2) (.slice e4 d3.length e5)) (fun _ hk => hk.2) (.slice e7 d4.length e8)) (fun _ hk => hk.2) (.slice e9 d5.length f0)) (fun _ hk => hk.2) (.int .i64 d6)) (fun _ hk => ⟨hk.1.1.2, hk.1.2⟩), by (with_reducible repeat (first | apply Kd.R_alloc | apply Kd.R_drewN | apply Kd.R_drew)); exact Kd.R_mono (Kd.R_far (p := ⟨a0, 10, none⟩) (Kd.R_far (p := ⟨a0, 9, none⟩) (Kd.R_far (p := ⟨a0, 8, none⟩) (Kd.R_far (p := ⟨a0, 7, none⟩) (Kd.R_far (p := ⟨a0, 6, none⟩) (Kd.R_far (p := ⟨a0, 5, none⟩) (Kd.R_far (p := ⟨a0, 4, none⟩) (Kd.R_far (p := ⟨a0, 3, none⟩) (Kd.R_far (p := ⟨a0, 2, none⟩) (Kd.R_far (p := ⟨a0, 1, none⟩) (Kd.R_far (p := ⟨a0, 0, none⟩) (Kd.R_types e3.out a4.out (by decide)) (fun _ hk => hk.2) (.bool b1)) (fun _ hk => hk.2) (.int .i64 a6)) (fun _ hk => hk.2) (.int .i64 a7)) (fun _ hk => hk.2) (.int .i64 a8)) (fun _ hk => hk.2) (.int .i64 a9)) (fun _ hk => hk.2) (.int .i64 b0)) (fun _ hk => hk.2) (.int .i64 b2)) (fun _ hk => hk.2) (.slice e4 d3.length e5)) (fun _ hk => hk.2) (.slice e7 d4.length e8)) (fun _ hk => hk.2) (.slice e9 d5.length f0)) (fun _ hk => hk.2) (.int .i64 d6)) (fun _ hk => ⟨hk.1.1.2, hk.1.2⟩), by (with_reducible repeat (first | apply Kd.R_alloc | apply Kd.R_drewN | apply Kd.R_drew)); exact Kd.R_mono (Kd.R_far (p := ⟨a0, 10, none⟩) (Kd.R_far (p := ⟨a0, 9, none⟩) (Kd.R_far (p := ⟨a0, 8, none⟩) (Kd.R_far (p := ⟨a0, 7, none⟩) (Kd.R_far (p := ⟨a0, 6, none⟩) (Kd.R_far (p := ⟨a0, 5, none⟩) (Kd.R_far (p := ⟨a0, 4, none⟩) (Kd.R_far (p := ⟨a0, 3, none⟩) (Kd.R_far (p := ⟨a0, 2, none⟩) (Kd.R_far (p := ⟨a0, 1, none⟩) (Kd.R_far (p := ⟨a0, 0, none⟩) (Kd.R_types e6.out a4.out (by decide)) (fun _ hk => hk.2) (.bool b1)) (fun _ hk => hk.2) (.int .i64 a6)) (fun _ hk => hk.2) (.int .i64 a7)) (fun _ hk => hk.2) (.int .i64 a8)) (fun _ hk => hk.2) (.int .i64 a9)) (fun _ hk => hk.2) (.int .i64 b0)) (fun _ hk => hk.2) (.int .i64 b2)) (fun _ hk => hk.2) (.slice e4 d3.length e5)) (fun _ hk => hk.2) (.slice e7 d4.length e8)) (fun _ hk => hk.2) (.slice e9 d5.length f0)) (fun _ hk => hk.2) (.int .i64 d6)) (fun _ hk => ⟨hk.1.1.2, hk.1.2⟩), bw_⟩
end Go.Proofs.Ytadafplbgophfaa.PA
end
