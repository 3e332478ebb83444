/- Part 5 of what the row of the law PatchTurns rests on: walks of functions, and plain lemmas (in part printed by the kit's print, what is not reached left out). -/
import Derived.Test.YtadafplbgophfaaGreatDoorpatchTurns4
set_option linter.unusedVariables false
set_option linter.unusedSimpArgs false
section
namespace Go.Proofs.YtadafplbgophfaaGreatDoor.PA
open Go.RowKit Go.Proofs.YtadafplbgophfaaGreatDoorW.PrintWords Go.Proofs.YtadafplbgophfaaGreatDoorW.PrintLast Go.Proofs.YtadafplbgophfaaGreatDoorW.PrintMore
def Xk.f (k : Nat) (a0 a1 : ByteArray) : Option (List S48) :=
 (Qn.f k a0).bind fun t1 => (Qn.f k a1).bind fun t2 => (Qf.f k [t1, t2]).bind fun nn =>
  if nn.length = 2 then (Qg.f k (Uu nn 0) (Uu nn 1)).bind fun l => (Yx.f k t1 t2 l).bind fun r => some r.1 else none
set_option maxHeartbeats 4000000 in
set_option maxRecDepth 100000 in
theorem Xk.calls (k : Nat) (a0 a1 : ByteArray) (r : List S48) (w : World) (h : Xk.f k a0 a1 = some r) :
  Calls Tryz.prog 7 #[.string a0, .string a1] w fun e w' => ∃ v0_ : Value, e = .returned v0_ ∧ Kd.N k48 48 w' w.heap.size (fun _ => True) v0_ r ∧ Below w.heap.size w w' := by
 unfold Xk.f at h
 obtain ⟨t1, h1, h⟩ := Option.bind_eq_some_iff.1 h; obtain ⟨t2, h2, h⟩ := Option.bind_eq_some_iff.1 h; obtain ⟨nn, hnn, h⟩ := Option.bind_eq_some_iff.1 h
 split at h
 case isFalse => cases h
 rename_i hn2
 obtain ⟨l, hl, h⟩ := Option.bind_eq_some_iff.1 h; obtain ⟨⟨r1, r2⟩, ho, h⟩ := Option.bind_eq_some_iff.1 h; obtain rfl := Option.some.inj h; have F1 := Qa.mk h1; have F2 := Qa.mk h2; have HN := Qa.mk hnn; have FS := Qa.mk hl; have FO := Qa.mk ho; have FL := Qa.mk hn2; clear h1 h2 hnn hl ho h hn2
 go_enter Tryz.func7, Tryz.ntmps7
 go_wp2_with fail; refine (Qn.calls k a0 t1 _ F1.out).mono ?_; rintro e w1 ⟨v0_, rfl, hR, hb⟩; obtain ⟨A1, c1, rfl, hc, hC⟩ := Kd.R_reads hR; have C1 := Qa.mk hC; have L1 := Qa.mk hc; have HB := Qa.mk hb; clear hR hC hc hb; go_wp2_with fail; refine (Qn.calls k a1 t2 _ F2.out).mono ?_; rintro e w2 ⟨v0_, rfl, hR, hb⟩; obtain ⟨A2, c2, rfl, hc, hC⟩ := Kd.R_reads hR; have C2 := Qa.mk hC; have L2 := Qa.mk hc; replace C1 := Qa.mk (Kd.C_below C1.out hb); replace HB := Qa.mk (Qk HB.out hb); clear hR hC hc hb; go_wp2_with fail
 have HLL : Qa (Kd.C (Kd.slice 9 Kd.string) (w2.alloc (.cells #[.slice A1 t1.length c1, .slice A2 t2.length c2] 46 (0, 0))) (some ⟨w2.heap.size, 0, none⟩) [t1, t2].length [t1, t2]) := ⟨Qpe (Kd.slice 9 Kd.string) rfl w2 46 [t1, t2] [.slice A1 t1.length c1, .slice A2 t2.length c2] rfl (by simp) (fun j p u hp hu => by
  match j, hp, hu with
  | 0, hp, hu => cases hp; cases hu; exact ⟨A1, c1, rfl, L1.out, C1.out⟩
  | 1, hp, hu => cases hp; cases hu; exact ⟨A2, c2, rfl, L2.out, C2.out⟩
  | (j + 2), hp, hu => simp at hp)⟩
 refine (Qf.calls k (some ⟨w2.heap.size, 0, none⟩) 2 [t1, t2] nn _ HLL.out (Nat.le_refl _) HN.out).mono ?_; rintro e w3 ⟨v0_, rfl, hR, hb0⟩; have hb := Ku (Qc (Below.refl w2.heap.size w2) (.cells #[.slice A1 t1.length c1, .slice A2 t2.length c2] 46 (0, 0))) (Qc (Below.refl w2.heap.size w2) _).size hb0; replace C1 := Qa.mk (Kd.C_below C1.out hb); replace C2 := Qa.mk (Kd.C_below C2.out hb); replace HB := Qa.mk (Qk HB.out hb); clear hb hb0 HLL; obtain ⟨A, c, rfl, hc, hC⟩ := Kd.R_reads (Kd.S_R hR); clear hR; obtain ⟨ad, AX, cX, eA, hx, hlx, hcx⟩ := Qgt hC (0 : Int) (by decide) (by have := FL.out; omega); obtain ⟨ad', AY, cY, eA', hy, hly, hcy⟩ := Qgt hC (1 : Int) (by decide) (by have := FL.out; omega)
 cases eA
 cases eA'; have hs := FS.out
 generalize Uu nn 0 = x at hx hlx hcx hs
 generalize Uu nn 1 = y at hy hly hcy hs
 have FS2 := Qa.mk hs; have HX := Qa.mk hcx; have HXL := Qa.mk hlx; have HY := Qa.mk hcy; have HYL := Qa.mk hly
 simp only [Int.toNat_zero, Int.toNat_one] at hx hy
 clear hC hc hlx hcx hly hcy hs FS HN
 replace hx : w3.cell? ad = some (.slice AX x.length cX) := by simpa [Addr.add] using hx
 replace hy : w3.cell? ⟨ad.block, ad.off + 1, none⟩ = some (.slice AY y.length cY) := by simpa [Addr.add] using hy
 have hn2 := FL.out; rw [hn2]; clear hn2 FL; go_wp2_with fail
 go_region_held3 (fun w' => w'.cell? ad = some (.slice AX x.length cX) ∧ w'.cell? ⟨ad.block, ad.off + 1, none⟩ = some (.slice AY y.length cY)) (go_keep)
  (first
  | (go_at_call 18; refine (Qg.calls k (fun k => k < _) AX cX x (fun k => k < _) AY cY y l _ (Kd.V_mk HXL.out (Kd.C_F (Kd.heap_int .i64) (Kd.C_drew HX.out))) (Kd.V_mk HYL.out (Kd.C_F (Kd.heap_int .i64) (Kd.C_drew HY.out))) FS2.out).mono ?_; rintro e w4 ⟨v0_, rfl, hR, hb⟩; obtain ⟨A3, c3, rfl, hc3, hC3⟩ := Kd.R_reads hR; have C3 := Qa.mk hC3; have L3 := Qa.mk hc3; have hb2 := Ku (Vt (Below.refl w3.heap.size w3)) (Nat.le_refl _) hb; replace C1 := Qa.mk (Kd.C_below C1.out hb2); replace C2 := Qa.mk (Kd.C_below C2.out hb2); replace HB := Qa.mk (Qk HB.out hb2); replace hx := Zh hb2 hx; replace hy := Zh hb2 hy; clear hR hC3 hc3 hb hb2)
  | (go_at_call 17; refine (Yx.calls k A1 c1 t1 A2 c2 t2 A3 c3 l r1 r2 _ C1.out L1.out C2.out L2.out C3.out L3.out FO.out).mono ?_; rintro e w5 ⟨v0_, rfl, hR, hb⟩; have HR := Qa.mk (Kd.N_lower hR (Qh HB.out)); replace HB := Qa.mk (Qk HB.out hb); replace hx := Zh hb hx; replace hy := Zh hb hy; clear hR hb))
 go_wp2_with fail; go_ret; exact ⟨_, rfl, HR.out, HB.out⟩
end Go.Proofs.YtadafplbgophfaaGreatDoor.PA
end
section
namespace Go.Proofs.YtadafplbgophfaaGreatDoor.PA
open Go.RowKit Go.Proofs.YtadafplbgophfaaGreatDoorW.PrintWords Go.Proofs.YtadafplbgophfaaGreatDoorW.PrintLast Go.Proofs.YtadafplbgophfaaGreatDoorW.PrintMore
open Jdg
namespace FavT
theorem Qlc {a b : Int} : ∀ (l : List S73) (pa pb : Int), Jl a b pa pb l = true → ∀ (i : Nat) (h : i < l.length), (l[i].f0 < a ∧ l[i].f1 < b) ∧ (i = 0 → pa < l[i].f0 ∧ pb < l[i].f1) ∧ ∀ h0 : 0 < i, (l[i - 1]'(by omega)).f0 < l[i].f0 ∧ (l[i - 1]'(by omega)).f1 < l[i].f1
 | [], _, _, _, i, h => by simp at h
 | p :: l, pa, pb, hr, i, h => by
  obtain ⟨⟨g1, g2, g3, g4⟩, hr2⟩ := Uc.1 hr
  cases i with
  | zero => exact ⟨⟨g3, g4⟩, fun _ => ⟨g1, g2⟩, fun h0 => by omega⟩
  | succ i =>
   simp only [List.length_cons] at h
   have := Qlc l p.f0 p.f1 hr2 i (by omega); refine ⟨by simpa using this.1, fun h => by omega, fun _ => ?_⟩
   cases i with
   | zero => simpa using this.2.1 rfl
   | succ i => simpa using this.2.2 (by omega)
theorem Qld {a b : Int} : ∀ (l : List S73) (pa pb : Int), Jl a b pa pb l = true → ∀ p ∈ l, pa < p.f0 ∧ pb < p.f1
 | [], _, _, _, p, h => by simp at h
 | q :: l, pa, pb, hr, p, h => by
  obtain ⟨⟨g1, g2, g3, g4⟩, hr2⟩ := Uc.1 hr
  rcases List.mem_cons.1 h with rfl | h
  ·exact ⟨g1, g2⟩
  ·have := Qld l q.f0 q.f1 hr2 p h; omega
theorem Qkz {a b : List Int} {l : List S73} (h : Jl a.length b.length (-1) (-1) l = true) (he : ∀ p ∈ l, rd a p.f0 = rd b p.f1) (j : Nat) : Qej a b l j := fun hj => by
 have h1 := Qlc l _ _ h j hj; have h2 := Qld l _ _ h l[j] (List.getElem_mem hj); exact ⟨⟨by omega, h1.1.1, by omega, h1.1.2, he _ (List.getElem_mem hj)⟩, h1.2.2⟩
structure Qoe (a b : ByteArray) (la lb : List ByteArray) (sc : List S48) : Prop where
 sa : Ev (fun k => Qn.f k a) la
 sb : Ev (fun k => Qn.f k b) lb
 na : la.length ≤ 300
 nb : lb.length ≤ 300
 za : ∀ x ∈ la, x.size ≤ 300
 zb : ∀ x ∈ lb, x.size ≤ 300
 ea : ∀ x ∈ la.dropLast, Qgy x = true
 eb : ∀ x ∈ lb.dropLast, Qgy x = true
 scr : Ev (fun k => Xk.f k a b) sc
 ok : Rt sc
 few : tot sc ≤ 10000
 same : la = lb → cnt 0 sc = la.length
 s1 : Yk 1 sc = la
 s2 : Yk 2 sc = lb
theorem Qme (a b : ByteArray) (ha : a.size ≤ 300) (hb : b.size ≤ 300) : ∃ la lb sc, Qoe a b la lb sc := by
 obtain ⟨la, sa, na, za, ea⟩ := Qjd a (by omega); obtain ⟨lb, sb, nb, zb, eb⟩ := Qjd b (by omega); have hnum : Ev (fun k => Qf.f k [la, lb]) (Ky [] [la, lb]) := Qou [la, lb] (by simp) (by simp only [Kn]; omega); have e0 : Uu (Ky [] [la, lb]) 0 = (Xa [] la).1 := rfl; have e1 : Uu (Ky [] [la, lb]) 1 = (Xa (Xa [] la).2 lb).1 := rfl; have e2 : (Ky [] [la, lb]).length = 2 := rfl; have l1 := Ko la []; have l2 := Ko lb (Xa [] la).2; obtain ⟨ps, hp, hr, hq, hl, hsame⟩ := Qoz (Xa [] la).1 (Xa (Xa [] la).2 lb).1 (by omega) (by omega); obtain ⟨u, eu, hu⟩ := Qit (Xa [] la).1 (Xa (Xa [] la).2 lb).1 ps (by omega); obtain rfl : u = true := hu.2 (fun j _ => Qkz hr hq j); have hrng := Qqi (fun j _ => Qkz hr hq j); obtain ⟨r, g2, g3, g4, g5, g6, g7⟩ := Qky la lb (by omega) (by omega) ps 0 0 [] hrng Scr.nil (by simp [tot]; omega); obtain ⟨r', q1, q2⟩ := Qpl la lb (by omega) (by omega) ps 0 0 [] hrng trivial (Uf.nil 2) (by simp [tot]; omega); obtain rfl : r = r' := Option.some.inj (g2.symm.trans q1); refine ⟨la, lb, r, sa, sb, by omega, by omega, fun x hx => Nat.le_trans (za x hx) ha, fun x hx => Nat.le_trans (zb x hx) hb, ea, eb, ?_, q2, g7, fun e => ?_, by rw [g4]; simp [Yk], by rw [g5]; simp [Yk]⟩
 case refine_2 =>
  subst e; rw [g6, hsame (Qhh la []).symm, l1]
  simp [cnt]
 unfold Xk.f; refine Ev.bind sa (Ev.bind sb (Ev.bind hnum ?_)); refine Ev.congr (fun k => by rw [if_pos e2, e0, e1]) (Ev.bind hp (Ev.bind (a := (r, true)) (f := fun _ x => some x.1) ?_ (show Ev (fun _ => some r) r from Ev.now _))); unfold Yx.f; refine Ev.congr (fun k => by rw [if_pos ⟨by omega, by omega, by omega⟩]) (Ev.bind hnum ?_); refine Ev.congr (fun k => by rw [if_pos e2, e0, e1]) (Ev.bind eu ?_); simp only [if_true]; rw [g2]; exact Ev.now _
end FavT
end Go.Proofs.YtadafplbgophfaaGreatDoor.PA
end
