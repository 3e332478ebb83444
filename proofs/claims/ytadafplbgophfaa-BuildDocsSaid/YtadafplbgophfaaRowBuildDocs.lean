/- The row of the law BuildDocs: the arguments opened, the printed walk, the result shut. -/
import Derived.Test.YtadafplbgophfaaRows
import Derived.Test.YtadafplbgophfaabuildDocs6
import Derived.WalkKit
import Derived.ProofKit
import Derived.OpenShut
import Derived.ShutString
import Derived.ChangeOld
import Derived.Below
import Derived.SizedLaws
namespace Go.Proofs.Ytadafplbgophfaa.buildDocs
open Go.ChangeShapes Go.WideShapes Go.ChangeAt Go.RowKit
open Go.ChangeMaps (open_string shut_string)
set_option linter.unusedVariables false
theorem own : ownKnob Try.prog.godebug = none := by kernel_rfl
theorem Qky : laidOutB Try.prog = true := by kernel_rfl
set_option maxRecDepth 100000 in
theorem Qpq (os : Os) (started : os.Started) (H : Type) (enc : TypeId × Value → H) :
    ReturnsInHanded {} Try.checked os 16 .any (Rows.buildDocsSpec.pre6 enc Try.prog Try.f16 Rows.buildDocsRow.domain false) (Rows.buildDocsSpec.post enc Try.prog Try.f16 false true false false) := by
  refine returnsInHanded_of_change_sized (C := Try.checked) own started (by kernel_rfl) Try.func16
    (ChangeSpec.witness6 (enc := enc) (C := Try.checked) false ⟨#[], #[.agg #[.string ⟨#[]⟩, .string ⟨#[]⟩, .string ⟨#[]⟩], .int .i64 0, .agg #[.string ⟨#[]⟩, .string ⟨#[]⟩, .string ⟨#[]⟩, .bool false, .string ⟨#[]⟩, .string ⟨#[]⟩, .string ⟨#[]⟩, .string ⟨#[]⟩, .bool false]], []⟩ 8 (by kernel_rfl) (by kernel_rfl) (by kernel_rfl) (by kernel_rfl)) ?_
  intro W base args ds gs before hval0 hW hcnd hsz0 _
  have hsz : (DataW.weightsEach Try.prog (Try.f16.params.toList ++ Rows.buildDocsSpec.plain.varTypes Try.prog) (ds ++ gs)).all (· ≤ reachBytes) = true := hsz0
  have hval : ∀ (j : Nat) t v, Try.f16.params[j]? = some t → args[j]? = some v → Value.okWide Try.prog W .any base t v := hval0
  have hW' := hW
  obtain ⟨p, q, hA0, hV, rfl, hfz, hnd⟩ := hW
  have hA : DataW.TrodAll enc Try.prog W 0 (fun _ => true) true Try.f16.params.toList args.toList ds p := hA0
  rw [Try.params16] at hA hval hsz
  obtain ⟨v0, vs0, d0, ds0, p0, q0, hargs, rfl, rfl, h0, r0⟩ := trodAll_cons hA
  obtain ⟨v1, vs1, d1, ds1, p1, q1, rfl, rfl, rfl, h1, r1⟩ := trodAll_cons r0
  obtain ⟨v2, vs2, d2, ds2, p2, q2, rfl, rfl, rfl, h2, r2⟩ := trodAll_cons r1
  obtain ⟨rfl, rfl, rfl⟩ := trodAll_nil r2
  obtain rfl : args = #[v0, v1, v2] := by cases args; simp_all
  obtain ⟨rfl, rfl⟩ := trodVars_none hV
  obtain ⟨x0, y0, z0, rfl⟩ := PA.row_arr3s Try.underlying105 Try.underlying9 (by kernel_rfl) (by kernel_rfl) (hval 0 105 v0 rfl rfl) h0
  have k0 := h0
  have lt0 : ∀ x ∈ p0, x.block < W.heap.size := by obtain ⟨m, hm⟩ := k0; exact DataW.trod_lt m _ _ _ hm
  obtain ⟨a1, rfl, rfl, rfl, hi1⟩ := open_int Try.underlying3 (hval 1 3 v1 rfl rfl) h1
  have z2 : ∀ n ∈ d2.weights Try.prog 123, n ≤ reachBytes := fun n hn => by simpa using List.all_eq_true.1 hsz n (DataW.weights_mem_each (j := 2) (t := 123) rfl rfl n hn)
  obtain ⟨y2, rfl, hz2⟩ := PA.row_part (hval 2 123 v2 rfl rfl) h2 z2
  have k2 := h2
  have lt2 : ∀ x ∈ p2, x.block < W.heap.size := by obtain ⟨m, hm⟩ := k2; exact DataW.trod_lt m _ _ _ hm
  clear hA0 hval0 hsz0 hsz
  refine (PA.BuildDocs_walk x0 y0 z0 a1 y2 W  (by unfold Pure.Res.szs; have : reachBytes = 140737488351232 := rfl; omega)).mono fun e W' ⟨he, bel⟩ => ?_
  subst he
  exact ⟨_, rfl, _, _, _, [], _, [], hW', trodAll_mk1 (shut_bool Try.underlying4 _), (trodAll_cons_mk (Below.trod Qky (by kernel_rfl) (of_decide_eq_true (by kernel_rfl)) k0 bel lt0) (trodAll_cons_mk (shut_int Try.underlying3 hi1) (trodAll_cons_mk (Below.trod Qky (by kernel_rfl) (of_decide_eq_true (by kernel_rfl)) k2 bel lt2) trodAll_mk0))), rfl, bel.frame _, fun h => by cases h⟩
theorem c0 : Try.pinned.checked.prog.inPlace 16 = Rows.buildDocsRow.inPlace := by kernel_rfl
theorem c1 : Try.pinned.checked.prog.unfollowed 16 = Rows.buildDocsRow.unfollowed := by kernel_rfl
theorem c2 : Try.pinned.checked.prog.recurses 16 = Rows.buildDocsRow.recurses := by kernel_rfl
theorem c3 : Try.pinned.checked.prog.varsNamed 16 = Rows.buildDocsRow.named := by kernel_rfl
theorem Qjw : joinedFacts Try.pinned.checked.prog 16 Try.f16 Rows.buildDocsSpec Rows.buildDocsRow = true := by
  unfold joinedFacts
  rw [c0, c1, c2, c3]
  kernel_rfl
theorem Qqk : Try.f16.isInstance Try.pinned.checked.prog Rows.buildDocsRow.origin Rows.buildDocsRow.targs := of_decide_eq_true (by kernel_rfl)
theorem wrap : Try.f16.isWrapper Try.pinned.checked.prog Rows.buildDocsRow.wrapper Rows.buildDocsRow.mainSum := by unfold Func.isWrapper; first | (rw [if_pos (by decide +kernel)]; kernel_rfl) | (rw [if_neg (by decide +kernel)]; exact ⟨rfl, rfl⟩)
theorem Qhp : Rows.buildDocsRow.holds Try.pinned (OpenSpec.ofChange Rows.buildDocsSpec) :=
  OpenClaim.holds_of_wide 16 Try.f16 rfl rfl rfl rfl rfl rfl rfl ⟨rfl, rfl, rfl, rfl, rfl⟩ rfl rfl rfl rfl rfl (by kernel_rfl) Try.func16 Qjw Qqk wrap
    (fun os started H enc _ => Qpq os started H enc)
theorem proved : Rows.BuildDocsSaid := Qhp
end Go.Proofs.Ytadafplbgophfaa.buildDocs
namespace Go.Proofs.Ytadafplbgophfaa
/-- The row, under a short name, for the claim. -/
theorem buildDocs_holds : Rows.BuildDocsSaid := buildDocs.proved
end Go.Proofs.Ytadafplbgophfaa
