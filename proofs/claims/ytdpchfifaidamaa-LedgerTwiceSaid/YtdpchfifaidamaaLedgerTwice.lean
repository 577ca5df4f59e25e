/- The statement LedgerTwice: for every input the law returns true, and each argument reads as it did. No condition. -/
import Derived.Test.YtdpchfifaidamaaRows
import Derived.Test.YtdpchfifaidamaaLk
import Derived.Test.YtdpchfifaidamaaLn
import Derived.WalkKit
import Derived.ProofKit
import Derived.OpenShut
import Derived.ShutString
import Derived.ChangeOld
import Derived.Below
import Derived.SizedLaws
namespace Go.Proofs.Ytdpchfifaidamaa.ledgerTwice
open Go.ChangeShapes Go.WideShapes Go.ChangeAt Go.RowKit
open Go.ChangeMaps (open_string shut_string)
set_option linter.unusedVariables false
set_option linter.unusedSimpArgs false
theorem own : ownKnob Try.prog.godebug = none := by kernel_rfl
theorem laidOut : laidOutB Try.prog = true := by kernel_rfl
set_option maxRecDepth 100000 in
theorem lifted (os : Os) (started : os.Started) (H : Type) (enc : TypeId × Value → H) :
    ReturnsInHanded {} Try.checked os 12 .any (Rows.ledgerTwiceSpec.pre6 enc Try.prog Try.f12 Rows.ledgerTwiceRow.domain false) (Rows.ledgerTwiceSpec.post enc Try.prog Try.f12 false true false false) := by
  refine returnsInHanded_of_change_sized (C := Try.checked) own started (by kernel_rfl) Try.func12
    (ChangeSpec.witness6 (enc := enc) (C := Try.checked) false ⟨#[], #[.slice none 0 0, .slice none 0 0, .int .u8 0], []⟩ 8 (by kernel_rfl) (by kernel_rfl) (by kernel_rfl) (by kernel_rfl)) ?_
  intro W base args ds gs before hval0 hW hcnd hsz0 _
  have hsz : (DataW.weightsEach Try.prog (Try.f12.params.toList ++ Rows.ledgerTwiceSpec.plain.varTypes Try.prog) (ds ++ gs)).all (· ≤ reachBytes) = true := hsz0
  have hval : ∀ (j : Nat) t v, Try.f12.params[j]? = some t → args[j]? = some v → Value.okWide Try.prog W .any base t v := hval0
  have hW' := hW
  obtain ⟨p, q, hA0, hV, rfl, hfz, hnd⟩ := hW
  have hA : DataW.TrodAll enc Try.prog W 0 (fun _ => true) true Try.f12.params.toList args.toList ds p := hA0
  rw [Try.params12] at hA hval hsz
  obtain ⟨v0, vs0, d0, ds0, p0, q0, hargs, rfl, rfl, h0, r0⟩ := trodAll_cons hA
  obtain ⟨v1, vs1, d1, ds1, p1, q1, rfl, rfl, rfl, h1, r1⟩ := trodAll_cons r0
  obtain ⟨v2, vs2, d2, ds2, p2, q2, rfl, rfl, rfl, h2, r2⟩ := trodAll_cons r1
  obtain ⟨rfl, rfl, rfl⟩ := trodAll_nil r2
  obtain rfl : args = #[v0, v1, v2] := by cases args; simp_all
  obtain ⟨rfl, rfl⟩ := trodVars_none hV
  have k0 := h0
  have lt0 : ∀ x ∈ p0, x.block < W.heap.size := by obtain ⟨m, hm⟩ := k0; exact DataW.trod_lt m _ _ _ hm
  obtain ⟨a0, len0, cap0, rfl⟩ := okWide_slice Try.underlying78 (hval 0 78 v0 rfl rfl)
  obtain ⟨l0, hs0, hlc0, hcm0⟩ : ∃ l : List PLedgerTells.S76, (len0 = l.length ∧ B.SC (L.RK PLedgerTells.k76) 15 W a0 l) ∧ l.length ≤ cap0 ∧ cap0 ≤ maxLen := by
    obtain ⟨fuel, hf⟩ := h0
    obtain ⟨l, A, c, hcs, h1, h2, h3⟩ := B.opens_slice Try.underlying78 L.opens76 L.cells76 enc W 0 _ true _ _ _ hf
    simp [Value.cells] at hcs
    obtain ⟨rfl, rfl, rfl⟩ := hcs
    exact ⟨l, ⟨rfl, h3⟩, h1, h2⟩
  obtain ⟨rfl, hs0⟩ := hs0
  have k1 := h1
  have lt1 : ∀ x ∈ p1, x.block < W.heap.size := by obtain ⟨m, hm⟩ := k1; exact DataW.trod_lt m _ _ _ hm
  obtain ⟨a1, len1, cap1, rfl⟩ := okWide_slice Try.underlying94 (hval 1 94 v1 rfl rfl)
  obtain ⟨l1, hs1, hlc1, hcm1⟩ : ∃ l : List PLedgerTells.S135, (len1 = l.length ∧ B.SC (L.RK PLedgerTells.k135) 5 W a1 l) ∧ l.length ≤ cap1 ∧ cap1 ≤ maxLen := by
    obtain ⟨fuel, hf⟩ := h1
    obtain ⟨l, A, c, hcs, h1, h2, h3⟩ := B.opens_slice Try.underlying94 L.opens135 L.cells135 enc W 0 _ true _ _ _ hf
    simp [Value.cells] at hcs
    obtain ⟨rfl, rfl, rfl⟩ := hcs
    exact ⟨l, ⟨rfl, h3⟩, h1, h2⟩
  obtain ⟨rfl, hs1⟩ := hs1
  obtain ⟨a2, rfl, rfl, rfl, w2⟩ := open_int Try.underlying5 (hval 2 5 v2 rfl rfl) h2
  clear hA0 hval0 hsz0 hsz
  refine (L.twice_walk W a0 cap0 l0 a1 cap1 l1 a2 ⟨L.kd_of_sc hs0 (Nat.le_trans hlc0 hcm0), hlc0, L.kd_of_sc hs1 (Nat.le_trans hlc1 hcm1), hlc1⟩ (by have := Go.bounds_u8 w2; omega)).mono fun e W' ⟨he, bel⟩ => ?_
  subst he
  exact ⟨_, rfl, _, _, _, [], _, [], hW', trodAll_mk1 (shut_bool Try.underlying4 _), (trodAll_cons_mk (Below.trod laidOut (by kernel_rfl) (of_decide_eq_true (by kernel_rfl)) k0 bel lt0) (trodAll_cons_mk (Below.trod laidOut (by kernel_rfl) (of_decide_eq_true (by kernel_rfl)) k1 bel lt1) (trodAll_cons_mk (shut_int Try.underlying5 w2) trodAll_mk0))), rfl, bel.frame _, fun h => by cases h⟩
theorem over : Rows.ledgerTwiceRow.holds Try.pinned (OpenSpec.ofChange Rows.ledgerTwiceSpec) :=
  OpenClaim.holds_of_wide 12 Try.f12 rfl rfl rfl rfl rfl rfl rfl ⟨rfl, rfl, rfl, rfl, rfl⟩ rfl rfl rfl rfl rfl (by kernel_rfl) Try.func12 (by kernel_rfl)
    (of_decide_eq_true (by kernel_rfl)) (by unfold Func.isWrapper; first | (rw [if_pos (by decide +kernel)]; kernel_rfl) | (rw [if_neg (by decide +kernel)]; exact ⟨rfl, rfl⟩))
    (fun os started H enc _ => lifted os started H enc)
theorem proved : Rows.LedgerTwiceSaid := over
#print axioms proved
end Go.Proofs.Ytdpchfifaidamaa.ledgerTwice
namespace Go.Proofs.Ytdpchfifaidamaa
theorem ledgerTwice_holds : Rows.LedgerTwiceSaid := ledgerTwice.proved
end Go.Proofs.Ytdpchfifaidamaa
