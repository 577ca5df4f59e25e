/- The walks of res.Right, taints.Right, spec.RightMachine, spec.RightGroup, group.Right. No condition. -/
import Derived.Test.YtdpchfifaidamaaU4
import Derived.Handy
namespace Go.Proofs.Ytdpchfifaidamaa.U
open Go.RowKit Go.Maps Go.Proofs.YtdpchfifaidamaaW.PrintWords Go.Proofs.YtdpchfifaidamaaW.PrintLast Go.Proofs.Ytdpchfifaidamaa.B Go.Proofs.Ytdpchfifaidamaa.PLedgerTells
set_option linter.unusedVariables false
set_option linter.unusedSimpArgs false

theorem row_calls (r : S70) (w : World) : Calls Try.prog 154 #[.agg #[.int .i64 r.f0, .int .i64 r.f1, .int .i64 r.f2, .int .i64 r.f3, .int .i64 r.f4]] w fun e w' => e = .returned (.agg #[.int .i64 r.f0, .int .i64 r.f1, .int .i64 r.f2, .int .i64 r.f3, .int .i64 r.f4]) ∧ Fr no w w' := by
  have hu70 := Try.underlying70
  have hu175 := Try.underlying175
  go_enter Try.func154, Try.ntmps154
  go_wp2
  go_returns
  exact ⟨rfl, ((Fr.refl w no).alloc _).alloc _⟩
def resAt (r : S70) (k : Nat) : Int := if k = 0 then r.f0 else if k = 1 then r.f1 else if k = 2 then r.f2 else if k = 3 then r.f3 else r.f4
theorem res_index (r : S70) (k : Nat) (hk : k < 5) (W : World) : (Instr.index 175 (.agg #[.int .i64 r.f0, .int .i64 r.f1, .int .i64 r.f2, .int .i64 r.f3, .int .i64 r.f4]) (.int .i64 (k : Nat))).run Try.prog W = .ok (.int .i64 (resAt r k)) W := by
  rcases (by omega : k = 0 ∨ k = 1 ∨ k = 2 ∨ k = 3 ∨ k = 4) with rfl | rfl | rfl | rfl | rfl
  · show _ = Result.ok (Value.int .i64 r.f0) W; kernel_rfl
  · show _ = Result.ok (Value.int .i64 r.f1) W; kernel_rfl
  · show _ = Result.ok (Value.int .i64 r.f2) W; kernel_rfl
  · show _ = Result.ok (Value.int .i64 r.f3) W; kernel_rfl
  · show _ = Result.ok (Value.int .i64 r.f4) W; kernel_rfl
theorem res_all (r : S70) : resB r = allF (fun k => oneB (resAt r k)) 5 0 := by
  simp [allF, resB, resAt]
set_option maxRecDepth 100000 in
theorem res_calls (r : S70) (w : World) : Calls Try.prog 149 #[.agg #[.int .i64 r.f0, .int .i64 r.f1, .int .i64 r.f2, .int .i64 r.f3, .int .i64 r.f4]] w fun e w' => e = .returned (.bool (resB r)) ∧ Fr no w w' := by
  have hu70 := Try.underlying70
  have hu175 := Try.underlying175
  go_enter Try.func149, Try.ntmps149
  go_wp2_with (go_at_call 154; refine (row_calls r _).mono ?_; rintro e w1 ⟨rfl, hf1⟩; have HF := Aside0.mk (((Fr.refl w no).alloc _).then_ hf1 (fun _ h => .inl h)); clear hf1)
  go_loop [4, 7] (fun v4 v7 => ∃ k : Nat, k ≤ 5 ∧ v7 = .int .i64 k ∧ Aside0 (allF (fun k => oneB (resAt r k)) k 0 = true)) (fun _ v7 => 5 - (intOf v7).toNat)
  case atStart => exact ⟨0, by omega, rfl, ⟨rfl⟩⟩
  case round =>
    obtain ⟨k, hk, rfl, HI⟩ := hrel
    by_cases hlt : k < 5
    · have hix := res_index r k hlt
      obtain ⟨x, hx⟩ : ∃ x, x = resAt r k := ⟨_, rfl⟩
      rw [← hx] at hix
      have HX := Aside0.mk hx
      clear hx
      by_cases h1 : x < 0
      · have HNO := Aside0.mk (show resB r = false from by rw [res_all]; exact allF_no hlt (by rw [← HX.out]; unfold oneB; rw [decide_eq_false (by omega)]; rfl))
        go_wp2
        go_ret
        exact ⟨by rw [HNO.out]; rfl, HF.out⟩
      · by_cases h2 : 1125899906842624 < x
        · have HNO := Aside0.mk (show resB r = false from by rw [res_all]; exact allF_no hlt (by rw [← HX.out]; unfold oneB; rw [decide_eq_false (show ¬ x ≤ 1125899906842624 by omega), Bool.and_false]))
          go_wp2
          go_ret
          exact ⟨by rw [HNO.out]; rfl, HF.out⟩
        · have HOK := Aside0.mk (show oneB (resAt r k) = true from by rw [← HX.out]; unfold oneB; rw [decide_eq_true (show (0 : Int) ≤ x by omega), decide_eq_true (show x ≤ 1125899906842624 by omega)]; rfl)
          go_wp2
          go_round
          case rel => exact ⟨k + 1, by omega, by go_num, ⟨allF_succ HI.out HOK.out⟩⟩
          case measure => simp [intOf]; omega
    · obtain rfl : k = 5 := by omega
      have HY := Aside0.mk (show resB r = true from by rw [res_all]; exact HI.out)
      clear hlt
      go_wp2
      go_ret
      exact ⟨by rw [HY.out]; rfl, HF.out⟩

/-! ### taints.Right -/
theorem eqT (d : Nat) (w : World) (x0 y0 : ByteArray) (x1 y1 : ByteArray) (x2 y2 : Int) :
    (Op.equalIn (d + 2) 157 (.agg #[.string x0, .string x1, .int .i64 x2]) (.agg #[.string y0, .string y1, .int .i64 y2])).run Try.prog w = .ok (x0.toList == y0.toList && (x1.toList == y1.toList && (x2 == y2))) w := by
  refine eqA_of Try.underlying157 (by kernel_rfl) ?_
  refine eqf_cons (by rfl) (by go_simp; rfl) (by go_simp; rfl) (by go_simp) ?_
  refine eqf_cons (by rfl) (by go_simp; rfl) (by go_simp; rfl) (by go_simp) ?_
  exact eqf_last (by rfl) (by go_simp; rfl) (by go_simp; rfl) (by go_simp)
attribute [local go_sem high] eqT
theorem tlike_calls (a b : ByteArray) (n : Int) (w : World) : Calls Try.prog 157 #[.agg #[.string a, .string b, .int .i64 n]] w fun e w' => e = .returned (.agg #[.string a, .string ⟨#[]⟩, .int .i64 n]) ∧ Fr no w w' :=
  (taints_like.calls a b n a ⟨#[]⟩ n w rfl).mono fun e w' h => ⟨h.1, Fr.of_below h.2 _⟩
theorem tknown_calls (n : Int) (w : World) : Calls Try.prog 156 #[.int .i64 n] w fun e w' => e = .returned (.bool (effB n)) ∧ Fr no w w' :=
  calls_drawn (taints_known.calls n (effB n) w (by
    unfold taints_known.f effB
    by_cases h1 : n = 1
    · subst h1; rfl
    · rw [if_neg h1]
      by_cases h2 : n = 2
      · subst h2; rfl
      · rw [if_neg h2]
        simp only [Option.some.injEq]
        rw [Bool.eq_iff_iff]
        simp
        omega))
structure TR (w wr : World) (l : List S157) (i : Nat) : Prop where
  fr : Fr no w wr
  ok : allF (tnt1 l) i 0 = true
structure TI (w wr : World) (l : List S157) (i k : Nat) : Prop where
  fr : Fr no w wr
  ok : allF (tnt2 l i) k 0 = true
theorem taints_no {l : List S157} {i : Nat} (hi : i < l.length) (hp : tnt1 l i = false) : taintsB l = false := by
  unfold taintsB
  rw [allF_no hi hp, Bool.and_false]
theorem taints_end {l : List S157} (h : allF (tnt1 l) l.length 0 = true) : taintsB l = decide (l.length ≤ 16) := by
  unfold taintsB
  rw [h, Bool.and_true]
set_option maxRecDepth 100000 in
set_option maxHeartbeats 4000000 in
theorem taints_calls (w : World) (A : Option Addr) (c : Nat) (l : List S157) (hr : Kd.C k157 w A l.length l) (hc : l.length ≤ c) (hl : l.length ≤ 1000000) (hk : OkT l) :
    Calls Try.prog 150 #[.slice A l.length c] w fun e w' => e = .returned (.bool (taintsB l)) ∧ Fr no w w' := by
  have HR := Aside0.mk hr
  have HK := Aside0.mk hk
  have HLEN := Aside0.mk hl
  have hu157 := Try.underlying157
  clear hr hk
  go_enter Try.func150, Try.ntmps150
  go_wp2
  go_loopw [3, 4, 6, 9] (fun v3 v4 v6 v9 wr => ∃ i : Nat, i ≤ l.length ∧ v9 = .int .i64 i ∧ Aside0 (TR w wr l i)) (fun _ _ _ v9 _ => l.length - (intOf v9).toNat)
  case atStart => exact ⟨0, by omega, rfl, ⟨⟨Fr.refl _ _, rfl⟩⟩⟩
  case round =>
    obtain ⟨i, hi, rfl, HI⟩ := hrel
    obtain ⟨wo, rfl⟩ : ∃ wo : World, wo = wr := ⟨_, rfl⟩
    by_cases hlt : i < l.length
    · obtain ⟨ad, e, hc0, hc1, hc2⟩ := at_T157 HR.out (i : Int) (by omega) (by omega)
      cases e
      rw [Int.toNat_natCast] at hc0 hc1 hc2
      have e0 : rd_T157 l (i : Int) = l.getD i z157 := by unfold rd_T157; simp
      rw [e0] at hc0 hc1 hc2
      obtain ⟨x, hx⟩ : ∃ x, x = l.getD i z157 := ⟨_, rfl⟩
      rw [← hx] at hc0 hc1 hc2
      have hd0 := cell_fr hc0 HI.out.fr (fun h => h)
      have hd1 := cell_fr hc1 HI.out.fr (fun h => h)
      have hd2 := cell_fr hc2 HI.out.fr (fun h => h)
      have HX := Aside0.mk hx
      obtain ⟨bx, hbx⟩ : ∃ bx, bx = wo.heap.size := ⟨_, rfl⟩
      have HBX := Aside0.mk hbx
      have hba := heap_alloc_new wo (.cells #[.string x.f0, .string x.f1, .int .i64 x.f2] 157)
      rw [← hbx] at hba
      have HBA := Aside0.mk hba
      have HI0 := Aside0.mk (HI.out.fr.then_ ((Fr.refl wo no).alloc (.cells #[.string x.f0, .string x.f1, .int .i64 x.f2] 157)) (fun _ h => .inl h))
      have HKB := Aside0.mk (show x.f0.size ≤ 4611686018427387904 from hx ▸ HK.out.key i)
      have HVB := Aside0.mk (show x.f1.size ≤ 4611686018427387904 from hx ▸ HK.out.val i)
      have HALL := Aside0.mk (show tnt1 l i = (wordB x.f0 && (maybeB x.f1 && (effB x.f2 && allF (tnt2 l i) i 0))) from by rw [hx]; rfl)
      clear hc0 hc1 hc2 e0 hx hbx hba
      cases hw : wordB x.f0 with
      | false =>
        have HW := Aside0.mk hw
        have HNO := Aside0.mk (show tnt1 l i = false from by rw [HALL.out, hw]; rfl)
        clear hw
        go_wp2_with (first
          | (go_at_call 110; refine (word_calls x.f0 _ HKB.out).mono ?_; rintro e w3 ⟨rfl, hf3⟩; rw [HW.out]; have HA := Aside0.mk hf3; clear hf3))
        go_ret
        exact ⟨by rw [taints_no hlt HNO.out]; rfl, HI0.out.then_ HA.out (fun _ h => .inl h)⟩
      | true =>
        have HW := Aside0.mk hw
        rw [hw, Bool.true_and] at HALL
        clear hw
        cases hm : maybeB x.f1 with
        | false =>
          have HM := Aside0.mk hm
          have HNO := Aside0.mk (show tnt1 l i = false from by rw [HALL.out, hm]; rfl)
          clear hm
          go_wp2_with (first
            | (go_at_call 110; refine (word_calls x.f0 _ HKB.out).mono ?_; rintro e w3 ⟨rfl, hf3⟩; rw [HW.out]; have HA := Aside0.mk hf3; clear hf3; rw [← HBX.out]; have hb := blk_fr HBA.out HA.out (fun h => h); have hy1 : w3.cell? ⟨bx, 1, none⟩ = some (.string x.f1) := (blk_cell hb 1).trans rfl; clear hb)
            | (go_at_call 155; refine (tmaybe_calls x.f1 _ HVB.out).mono ?_; rintro e w4 ⟨rfl, hf4⟩; rw [HM.out]; have HA4 := Aside0.mk (HA.out.then_ hf4 (fun _ h => .inl h)); clear hf4))
          go_ret
          exact ⟨by rw [taints_no hlt HNO.out]; rfl, HI0.out.then_ HA4.out (fun _ h => .inl h)⟩
        | true =>
          have HM := Aside0.mk hm
          rw [hm, Bool.true_and] at HALL
          clear hm
          cases he : effB x.f2 with
          | false =>
            have HE := Aside0.mk he
            have HNO := Aside0.mk (show tnt1 l i = false from by rw [HALL.out, he]; rfl)
            clear he
            go_wp2_with (first
              | (go_at_call 110; refine (word_calls x.f0 _ HKB.out).mono ?_; rintro e w3 ⟨rfl, hf3⟩; rw [HW.out]; have HA := Aside0.mk hf3; clear hf3; rw [← HBX.out]; have hb := blk_fr HBA.out HA.out (fun h => h); have hy1 : w3.cell? ⟨bx, 1, none⟩ = some (.string x.f1) := (blk_cell hb 1).trans rfl; clear hb)
              | (go_at_call 155; refine (tmaybe_calls x.f1 _ HVB.out).mono ?_; rintro e w4 ⟨rfl, hf4⟩; rw [HM.out]; have HA4 := Aside0.mk (HA.out.then_ hf4 (fun _ h => .inl h)); clear hf4; have hb := blk_fr HBA.out HA4.out (fun h => h); have hy2 : w4.cell? ⟨bx, 2, none⟩ = some (.int .i64 x.f2) := (blk_cell hb 2).trans rfl; clear hb)
              | (go_at_call 156; refine (tknown_calls x.f2 _).mono ?_; rintro e w5 ⟨rfl, hf5⟩; rw [HE.out]; have HA5 := Aside0.mk (HA4.out.then_ hf5 (fun _ h => .inl h)); clear hf5))
            go_ret
            exact ⟨by rw [taints_no hlt HNO.out]; rfl, HI0.out.then_ HA5.out (fun _ h => .inl h)⟩
          | true =>
            have HE := Aside0.mk he
            rw [he, Bool.true_and] at HALL
            clear he
            go_wp2_with (first
              | (go_at_call 110; refine (word_calls x.f0 _ HKB.out).mono ?_; rintro e w3 ⟨rfl, hf3⟩; rw [HW.out]; have HA := Aside0.mk hf3; clear hf3; rw [← HBX.out]; have hb := blk_fr HBA.out HA.out (fun h => h); have hy1 : w3.cell? ⟨bx, 1, none⟩ = some (.string x.f1) := (blk_cell hb 1).trans rfl; clear hb)
              | (go_at_call 155; refine (tmaybe_calls x.f1 _ HVB.out).mono ?_; rintro e w4 ⟨rfl, hf4⟩; rw [HM.out]; have HA4 := Aside0.mk (HA.out.then_ hf4 (fun _ h => .inl h)); clear hf4; have hb := blk_fr HBA.out HA4.out (fun h => h); have hy2 : w4.cell? ⟨bx, 2, none⟩ = some (.int .i64 x.f2) := (blk_cell hb 2).trans rfl; clear hb)
              | (go_at_call 156; refine (tknown_calls x.f2 _).mono ?_; rintro e w5 ⟨rfl, hf5⟩; rw [HE.out]; have HA5 := Aside0.mk (HA4.out.then_ hf5 (fun _ h => .inl h)); clear hf5; have hb := blk_fr HBA.out HA5.out (fun h => h); have HB5 := Aside0.mk hb; have HI5 := Aside0.mk (HI0.out.then_ HA5.out (fun _ h => .inl h)); clear hb))
            clear HA HA4 HA5 HBA HW HM HE
            go_loopw [6, 34] (fun v6 v34 wi => ∃ k : Nat, k ≤ i ∧ v34 = .int .i64 k ∧ Aside0 (TI w5 wi l i k)) (fun _ v34 _ => i - (intOf v34).toNat)
            case atStart => exact ⟨0, by omega, rfl, ⟨⟨Fr.refl _ _, rfl⟩⟩⟩
            case round =>
              obtain ⟨k, hk, rfl, HK2⟩ := hrel
              by_cases hki : k < i
              · obtain ⟨ad2, e2, hq0, hq1, hq2⟩ := at_T157 HR.out (k : Int) (by omega) (by omega)
                cases e2
                rw [Int.toNat_natCast] at hq0 hq1 hq2
                have e3 : rd_T157 l (k : Int) = l.getD k z157 := by unfold rd_T157; simp
                rw [e3] at hq0 hq1 hq2
                obtain ⟨y, hy⟩ : ∃ y, y = l.getD k z157 := ⟨_, rfl⟩
                rw [← hy] at hq0 hq1 hq2
                have hfw := HI5.out.then_ HK2.out.fr (fun _ h => .inl h)
                have hp0 := cell_fr hq0 hfw (fun h => h)
                have hp1 := cell_fr hq1 hfw (fun h => h)
                have hp2 := cell_fr hq2 hfw (fun h => h)
                have HT2 := Aside0.mk (show tnt2 l i k = !(decide (y.f0 = x.f0) && decide (y.f2 = x.f2)) from by rw [hy, HX.out]; rfl)
                have hbw := blk_fr HB5.out HK2.out.fr (fun h => h)
                have HBW := Aside0.mk hbw
                obtain ⟨by2, hby⟩ : ∃ by2, by2 = wr.heap.size := ⟨_, rfl⟩
                have HBY := Aside0.mk hby
                have hbb := heap_alloc_new wr (.cells #[.string y.f0, .string y.f1, .int .i64 y.f2] 157)
                rw [← hby] at hbb
                have HBB := Aside0.mk hbb
                clear hq0 hq1 hq2 e3 hy hfw hbw hby hbb
                go_upto_region 9 with fail
                rw [← HBY.out]
                have hbx2 := blk_fr HBW.out ((Fr.refl wr no).alloc (.cells #[.string y.f0, .string y.f1, .int .i64 y.f2] 157)) (fun h => h)
                have HAL := Aside0.mk ((Fr.refl wr no).alloc (.cells #[.string y.f0, .string y.f1, .int .i64 y.f2] 157))
                obtain ⟨wc, hwc⟩ : ∃ wc, wc = wr.alloc (.cells #[.string y.f0, .string y.f1, .int .i64 y.f2] 157) := ⟨_, rfl⟩
                rw [← hwc] at HBB hbx2 HAL ⊢
                have HG0 := Aside0.mk (show wc.cell? ⟨bx, 0, none⟩ = some (.string x.f0) from (blk_cell hbx2 0).trans rfl)
                have HG1 := Aside0.mk (show wc.cell? ⟨bx, 1, none⟩ = some (.string x.f1) from (blk_cell hbx2 1).trans rfl)
                have HG2 := Aside0.mk (show wc.cell? ⟨bx, 2, none⟩ = some (.int .i64 x.f2) from (blk_cell hbx2 2).trans rfl)
                have HH0 := Aside0.mk (show wc.cell? ⟨by2, 0, none⟩ = some (.string y.f0) from (blk_cell HBB.out 0).trans rfl)
                have HH1 := Aside0.mk (show wc.cell? ⟨by2, 1, none⟩ = some (.string y.f1) from (blk_cell HBB.out 1).trans rfl)
                have HH2 := Aside0.mk (show wc.cell? ⟨by2, 2, none⟩ = some (.int .i64 y.f2) from (blk_cell HBB.out 2).trans rfl)
                obtain ⟨q1, hq1⟩ : ∃ q1, q1 = (x.f0.toList == y.f0.toList) := ⟨_, rfl⟩
                obtain ⟨q2, hq2⟩ : ∃ q2, q2 = (x.f2 == y.f2) := ⟨_, rfl⟩
                have HQ := Aside0.mk (show tnt2 l i k = !(q1 && q2) from by
                  rw [HT2.out, hq1, hq2]
                  congr 2
                  · rw [Bool.eq_iff_iff]; simp only [decide_eq_true_eq, beq_iff_eq]; exact ⟨fun h => toList_eq.2 h.symm, fun h => (toList_eq.1 h).symm⟩
                  · rw [Bool.eq_iff_iff]; simp only [decide_eq_true_eq, beq_iff_eq]; exact ⟨fun h => h.symm, fun h => h.symm⟩)
                have HA := Aside0.mk (Fr.refl wc no).drew
                clear hwc hbx2 HT2
                replace hq1 := hq1.symm
                replace hq2 := hq2.symm
                go_cut [42] from 38 to 42 (fun v42 wd => v42 = .bool (q1 && q2) ∧ Aside0 (Fr no wc wd))
                case first =>
                  go_region_held3 (fun W => W.cell? ⟨bx, 0, none⟩ = some (.string x.f0) ∧ W.cell? ⟨bx, 1, none⟩ = some (.string x.f1) ∧ W.cell? ⟨bx, 2, none⟩ = some (.int .i64 x.f2) ∧ W.cell? ⟨by2, 0, none⟩ = some (.string y.f0) ∧ W.cell? ⟨by2, 1, none⟩ = some (.string y.f1) ∧ W.cell? ⟨by2, 2, none⟩ = some (.int .i64 y.f2)) (first
                    | exact ⟨HG0.out, HG1.out, HG2.out, HH0.out, HH1.out, HH2.out⟩
                    | exact ⟨cell_fr HG0.out HA.out (fun h => h), cell_fr HG1.out HA.out (fun h => h), cell_fr HG2.out HA.out (fun h => h), cell_fr HH0.out HA.out (fun h => h), cell_fr HH1.out HA.out (fun h => h), cell_fr HH2.out HA.out (fun h => h)⟩)
                    (first
                    | (go_at_call_of 157 (Value.string x.f1); refine (tlike_calls x.f0 x.f1 x.f2 _).mono ?_; rintro e w6 ⟨rfl, hf6⟩; replace HA := Aside0.mk (HA.out.then_ hf6 (fun _ h => .inl h)); clear hf6)
                    | (go_at_call_of 157 (Value.string y.f1); refine (tlike_calls y.f0 y.f1 y.f2 _).mono ?_; rintro e w6 ⟨rfl, hf6⟩; replace HA := Aside0.mk (HA.out.then_ hf6 (fun _ h => .inl h)); clear hf6))
                  go_wp2_with fail
                  go_meet
                  exact ⟨rfl, HA⟩
                case rest =>
                obtain ⟨rfl, HA2⟩ := hcut
                have HFI := Aside0.mk ((HK2.out.fr.then_ HAL.out (fun _ h => .inl h)).then_ HA2.out (fun _ h => .inl h))
                clear hq1 hq2
                cases hqq : (q1 && q2) with
                | true =>
                  have HNO := Aside0.mk (show tnt1 l i = false from by rw [HALL.out]; exact allF_no hki (by rw [HQ.out, hqq]; rfl))
                  clear hqq
                  go_wp2_with fail
                  go_ret
                  exact ⟨by rw [taints_no hlt HNO.out]; rfl, HI5.out.then_ HFI.out (fun _ h => .inl h)⟩
                | false =>
                  have HY := Aside0.mk (show tnt2 l i k = true from by rw [HQ.out, hqq]; rfl)
                  clear hqq
                  go_wp2_with fail
                  go_roundw
                  case rel => exact ⟨k + 1, by omega, by go_num, ⟨⟨HFI.out, allF_succ HK2.out.ok HY.out⟩⟩⟩
                  case measure => simp [intOf]; omega
              · obtain rfl : k = i := by omega
                have HY := Aside0.mk (show tnt1 l k = true from by rw [HALL.out]; exact HK2.out.ok)
                go_wp2_with fail
                go_roundw
                case rel => exact ⟨k + 1, by omega, by go_num, ⟨⟨HI5.out.then_ HK2.out.fr (fun _ h => .inl h), allF_succ HI.out.ok HY.out⟩⟩⟩
                case measure => simp [intOf]; omega
    · obtain rfl : i = l.length := by omega
      have HEND := Aside0.mk (taints_end HI.out.ok)
      go_wp2_with fail
      go_ret
      exact ⟨by rw [HEND.out]; simp <;> omega, HI.out.fr⟩
end Go.Proofs.Ytdpchfifaidamaa.U
