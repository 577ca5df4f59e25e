/- The walk of the law LedgerTwice. No condition. -/
import Derived.Test.YtdpchfifaidamaaLm
namespace Go.Proofs.Ytdpchfifaidamaa.L
open Go.RowKit Go.Maps Go.Proofs.YtdpchfifaidamaaW.PrintWords Go.Proofs.Ytdpchfifaidamaa.B Go.Proofs.Ytdpchfifaidamaa.U Go.Proofs.Ytdpchfifaidamaa.PLedgerTells
set_option linter.unusedVariables false
set_option linter.unusedSimpArgs false

set_option maxRecDepth 100000 in
set_option maxHeartbeats 4000000 in
theorem twice_walk (w : World) (A1 : Option Addr) (c1 : Nat) (l : List S76) (A2 : Option Addr) (c2 : Nat) (I : List S135) (n : Int) (h : TA w A1 c1 l A2 c2 I) (hn : 0 ≤ n ∧ n ≤ 255) :
    Calls Try.prog 12 #[.slice A1 l.length c1, .slice A2 I.length c2, .int .u8 n] w fun e w' => e = .returned (.bool true) ∧ Below w.heap.size w w' := by
  have HA := Aside0.mk h
  have hu76 := Try.underlying76
  have hu94 := Try.underlying94
  have hu96 := Try.underlying96
  clear h
  have HZ := Aside0.mk (Fr.refl w no)
  obtain ⟨lb, hlb⟩ : ∃ b, b = lightB l := ⟨_, rfl⟩
  obtain ⟨gb, hgb⟩ : ∃ b, b = groupsB l := ⟨_, rfl⟩
  obtain ⟨ib, hib⟩ : ∃ b, b = lightIB [I] := ⟨_, rfl⟩
  have HLB := Aside0.mk hlb.symm
  have HGB := Aside0.mk hgb.symm
  have HIB := Aside0.mk hib.symm
  clear hlb hgb hib
  go_enter Try.func12, Try.ntmps12
  cases lb with
  | false =>
    go_wp2_with (first
      | (go_at_call 46; refine (HA.out.light HZ.out).mono ?_; rintro e w7 ⟨rfl, hf⟩; rw [HLB.out]; have HZ := Aside0.mk (HZ.out.then_ hf (fun _ h => .inl h)); clear hf)
      | (go_at_call 54; refine (known_walk _).mono ?_; rintro e w7 ⟨rfl, hf⟩; have HZ := Aside0.mk (HZ.out.then_ hf (fun _ h => .inl h)); clear hf))
    go_ret
    exact ⟨rfl, HZ.out.no_below⟩
  | true =>
    cases gb with
    | false =>
      go_wp2_with (first
        | (go_at_call 46; refine (HA.out.light HZ.out).mono ?_; rintro e w7 ⟨rfl, hf⟩; rw [HLB.out]; have HZ := Aside0.mk (HZ.out.then_ hf (fun _ h => .inl h)); clear hf)
        | (go_at_call 69; refine (HA.out.right HZ.out HLB.out).mono ?_; rintro e w7 ⟨rfl, hf⟩; rw [HGB.out]; have HZ := Aside0.mk (HZ.out.then_ hf (fun _ h => .inl h)); clear hf)
        | (go_at_call 54; refine (known_walk _).mono ?_; rintro e w7 ⟨rfl, hf⟩; have HZ := Aside0.mk (HZ.out.then_ hf (fun _ h => .inl h)); clear hf))
      go_ret
      exact ⟨rfl, HZ.out.no_below⟩
    | true =>
      cases ib with
      | false =>
        go_wp2_with (first
          | (go_at_call 46; refine (HA.out.light HZ.out).mono ?_; rintro e w7 ⟨rfl, hf⟩; rw [HLB.out]; have HZ := Aside0.mk (HZ.out.then_ hf (fun _ h => .inl h)); clear hf)
          | (go_at_call 69; refine (HA.out.right HZ.out HLB.out).mono ?_; rintro e w7 ⟨rfl, hf⟩; rw [HGB.out]; have HZ := Aside0.mk (HZ.out.then_ hf (fun _ h => .inl h)); clear hf)
          | (go_at_call 53; refine (HA.out.list HZ.out).mono ?_; rintro e w7 ⟨rfl, hf⟩; rw [HIB.out]; have HZ := Aside0.mk (HZ.out.then_ hf (fun _ h => .inl h)); clear hf)
          | (go_at_call 54; refine (known_walk _).mono ?_; rintro e w7 ⟨rfl, hf⟩; have HZ := Aside0.mk (HZ.out.then_ hf (fun _ h => .inl h)); clear hf))
        go_ret
        exact ⟨rfl, HZ.out.no_below⟩
      | true =>
        have HI := Aside0.mk (show ltI I = true from (lists_of HIB.out).2 0)
        have HI60 := Aside0.mk (rowI_of HI.out).1
        have HL20 := Aside0.mk (okA_of HLB.out).2.1
        go_upto_region 4 with (first
          | (go_at_call 46; refine (HA.out.light HZ.out).mono ?_; rintro e w7 ⟨rfl, hf⟩; rw [HLB.out]; have HZ := Aside0.mk (HZ.out.then_ hf (fun _ h => .inl h)); clear hf)
          | (go_at_call 69; refine (HA.out.right HZ.out HLB.out).mono ?_; rintro e w7 ⟨rfl, hf⟩; rw [HGB.out]; have HZ := Aside0.mk (HZ.out.then_ hf (fun _ h => .inl h)); clear hf)
          | (go_at_call 53; refine (HA.out.list HZ.out).mono ?_; rintro e w7 ⟨rfl, hf⟩; rw [HIB.out]; have HZ := Aside0.mk (HZ.out.then_ hf (fun _ h => .inl h)); clear hf)
          | (go_at_call 55; refine (HA.out.new HZ.out HLB.out HGB.out).mono ?_; rintro e w3 ⟨g, v, rfl, hlt, hf, hg⟩; have HT := Aside0.mk (TT.mk (w := w) hlt (fun k hk => by
              rcases hk with rfl | hk
              · exact Nat.le_trans HZ.out.size hg
              · exact Nat.le_trans HZ.out.size (hlt.own.base_le hk))); have HZ := Aside0.mk (HZ.out.then_ hf (fun _ h => .inl h)); clear hlt hf hg))
        obtain ⟨base, HT0⟩ : ∃ base, Aside0 (TT w w3 g v base l I 0) := ⟨_, HT⟩
        clear HT
        go_upto_region 7 with (go_at_call 57; refine (HA.out.add HZ.out HGB.out HI.out HLB.out HT0.out (by omega)).mono ?_; rintro e w4 ⟨rfl, ht, hf, -⟩; have HT := Aside0.mk ht; have HZ := Aside0.mk hf; clear ht hf)
        clear HT0
        go_upto_region 8 with (go_at_call 59; refine (HT.out.copy HZ.out HL20.out).mono ?_; rintro e w5 ⟨g', v', rfl, ht, htc, hf, hg', hd⟩; have HB5 := Aside0.mk (TB.mk ht htc (HZ.out.then_ hf (fun _ h => .inl h))); have HGE := Aside0.mk hg'; have HD := Aside0.mk hd; clear ht htc hf hg' hd)
        clear HT HZ
        obtain ⟨B, HB5', HGE', HD'⟩ : ∃ B, Aside0 (TB w w5 g g' v v' base B l I 1) ∧ Aside0 (B ≤ g') ∧ Aside0 (∀ k, SA g v k → k < B) := ⟨_, HB5, HGE, HD⟩
        clear HB5 HGE HD
        obtain ⟨N, hN⟩ : ∃ N : Nat, (N : Int) = 1 + n % 20 := ⟨(1 + n % 20).toNat, by omega⟩
        have hN1 : 1 ≤ N := by omega
        have hN20 : N ≤ 20 := by omega
        go_upto_region 10 with fail
        rw [← hN]
        clear hn hN
        go_loopw [11] (fun v11 wr => ∃ k : Nat, 1 ≤ k ∧ k ≤ N ∧ v11 = .int .i64 k ∧ Aside0 (TB w wr g g' v v' base B l I k)) (fun v11 _ => N - (intOf v11).toNat)
        case atStart => exact ⟨1, by omega, hN1, rfl, HB5'⟩
        case round =>
          obtain ⟨k, hk1, hk2, rfl, HI1⟩ := hrel
          by_cases hlt : k < N
          · go_wp2_with (go_at_call 57; refine (HA.out.add HI1.out.fr HGB.out HI.out HLB.out HI1.out.tt (by omega)).mono ?_; rintro e w6 ⟨rfl, ht, hf, hf2⟩; have HT6 := Aside0.mk ht; have HF6 := Aside0.mk hf; have HS6 := Aside0.mk hf2; clear ht hf hf2)
            go_roundw
            case rel => exact ⟨k + 1, by omega, by omega, by go_num, ⟨⟨HT6.out, HI1.out.tc.keep HS6.out HGE'.out HD'.out, HF6.out⟩⟩⟩
            case measure => simp [intOf]; omega
          · obtain rfl : k = N := by omega
            go_upto_region 14 with fail
            have hne : g ≠ g' := fun e => by have h1 := HD'.out g (.inl rfl); have h2 := HGE'.out; omega
            have HNE := Aside0.mk hne
            have hl20 : l.length ≤ 20 := HL20.out
            clear hne
            go_loopw [12, 13] (fun v12 v13 W => ∃ i : Nat, i ≤ l.length ∧ v12 = .int .i64 i ∧ Aside0 (TB w W g g' v v' base B l I k)) (fun v12 _ _ => l.length - (intOf v12).toNat)
            case atStart => exact ⟨0, by omega, rfl, HI1⟩
            case round =>
              obtain ⟨i, hi, rfl, HI2⟩ := hrel
              by_cases hil : i < l.length
              · obtain ⟨ad, A10, c10, A11, c11, e, hq0, -⟩ := at_T76 HA.out.r1 (i : Int) (by omega) (by omega)
                subst e
                rw [Int.toNat_natCast] at hq0
                have e0 : rd_T76 l (i : Int) = l.getD i z76 := by unfold rd_T76; simp
                rw [e0] at hq0
                have hp0 := cell_fr hq0 HI2.out.fr (fun h => h)
                obtain ⟨sp, c, r, hmin, hsb, hor, hask⟩ := both_ask (w := w) (v := v) (v' := v') (base := base) (B := B) (I := I) HNE.out HGB.out hk1 hN20 hl20 HI60.out i hil
                obtain ⟨s, hs⟩ : ∃ s, s = (l.getD i z76).f0 := ⟨_, rfl⟩
                rw [← hs] at hp0 hask
                have HASK := Aside0.mk hask
                obtain ⟨S1, hS1⟩ : ∃ S1, S1 = sp g' := ⟨_, rfl⟩
                rw [← hS1] at hmin hsb
                have HS1 := Aside0.mk hS1.symm
                have hks : 0 ≤ (k : Int) * S1 ∧ (k : Int) * S1 ≤ 20 * 1125899906842624 := ⟨Int.mul_nonneg (by omega) hsb.1, Int.mul_le_mul (by omega) hsb.2 hsb.1 (by omega)⟩
                have hmul : IntKind.i64.wrap ((k : Int) * S1) = (k : Int) * S1 := IntWalk.i64_in _ (by omega)
                clear hq0 e0 hask hs hS1 hsb
                by_cases hbig : (1125899906842624 : Int) < (k : Int) * S1
                · have HSG := Aside0.mk (show sp g = 1125899906842624 from by omega)
                  clear hmin hks
                  go_wp2_with (first
                    | (go_at_call 60; refine (HASK.out _ HI2.out _ (by first | exact .inl rfl | exact .inr rfl)).1.mono ?_; rintro e w6 ⟨rfl, hf⟩; (first | rw [HSG.out] | rw [HS1.out]); have HI2 := Aside0.mk (HI2.out.stay hf); clear hf)
                    | (go_at_call 62; refine (HASK.out _ HI2.out _ (by first | exact .inl rfl | exact .inr rfl)).2.1.mono ?_; rintro e w6 ⟨rfl, hf⟩; have HI2 := Aside0.mk (HI2.out.stay hf); clear hf)
                    | (go_at_call 64; refine (HASK.out _ HI2.out _ (by first | exact .inl rfl | exact .inr rfl)).2.2.mono ?_; rintro e w6 ⟨rfl, hf⟩; have HI2 := Aside0.mk (HI2.out.stay hf); clear hf))
                  go_roundw
                  case rel => exact ⟨i + 1, by omega, by go_num, HI2⟩
                  case measure => simp [intOf]; omega
                · have HSG := Aside0.mk (show sp g = (k : Int) * S1 from by omega)
                  clear hmin hks
                  go_wp2_with (first
                    | (go_at_call 60; refine (HASK.out _ HI2.out _ (by first | exact .inl rfl | exact .inr rfl)).1.mono ?_; rintro e w6 ⟨rfl, hf⟩; (first | rw [HSG.out] | rw [HS1.out]); have HI2 := Aside0.mk (HI2.out.stay hf); clear hf)
                    | (go_at_call 62; refine (HASK.out _ HI2.out _ (by first | exact .inl rfl | exact .inr rfl)).2.1.mono ?_; rintro e w6 ⟨rfl, hf⟩; have HI2 := Aside0.mk (HI2.out.stay hf); clear hf)
                    | (go_at_call 64; refine (HASK.out _ HI2.out _ (by first | exact .inl rfl | exact .inr rfl)).2.2.mono ?_; rintro e w6 ⟨rfl, hf⟩; have HI2 := Aside0.mk (HI2.out.stay hf); clear hf))
                  go_roundw
                  case rel => exact ⟨i + 1, by omega, by go_num, HI2⟩
                  case measure => simp [intOf]; omega
              · obtain rfl : i = l.length := by omega
                go_wp2_with (first
                  | (go_at_call 68; refine (ticks_calls _ g v base _ (k : Int) HI2.out.tt.lt).mono ?_; rintro e w' ⟨rfl, rfl⟩)
                  | (go_at_call 54; refine (known_walk _).mono ?_; rintro e w7 ⟨rfl, hf⟩; have HI2 := Aside0.mk (HI2.out.stay hf); clear hf))
                go_ret
                exact ⟨rfl, HI2.out.fr.no_below⟩
end Go.Proofs.Ytdpchfifaidamaa.L
