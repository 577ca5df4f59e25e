/- After the kit's print of LedgerTells, part 4: same definitions and proofs, fewer words imported (wip/gen_v.py). No condition. -/
import Derived.Test.YtdpchfifaidamaaV0
import Derived.Test.YtdpchfifaidamaaV3
namespace Go.Proofs.Ytdpchfifaidamaa.PLedgerTells
open Go.RowKit Go.Proofs.YtdpchfifaidamaaW.PrintWords Go.Proofs.YtdpchfifaidamaaW.PrintLast
set_option linter.unusedVariables false
set_option linter.unusedSimpArgs false

/-! ### triremeref01_Rune: function 133 -/
mutual
def triremeref01_Rune.j0 : Nat → ByteArray → Int → Int → Bool → Option (Int × Int)
  | 0, _, _, _, _ => none
  | k + 1, x0, x1, x6, x18 => if x18 = true then (if 0 ≤ (wrap64 (x1 + 1)) then (if (wrap64 (x1 + 1)) < (x0.size : Int) then (if (wrap64 ((wrap64 ((wrap64 ((wrap64 (x6 - 192)) * 64)) + (wrap64 (bt x0 (wrap64 (x1 + 1)))))) - 128)) ≥ 128 then (some (wrap64 ((wrap64 ((wrap64 ((wrap64 (x6 - 192)) * 64)) + (wrap64 (bt x0 (wrap64 (x1 + 1)))))) - 128), 2)) else (some (0, 0))) else (none)) else (none)) else (if x6 ≥ 224 then (if x6 < 240 then ((triremeref01_more.f x0 (wrap64 (x1 + 1))).bind fun t137 => (if t137 = true then ((triremeref01_more.f x0 (wrap64 (x1 + 2))).bind fun t138 => (triremeref01_Rune.j1 k x0 x1 x6 t138)) else (triremeref01_Rune.j1 k x0 x1 x6 false))) else (triremeref01_Rune.j1 k x0 x1 x6 false)) else (triremeref01_Rune.j1 k x0 x1 x6 false))
def triremeref01_Rune.j1 : Nat → ByteArray → Int → Int → Bool → Option (Int × Int)
  | 0, _, _, _, _ => none
  | k + 1, x0, x1, x6, x44 => if x44 = true then (if 0 ≤ (wrap64 (x1 + 1)) then (if (wrap64 (x1 + 1)) < (x0.size : Int) then (if 0 ≤ (wrap64 (x1 + 2)) then (if (wrap64 (x1 + 2)) < (x0.size : Int) then (if (wrap64 ((wrap64 ((wrap64 ((wrap64 ((wrap64 (x6 - 224)) * 4096)) + (wrap64 ((wrap64 ((wrap64 (bt x0 (wrap64 (x1 + 1)))) - 128)) * 64)))) + (wrap64 (bt x0 (wrap64 (x1 + 2)))))) - 128)) ≥ 2048 then (if (wrap64 ((wrap64 ((wrap64 ((wrap64 ((wrap64 (x6 - 224)) * 4096)) + (wrap64 ((wrap64 ((wrap64 (bt x0 (wrap64 (x1 + 1)))) - 128)) * 64)))) + (wrap64 (bt x0 (wrap64 (x1 + 2)))))) - 128)) < 55296 then (some (wrap64 ((wrap64 ((wrap64 ((wrap64 ((wrap64 (x6 - 224)) * 4096)) + (wrap64 ((wrap64 ((wrap64 (bt x0 (wrap64 (x1 + 1)))) - 128)) * 64)))) + (wrap64 (bt x0 (wrap64 (x1 + 2)))))) - 128), 3)) else (if (wrap64 ((wrap64 ((wrap64 ((wrap64 ((wrap64 (x6 - 224)) * 4096)) + (wrap64 ((wrap64 ((wrap64 (bt x0 (wrap64 (x1 + 1)))) - 128)) * 64)))) + (wrap64 (bt x0 (wrap64 (x1 + 2)))))) - 128)) > 57343 then (some (wrap64 ((wrap64 ((wrap64 ((wrap64 ((wrap64 (x6 - 224)) * 4096)) + (wrap64 ((wrap64 ((wrap64 (bt x0 (wrap64 (x1 + 1)))) - 128)) * 64)))) + (wrap64 (bt x0 (wrap64 (x1 + 2)))))) - 128), 3)) else (some (0, 0)))) else (some (0, 0))) else (none)) else (none)) else (none)) else (none)) else (if x6 ≥ 240 then (if x6 < 248 then ((triremeref01_more.f x0 (wrap64 (x1 + 1))).bind fun t139 => (if t139 = true then ((triremeref01_more.f x0 (wrap64 (x1 + 2))).bind fun t140 => (if t140 = true then ((triremeref01_more.f x0 (wrap64 (x1 + 3))).bind fun t141 => (triremeref01_Rune.j2 k x0 x1 x6 t141)) else (triremeref01_Rune.j2 k x0 x1 x6 false))) else (triremeref01_Rune.j2 k x0 x1 x6 false))) else (triremeref01_Rune.j2 k x0 x1 x6 false)) else (triremeref01_Rune.j2 k x0 x1 x6 false))
def triremeref01_Rune.j2 : Nat → ByteArray → Int → Int → Bool → Option (Int × Int)
  | 0, _, _, _, _ => none
  | k + 1, x0, x1, x6, x92 => if x92 = true then (if 0 ≤ (wrap64 (x1 + 1)) then (if (wrap64 (x1 + 1)) < (x0.size : Int) then (if 0 ≤ (wrap64 (x1 + 2)) then (if (wrap64 (x1 + 2)) < (x0.size : Int) then (if 0 ≤ (wrap64 (x1 + 3)) then (if (wrap64 (x1 + 3)) < (x0.size : Int) then (if (wrap64 ((wrap64 ((wrap64 ((wrap64 ((wrap64 ((wrap64 (x6 - 240)) * 262144)) + (wrap64 ((wrap64 ((wrap64 (bt x0 (wrap64 (x1 + 1)))) - 128)) * 4096)))) + (wrap64 ((wrap64 ((wrap64 (bt x0 (wrap64 (x1 + 2)))) - 128)) * 64)))) + (wrap64 (bt x0 (wrap64 (x1 + 3)))))) - 128)) ≥ 65536 then (if (wrap64 ((wrap64 ((wrap64 ((wrap64 ((wrap64 ((wrap64 (x6 - 240)) * 262144)) + (wrap64 ((wrap64 ((wrap64 (bt x0 (wrap64 (x1 + 1)))) - 128)) * 4096)))) + (wrap64 ((wrap64 ((wrap64 (bt x0 (wrap64 (x1 + 2)))) - 128)) * 64)))) + (wrap64 (bt x0 (wrap64 (x1 + 3)))))) - 128)) ≤ 1114111 then (some (wrap64 ((wrap64 ((wrap64 ((wrap64 ((wrap64 ((wrap64 (x6 - 240)) * 262144)) + (wrap64 ((wrap64 ((wrap64 (bt x0 (wrap64 (x1 + 1)))) - 128)) * 4096)))) + (wrap64 ((wrap64 ((wrap64 (bt x0 (wrap64 (x1 + 2)))) - 128)) * 64)))) + (wrap64 (bt x0 (wrap64 (x1 + 3)))))) - 128), 4)) else (some (0, 0))) else (some (0, 0))) else (none)) else (none)) else (none)) else (none)) else (none)) else (none)) else (some (0, 0))
end
def triremeref01_Rune.f (k : Nat) (a0 : ByteArray) (a1 : Int) : Option (Int × Int) := if 0 ≤ a1 then (if a1 < (a0.size : Int) then (if (wrap64 (bt a0 a1)) < 128 then (some (wrap64 (bt a0 a1), 1)) else (if (wrap64 (bt a0 a1)) ≥ 192 then (if (wrap64 (bt a0 a1)) < 224 then ((triremeref01_more.f a0 (wrap64 (a1 + 1))).bind fun t136 => (triremeref01_Rune.j0 k a0 a1 (wrap64 (bt a0 a1)) t136)) else (triremeref01_Rune.j0 k a0 a1 (wrap64 (bt a0 a1)) false)) else (triremeref01_Rune.j0 k a0 a1 (wrap64 (bt a0 a1)) false))) else (none)) else (none)
theorem triremeref01_Rune.mono_l : ∀ k, (∀ y0 y1 y2 y3, LeO (triremeref01_Rune.j0 k y0 y1 y2 y3) (triremeref01_Rune.j0 (k + 1) y0 y1 y2 y3)) ∧ (∀ y0 y1 y2 y3, LeO (triremeref01_Rune.j1 k y0 y1 y2 y3) (triremeref01_Rune.j1 (k + 1) y0 y1 y2 y3)) ∧ (∀ y0 y1 y2 y3, LeO (triremeref01_Rune.j2 k y0 y1 y2 y3) (triremeref01_Rune.j2 (k + 1) y0 y1 y2 y3))
  | 0 => ⟨fun _ _ _ _ r h => by simp [triremeref01_Rune.j0] at h, fun _ _ _ _ r h => by simp [triremeref01_Rune.j1] at h, fun _ _ _ _ r h => by simp [triremeref01_Rune.j2] at h⟩
  | k + 1 => by
    obtain ⟨ih0, ih1, ih2⟩ := triremeref01_Rune.mono_l k
    refine ⟨?_, ?_, ?_⟩
    · intro y0 y1 y2 y3
      unfold triremeref01_Rune.j0
      repeat' first
      | (with_reducible exact ih0 _ _ _ _)
      | (with_reducible exact ih1 _ _ _ _)
      | (with_reducible exact ih2 _ _ _ _)
      | (with_reducible exact LeO.refl _)
      | (with_reducible exact LeO.none _)
      | (with_reducible refine LeO.ite ?_ ?_)
      | (with_reducible refine LeO.bind ?_ (fun _ => ?_))
      | exact ih0 _ _ _ _
      | exact ih1 _ _ _ _
      | exact ih2 _ _ _ _
      | exact LeO.none _
      | refine LeO.ite ?_ ?_
      | refine LeO.bind ?_ (fun _ => ?_)
    · intro y0 y1 y2 y3
      unfold triremeref01_Rune.j1
      repeat' first
      | (with_reducible exact ih0 _ _ _ _)
      | (with_reducible exact ih1 _ _ _ _)
      | (with_reducible exact ih2 _ _ _ _)
      | (with_reducible exact LeO.refl _)
      | (with_reducible exact LeO.none _)
      | (with_reducible refine LeO.ite ?_ ?_)
      | (with_reducible refine LeO.bind ?_ (fun _ => ?_))
      | exact ih0 _ _ _ _
      | exact ih1 _ _ _ _
      | exact ih2 _ _ _ _
      | exact LeO.none _
      | refine LeO.ite ?_ ?_
      | refine LeO.bind ?_ (fun _ => ?_)
    · intro y0 y1 y2 y3
      unfold triremeref01_Rune.j2
      repeat' first
      | (with_reducible exact ih0 _ _ _ _)
      | (with_reducible exact ih1 _ _ _ _)
      | (with_reducible exact ih2 _ _ _ _)
      | (with_reducible exact LeO.refl _)
      | (with_reducible exact LeO.none _)
      | (with_reducible refine LeO.ite ?_ ?_)
      | (with_reducible refine LeO.bind ?_ (fun _ => ?_))
      | exact ih0 _ _ _ _
      | exact ih1 _ _ _ _
      | exact ih2 _ _ _ _
      | exact LeO.none _
      | refine LeO.ite ?_ ?_
      | refine LeO.bind ?_ (fun _ => ?_)
theorem triremeref01_Rune.mono : ∀ a0 a1 k, LeO (triremeref01_Rune.f k a0 a1) (triremeref01_Rune.f (k + 1) a0 a1) := by
  intro a0 a1 k
  obtain ⟨ih0, ih1, ih2⟩ := triremeref01_Rune.mono_l k
  unfold triremeref01_Rune.f
  repeat' first
      | (with_reducible exact ih0 _ _ _ _)
      | (with_reducible exact ih1 _ _ _ _)
      | (with_reducible exact ih2 _ _ _ _)
      | (with_reducible exact LeO.refl _)
      | (with_reducible exact LeO.none _)
      | (with_reducible refine LeO.ite ?_ ?_)
      | (with_reducible refine LeO.bind ?_ (fun _ => ?_))
      | exact ih0 _ _ _ _
      | exact ih1 _ _ _ _
      | exact ih2 _ _ _ _
      | exact LeO.none _
      | refine LeO.ite ?_ ?_
      | refine LeO.bind ?_ (fun _ => ?_)
set_option maxHeartbeats 8000000 in
set_option maxRecDepth 100000 in
theorem triremeref01_Rune.calls (k : Nat) (a0 : ByteArray) (a1 : Int) (r1 : Int) (r2 : Int) (w : World) (h : triremeref01_Rune.f k a0 a1 = some (r1, r2)) :
    Calls Try.prog 133 #[.string a0, .int .i64 a1] w fun e w' => e = .returned (.tuple #[.int .i64 r1, .int .i64 r2]) ∧ Drawn0 w w' := by
  have H : (if 0 ≤ a1 then (if a1 < (a0.size : Int) then (if (wrap64 (bt a0 a1)) < 128 then (some (wrap64 (bt a0 a1), 1)) else (if (wrap64 (bt a0 a1)) ≥ 192 then (if (wrap64 (bt a0 a1)) < 224 then ((triremeref01_more.f a0 (wrap64 (a1 + 1))).bind fun t136 => (triremeref01_Rune.j0 k a0 a1 (wrap64 (bt a0 a1)) t136)) else (triremeref01_Rune.j0 k a0 a1 (wrap64 (bt a0 a1)) false)) else (triremeref01_Rune.j0 k a0 a1 (wrap64 (bt a0 a1)) false))) else (none)) else (none)) = some (r1, r2) := h
  clear h
  by_cases c3 : 0 ≤ a1
  · rw [if_pos c3] at H
    have c3b0 : decide (0 ≤ a1) = true := decide_eq_true c3
    clear c3
    by_cases c4 : a1 < (a0.size : Int)
    · rw [if_pos c4] at H
      have c4b0 : decide (a1 < (a0.size : Int)) = true := decide_eq_true c4
      clear c4
      by_cases c6 : (wrap64 (bt a0 a1)) < 128
      · rw [if_pos c6] at H
        have c6b0 : decide ((wrap64 (bt a0 a1)) < 128) = true := decide_eq_true c6
        clear c6
        simp only [Option.some.injEq, Prod.mk.injEq] at H
        obtain ⟨rfl, rfl⟩ := H
        have p5 : 0 ≤ (a1 : Int) := of_decide_eq_true (by first | (with_reducible assumption) | assumption)
        have q5 : a1 < (a0.size : Int) := of_decide_eq_true (by first | (with_reducible assumption) | assumption)
        have hx5 := bt_at a0 a1
        replace p5 := eq_true p5
        replace q5 := eq_true q5
        go_enter Try.func133, Try.ntmps133
        go_wp2
        repeat (go_quiet (fail); try go_wp2)
        go_ret2
        exact ⟨by first | rfl | (simp; done) | (simp [*]; done), by repeat (first | exact Drawn0.refl _ | apply Drawn0.step)⟩
      · rw [if_neg c6] at H
        have c6b0 : decide ((wrap64 (bt a0 a1)) < 128) = false := decide_eq_false c6
        clear c6
        have HC7 := Aside0.mk H
        clear H
        have p5 : 0 ≤ (a1 : Int) := of_decide_eq_true (by first | (with_reducible assumption) | assumption)
        have q5 : a1 < (a0.size : Int) := of_decide_eq_true (by first | (with_reducible assumption) | assumption)
        have hx5 := bt_at a0 a1
        replace p5 := eq_true p5
        replace q5 := eq_true q5
        go_enter Try.func133, Try.ntmps133
        go_upto_region 4 with (fail)
        repeat (go_quiet (fail); go_upto_region 4 with (fail))
        go_cut [18] (fun v18 wc => ∃ (kq : Nat) (x18_6 : Bool), v18 = .bool x18_6 ∧ Aside0 (triremeref01_Rune.j0 kq a0 a1 (wrap64 (bt a0 a1)) x18_6 = some (r1, r2)) ∧ Aside0 (kq ≤ k) ∧ Drawn0 w wc)
        case first =>
          have H := HC7.out
          clear HC7
          by_cases c8 : (wrap64 (bt a0 a1)) ≥ 192
          · rw [if_pos c8] at H
            have c8b0 : decide (192 ≤ (wrap64 (bt a0 a1))) = true := decide_eq_true c8
            clear c8
            (first | rw [c8b0] | (simp only [i64_w, i32_w]; rw [c8b0]) | skip)
            by_cases c9 : (wrap64 (bt a0 a1)) < 224
            · rw [if_pos c9] at H
              have c9b0 : decide ((wrap64 (bt a0 a1)) < 224) = true := decide_eq_true c9
              clear c9
              replace H := Option.bind_eq_some_iff.mp H
              obtain ⟨t136, A100, H⟩ := H
              replace H : (triremeref01_Rune.j0 k a0 a1 (wrap64 (bt a0 a1)) t136) = some (r1, r2) := H
              have A10 := Aside0.mk A100
              clear A100
              have H' := Aside0.mk H
              clear H
              go_wp2_with (first | (go_at_call 144; (with_reducible refine (triremeref01_more.calls a0 (wrap64 (a1 + 1)) t136 _ A10.out).mono ?_); rintro e w' ⟨rfl, ⟨nd, rfl⟩⟩; (try first | exact ⟨rfl, _, World.drewN_drewN _ _ _⟩ | exact ⟨rfl, _, Eq.trans (World.drewN_drewN _ _ _) (congrArg (World.drewN _) (Nat.add_assoc _ _ _))⟩)))
              repeat (go_quiet (first | (go_at_call 144; (with_reducible refine (triremeref01_more.calls a0 (wrap64 (a1 + 1)) t136 _ A10.out).mono ?_); rintro e w' ⟨rfl, ⟨nd, rfl⟩⟩; (try first | exact ⟨rfl, _, World.drewN_drewN _ _ _⟩ | exact ⟨rfl, _, Eq.trans (World.drewN_drewN _ _ _) (congrArg (World.drewN _) (Nat.add_assoc _ _ _))⟩))); try go_wp2_with (first | (go_at_call 144; (with_reducible refine (triremeref01_more.calls a0 (wrap64 (a1 + 1)) t136 _ A10.out).mono ?_); rintro e w' ⟨rfl, ⟨nd, rfl⟩⟩; (try first | exact ⟨rfl, _, World.drewN_drewN _ _ _⟩ | exact ⟨rfl, _, Eq.trans (World.drewN_drewN _ _ _) (congrArg (World.drewN _) (Nat.add_assoc _ _ _))⟩))))
              go_meet
              case rel => exact ⟨_, (t136), (by first | rfl | (simp; done) | (simp [*]; done)), H', ⟨by first | omega | exact Nat.le_refl _⟩, by repeat (first | exact Drawn0.refl _ | apply Drawn0.step)⟩
            · rw [if_neg c9] at H
              have c9b0 : decide ((wrap64 (bt a0 a1)) < 224) = false := decide_eq_false c9
              clear c9
              have H' := Aside0.mk H
              clear H
              go_wp2
              repeat (go_quiet (fail); try go_wp2)
              go_meet
              case rel => exact ⟨_, (false), (by first | rfl | (simp; done) | (simp [*]; done)), H', ⟨by first | omega | exact Nat.le_refl _⟩, by repeat (first | exact Drawn0.refl _ | apply Drawn0.step)⟩
          · rw [if_neg c8] at H
            have c8b0 : decide (192 ≤ (wrap64 (bt a0 a1))) = false := decide_eq_false c8
            clear c8
            (first | rw [c8b0] | (simp only [i64_w, i32_w]; rw [c8b0]) | skip)
            have H' := Aside0.mk H
            clear H
            go_wp2
            repeat (go_quiet (fail); try go_wp2)
            go_meet
            case rel => exact ⟨_, (false), (by first | rfl | (simp; done) | (simp [*]; done)), H', ⟨by first | omega | exact Nat.le_refl _⟩, by repeat (first | exact Drawn0.refl _ | apply Drawn0.step)⟩
        case rest =>
          clear HC7
          try clear c1
          try clear p2
          try clear c3
          try clear c3b0
          try clear c4
          try clear c4b0
          try clear p5
          try clear q5
          try clear hx5
          try clear c6
          try clear c6b0
          try clear p6
          try clear c8
          try clear c8b0
          try clear c9
          try clear c9b0
          try clear p5
          try clear q5
          obtain ⟨kq, x18_6, rfl, HA, HJ6, ⟨mc6, rfl⟩⟩ := hcut
          cases kq with
          | zero => exact absurd HA.out (by simp [triremeref01_Rune.j0])
          | succ kj6 =>
            have H := HA.out
            clear HA
            simp only [triremeref01_Rune.j0] at H
            by_cases c11 : x18_6 = true
            · subst c11
              have H1 : (if 0 ≤ (wrap64 (a1 + 1)) then (if (wrap64 (a1 + 1)) < (a0.size : Int) then (if (wrap64 ((wrap64 ((wrap64 ((wrap64 ((wrap64 (bt a0 a1)) - 192)) * 64)) + (wrap64 (bt a0 (wrap64 (a1 + 1)))))) - 128)) ≥ 128 then (some (wrap64 ((wrap64 ((wrap64 ((wrap64 ((wrap64 (bt a0 a1)) - 192)) * 64)) + (wrap64 (bt a0 (wrap64 (a1 + 1)))))) - 128), 2)) else (some (0, 0))) else (none)) else (none)) = some (r1, r2) := by rw [if_pos rfl] at H; exact H
              clear H
              have H := H1
              clear H1
              obtain ⟨ji12, hji12⟩ : ∃ j_ : Int, (wrap64 (a1 + 1)) = j_ := ⟨_, rfl⟩
              replace H : (if 0 ≤ (ji12) then (if (ji12) < (a0.size : Int) then (if (wrap64 ((wrap64 ((wrap64 ((wrap64 ((wrap64 (bt a0 a1)) - 192)) * 64)) + (wrap64 (bt a0 (ji12))))) - 128)) ≥ 128 then (some (wrap64 ((wrap64 ((wrap64 ((wrap64 ((wrap64 (bt a0 a1)) - 192)) * 64)) + (wrap64 (bt a0 (ji12))))) - 128), 2)) else (some (0, 0))) else (none)) else (none)) = some (r1, r2) := by first | (rw [hji12] at H; exact H) | (simp only [hji12] at H ⊢; exact H)
              have hji12w : (IntKind.i64.wrap (a1 + 1)) = ji12 := (i64_w _).trans hji12
              by_cases c13 : 0 ≤ (ji12)
              · rw [if_pos c13] at H
                have c13b0 : decide (0 ≤ (ji12)) = true := decide_eq_true c13
                clear c13
                by_cases c14 : (ji12) < (a0.size : Int)
                · rw [if_pos c14] at H
                  have c14b0 : decide ((ji12) < (a0.size : Int)) = true := decide_eq_true c14
                  clear c14
                  by_cases c16 : (wrap64 ((wrap64 ((wrap64 ((wrap64 ((wrap64 (bt a0 a1)) - 192)) * 64)) + (wrap64 (bt a0 (ji12))))) - 128)) ≥ 128
                  · rw [if_pos c16] at H
                    have c16b0 : decide (128 ≤ (wrap64 ((wrap64 ((wrap64 ((wrap64 ((wrap64 (bt a0 a1)) - 192)) * 64)) + (wrap64 (bt a0 (ji12))))) - 128))) = true := decide_eq_true c16
                    clear c16
                    simp only [Option.some.injEq, Prod.mk.injEq] at H
                    obtain ⟨rfl, rfl⟩ := H
                    have p15 : 0 ≤ ((ji12) : Int) := of_decide_eq_true (by first | (with_reducible assumption) | assumption)
                    have q15 : (ji12) < (a0.size : Int) := of_decide_eq_true (by first | (with_reducible assumption) | assumption)
                    have hx15 := bt_at a0 (ji12)
                    replace p15 := eq_true p15
                    replace q15 := eq_true q15
                    go_wp2
                    repeat (go_quiet (fail); try go_wp2)
                    go_ret2
                    exact ⟨by first | rfl | (simp; done) | (simp only [← hji12] <;> (first | rfl | simp)) | (simp [*]; done), by repeat (first | exact Drawn0.refl _ | apply Drawn0.step)⟩
                  · rw [if_neg c16] at H
                    have c16b0 : decide (128 ≤ (wrap64 ((wrap64 ((wrap64 ((wrap64 ((wrap64 (bt a0 a1)) - 192)) * 64)) + (wrap64 (bt a0 (ji12))))) - 128))) = false := decide_eq_false c16
                    clear c16
                    simp only [Option.some.injEq, Prod.mk.injEq] at H
                    obtain ⟨rfl, rfl⟩ := H
                    have p15 : 0 ≤ ((ji12) : Int) := of_decide_eq_true (by first | (with_reducible assumption) | assumption)
                    have q15 : (ji12) < (a0.size : Int) := of_decide_eq_true (by first | (with_reducible assumption) | assumption)
                    have hx15 := bt_at a0 (ji12)
                    replace p15 := eq_true p15
                    replace q15 := eq_true q15
                    go_wp2
                    repeat (go_quiet (fail); try go_wp2)
                    go_ret2
                    exact ⟨by first | rfl | (simp; done) | (simp only [← hji12] <;> (first | rfl | simp)) | (simp [*]; done), by repeat (first | exact Drawn0.refl _ | apply Drawn0.step)⟩
                · rw [if_neg c14] at H
                  exact absurd H (by simp)
              · rw [if_neg c13] at H
                exact absurd H (by simp)
            · replace c11 := Bool.eq_false_iff.mpr c11
              subst c11
              have H1 : (if (wrap64 (bt a0 a1)) ≥ 224 then (if (wrap64 (bt a0 a1)) < 240 then ((triremeref01_more.f a0 (wrap64 (a1 + 1))).bind fun t137 => (if t137 = true then ((triremeref01_more.f a0 (wrap64 (a1 + 2))).bind fun t138 => (triremeref01_Rune.j1 kj6 a0 a1 (wrap64 (bt a0 a1)) t138)) else (triremeref01_Rune.j1 kj6 a0 a1 (wrap64 (bt a0 a1)) false))) else (triremeref01_Rune.j1 kj6 a0 a1 (wrap64 (bt a0 a1)) false)) else (triremeref01_Rune.j1 kj6 a0 a1 (wrap64 (bt a0 a1)) false)) = some (r1, r2) := by rw [if_neg (show ¬ (false = true) by decide)] at H; exact H
              clear H
              have H := H1
              clear H1
              have HC17 := Aside0.mk H
              clear H
              go_upto_region 8 with (fail)
              repeat (go_quiet (fail); go_upto_region 8 with (fail))
              go_cut [44] (fun v44 wc => ∃ (kq : Nat) (x44_16 : Bool), v44 = .bool x44_16 ∧ Aside0 (triremeref01_Rune.j1 kq a0 a1 (wrap64 (bt a0 a1)) x44_16 = some (r1, r2)) ∧ Aside0 (kq ≤ kj6) ∧ Drawn0 w wc)
              case first =>
                have H := HC17.out
                clear HC17
                by_cases c18 : (wrap64 (bt a0 a1)) ≥ 224
                · rw [if_pos c18] at H
                  have c18b0 : decide (224 ≤ (wrap64 (bt a0 a1))) = true := decide_eq_true c18
                  clear c18
                  (first | rw [c18b0] | (simp only [i64_w, i32_w]; rw [c18b0]) | skip)
                  by_cases c19 : (wrap64 (bt a0 a1)) < 240
                  · rw [if_pos c19] at H
                    have c19b0 : decide ((wrap64 (bt a0 a1)) < 240) = true := decide_eq_true c19
                    clear c19
                    replace H := Option.bind_eq_some_iff.mp H
                    obtain ⟨t137, A200, H⟩ := H
                    replace H : (if t137 = true then ((triremeref01_more.f a0 (wrap64 (a1 + 2))).bind fun t138 => (triremeref01_Rune.j1 kj6 a0 a1 (wrap64 (bt a0 a1)) t138)) else (triremeref01_Rune.j1 kj6 a0 a1 (wrap64 (bt a0 a1)) false)) = some (r1, r2) := H
                    have A20 := Aside0.mk A200
                    clear A200
                    by_cases c21 : t137 = true
                    · subst c21
                      have H1 : ((triremeref01_more.f a0 (wrap64 (a1 + 2))).bind fun t138 => (triremeref01_Rune.j1 kj6 a0 a1 (wrap64 (bt a0 a1)) t138)) = some (r1, r2) := by rw [if_pos rfl] at H; exact H
                      clear H
                      have H := H1
                      clear H1
                      replace H := Option.bind_eq_some_iff.mp H
                      obtain ⟨t138, A220, H⟩ := H
                      replace H : (triremeref01_Rune.j1 kj6 a0 a1 (wrap64 (bt a0 a1)) t138) = some (r1, r2) := H
                      have A22 := Aside0.mk A220
                      clear A220
                      have H' := Aside0.mk H
                      clear H
                      go_wp2_with (first | (go_at_call 144; (with_reducible refine (triremeref01_more.calls a0 (wrap64 (a1 + 1)) true _ A20.out).mono ?_); rintro e w' ⟨rfl, ⟨nd, rfl⟩⟩; (try first | exact ⟨rfl, _, World.drewN_drewN _ _ _⟩ | exact ⟨rfl, _, Eq.trans (World.drewN_drewN _ _ _) (congrArg (World.drewN _) (Nat.add_assoc _ _ _))⟩)) | (go_at_call 144; (with_reducible refine (triremeref01_more.calls a0 (wrap64 (a1 + 2)) t138 _ A22.out).mono ?_); rintro e w' ⟨rfl, ⟨nd, rfl⟩⟩; (try first | exact ⟨rfl, _, World.drewN_drewN _ _ _⟩ | exact ⟨rfl, _, Eq.trans (World.drewN_drewN _ _ _) (congrArg (World.drewN _) (Nat.add_assoc _ _ _))⟩)))
                      repeat (go_quiet (first | (go_at_call 144; (with_reducible refine (triremeref01_more.calls a0 (wrap64 (a1 + 1)) true _ A20.out).mono ?_); rintro e w' ⟨rfl, ⟨nd, rfl⟩⟩; (try first | exact ⟨rfl, _, World.drewN_drewN _ _ _⟩ | exact ⟨rfl, _, Eq.trans (World.drewN_drewN _ _ _) (congrArg (World.drewN _) (Nat.add_assoc _ _ _))⟩)) | (go_at_call 144; (with_reducible refine (triremeref01_more.calls a0 (wrap64 (a1 + 2)) t138 _ A22.out).mono ?_); rintro e w' ⟨rfl, ⟨nd, rfl⟩⟩; (try first | exact ⟨rfl, _, World.drewN_drewN _ _ _⟩ | exact ⟨rfl, _, Eq.trans (World.drewN_drewN _ _ _) (congrArg (World.drewN _) (Nat.add_assoc _ _ _))⟩))); try go_wp2_with (first | (go_at_call 144; (with_reducible refine (triremeref01_more.calls a0 (wrap64 (a1 + 1)) true _ A20.out).mono ?_); rintro e w' ⟨rfl, ⟨nd, rfl⟩⟩; (try first | exact ⟨rfl, _, World.drewN_drewN _ _ _⟩ | exact ⟨rfl, _, Eq.trans (World.drewN_drewN _ _ _) (congrArg (World.drewN _) (Nat.add_assoc _ _ _))⟩)) | (go_at_call 144; (with_reducible refine (triremeref01_more.calls a0 (wrap64 (a1 + 2)) t138 _ A22.out).mono ?_); rintro e w' ⟨rfl, ⟨nd, rfl⟩⟩; (try first | exact ⟨rfl, _, World.drewN_drewN _ _ _⟩ | exact ⟨rfl, _, Eq.trans (World.drewN_drewN _ _ _) (congrArg (World.drewN _) (Nat.add_assoc _ _ _))⟩))))
                      go_meet
                      case rel => exact ⟨_, (t138), (by first | rfl | (simp; done) | (simp [*]; done)), H', ⟨by have := HJ6.out; first | omega | exact Nat.le_refl _⟩, by repeat (first | exact Drawn0.refl _ | apply Drawn0.step)⟩
                    · replace c21 := Bool.eq_false_iff.mpr c21
                      subst c21
                      have H1 : (triremeref01_Rune.j1 kj6 a0 a1 (wrap64 (bt a0 a1)) false) = some (r1, r2) := by rw [if_neg (show ¬ (false = true) by decide)] at H; exact H
                      clear H
                      have H := H1
                      clear H1
                      have H' := Aside0.mk H
                      clear H
                      go_wp2_with (first | (go_at_call 144; (with_reducible refine (triremeref01_more.calls a0 (wrap64 (a1 + 1)) false _ A20.out).mono ?_); rintro e w' ⟨rfl, ⟨nd, rfl⟩⟩; (try first | exact ⟨rfl, _, World.drewN_drewN _ _ _⟩ | exact ⟨rfl, _, Eq.trans (World.drewN_drewN _ _ _) (congrArg (World.drewN _) (Nat.add_assoc _ _ _))⟩)))
                      repeat (go_quiet (first | (go_at_call 144; (with_reducible refine (triremeref01_more.calls a0 (wrap64 (a1 + 1)) false _ A20.out).mono ?_); rintro e w' ⟨rfl, ⟨nd, rfl⟩⟩; (try first | exact ⟨rfl, _, World.drewN_drewN _ _ _⟩ | exact ⟨rfl, _, Eq.trans (World.drewN_drewN _ _ _) (congrArg (World.drewN _) (Nat.add_assoc _ _ _))⟩))); try go_wp2_with (first | (go_at_call 144; (with_reducible refine (triremeref01_more.calls a0 (wrap64 (a1 + 1)) false _ A20.out).mono ?_); rintro e w' ⟨rfl, ⟨nd, rfl⟩⟩; (try first | exact ⟨rfl, _, World.drewN_drewN _ _ _⟩ | exact ⟨rfl, _, Eq.trans (World.drewN_drewN _ _ _) (congrArg (World.drewN _) (Nat.add_assoc _ _ _))⟩))))
                      go_meet
                      case rel => exact ⟨_, (false), (by first | rfl | (simp; done) | (simp [*]; done)), H', ⟨by have := HJ6.out; first | omega | exact Nat.le_refl _⟩, by repeat (first | exact Drawn0.refl _ | apply Drawn0.step)⟩
                  · rw [if_neg c19] at H
                    have c19b0 : decide ((wrap64 (bt a0 a1)) < 240) = false := decide_eq_false c19
                    clear c19
                    have H' := Aside0.mk H
                    clear H
                    go_wp2
                    repeat (go_quiet (fail); try go_wp2)
                    go_meet
                    case rel => exact ⟨_, (false), (by first | rfl | (simp; done) | (simp [*]; done)), H', ⟨by have := HJ6.out; first | omega | exact Nat.le_refl _⟩, by repeat (first | exact Drawn0.refl _ | apply Drawn0.step)⟩
                · rw [if_neg c18] at H
                  have c18b0 : decide (224 ≤ (wrap64 (bt a0 a1))) = false := decide_eq_false c18
                  clear c18
                  (first | rw [c18b0] | (simp only [i64_w, i32_w]; rw [c18b0]) | skip)
                  have H' := Aside0.mk H
                  clear H
                  go_wp2
                  repeat (go_quiet (fail); try go_wp2)
                  go_meet
                  case rel => exact ⟨_, (false), (by first | rfl | (simp; done) | (simp [*]; done)), H', ⟨by have := HJ6.out; first | omega | exact Nat.le_refl _⟩, by repeat (first | exact Drawn0.refl _ | apply Drawn0.step)⟩
              case rest =>
                clear HC17
                try clear c1
                try clear p1
                try clear q1
                try clear hx1
                try clear c2
                try clear p2
                try clear c3
                try clear c3b0
                try clear c4
                try clear c4b0
                try clear p5
                try clear q5
                try clear hx5
                try clear c6
                try clear c6b0
                try clear p6
                try clear c8
                try clear c8b0
                try clear c9
                try clear c9b0
                try clear c11
                try clear c13
                try clear c13b0
                try clear c14
                try clear c14b0
                try clear p15
                try clear q15
                try clear hx15
                try clear c16
                try clear c16b0
                try clear c18
                try clear c18b0
                try clear c19
                try clear c19b0
                try clear c21
                try clear p15
                try clear p2
                try clear p5
                try clear p6
                try clear q15
                try clear q5
                obtain ⟨kq, x44_16, rfl, HA, HJ16, ⟨mc16, rfl⟩⟩ := hcut
                cases kq with
                | zero => exact absurd HA.out (by simp [triremeref01_Rune.j1])
                | succ kj16 =>
                  have H := HA.out
                  clear HA
                  simp only [triremeref01_Rune.j1] at H
                  by_cases c23 : x44_16 = true
                  · subst c23
                    have H1 : (if 0 ≤ (wrap64 (a1 + 1)) then (if (wrap64 (a1 + 1)) < (a0.size : Int) then (if 0 ≤ (wrap64 (a1 + 2)) then (if (wrap64 (a1 + 2)) < (a0.size : Int) then (if (wrap64 ((wrap64 ((wrap64 ((wrap64 ((wrap64 ((wrap64 (bt a0 a1)) - 224)) * 4096)) + (wrap64 ((wrap64 ((wrap64 (bt a0 (wrap64 (a1 + 1)))) - 128)) * 64)))) + (wrap64 (bt a0 (wrap64 (a1 + 2)))))) - 128)) ≥ 2048 then (if (wrap64 ((wrap64 ((wrap64 ((wrap64 ((wrap64 ((wrap64 (bt a0 a1)) - 224)) * 4096)) + (wrap64 ((wrap64 ((wrap64 (bt a0 (wrap64 (a1 + 1)))) - 128)) * 64)))) + (wrap64 (bt a0 (wrap64 (a1 + 2)))))) - 128)) < 55296 then (some (wrap64 ((wrap64 ((wrap64 ((wrap64 ((wrap64 ((wrap64 (bt a0 a1)) - 224)) * 4096)) + (wrap64 ((wrap64 ((wrap64 (bt a0 (wrap64 (a1 + 1)))) - 128)) * 64)))) + (wrap64 (bt a0 (wrap64 (a1 + 2)))))) - 128), 3)) else (if (wrap64 ((wrap64 ((wrap64 ((wrap64 ((wrap64 ((wrap64 (bt a0 a1)) - 224)) * 4096)) + (wrap64 ((wrap64 ((wrap64 (bt a0 (wrap64 (a1 + 1)))) - 128)) * 64)))) + (wrap64 (bt a0 (wrap64 (a1 + 2)))))) - 128)) > 57343 then (some (wrap64 ((wrap64 ((wrap64 ((wrap64 ((wrap64 ((wrap64 (bt a0 a1)) - 224)) * 4096)) + (wrap64 ((wrap64 ((wrap64 (bt a0 (wrap64 (a1 + 1)))) - 128)) * 64)))) + (wrap64 (bt a0 (wrap64 (a1 + 2)))))) - 128), 3)) else (some (0, 0)))) else (some (0, 0))) else (none)) else (none)) else (none)) else (none)) = some (r1, r2) := by rw [if_pos rfl] at H; exact H
                    clear H
                    have H := H1
                    clear H1
                    obtain ⟨ji24, hji24⟩ : ∃ j_ : Int, (wrap64 (a1 + 1)) = j_ := ⟨_, rfl⟩
                    replace H : (if 0 ≤ (ji24) then (if (ji24) < (a0.size : Int) then (if 0 ≤ (wrap64 (a1 + 2)) then (if (wrap64 (a1 + 2)) < (a0.size : Int) then (if (wrap64 ((wrap64 ((wrap64 ((wrap64 ((wrap64 ((wrap64 (bt a0 a1)) - 224)) * 4096)) + (wrap64 ((wrap64 ((wrap64 (bt a0 (ji24))) - 128)) * 64)))) + (wrap64 (bt a0 (wrap64 (a1 + 2)))))) - 128)) ≥ 2048 then (if (wrap64 ((wrap64 ((wrap64 ((wrap64 ((wrap64 ((wrap64 (bt a0 a1)) - 224)) * 4096)) + (wrap64 ((wrap64 ((wrap64 (bt a0 (ji24))) - 128)) * 64)))) + (wrap64 (bt a0 (wrap64 (a1 + 2)))))) - 128)) < 55296 then (some (wrap64 ((wrap64 ((wrap64 ((wrap64 ((wrap64 ((wrap64 (bt a0 a1)) - 224)) * 4096)) + (wrap64 ((wrap64 ((wrap64 (bt a0 (ji24))) - 128)) * 64)))) + (wrap64 (bt a0 (wrap64 (a1 + 2)))))) - 128), 3)) else (if (wrap64 ((wrap64 ((wrap64 ((wrap64 ((wrap64 ((wrap64 (bt a0 a1)) - 224)) * 4096)) + (wrap64 ((wrap64 ((wrap64 (bt a0 (ji24))) - 128)) * 64)))) + (wrap64 (bt a0 (wrap64 (a1 + 2)))))) - 128)) > 57343 then (some (wrap64 ((wrap64 ((wrap64 ((wrap64 ((wrap64 ((wrap64 (bt a0 a1)) - 224)) * 4096)) + (wrap64 ((wrap64 ((wrap64 (bt a0 (ji24))) - 128)) * 64)))) + (wrap64 (bt a0 (wrap64 (a1 + 2)))))) - 128), 3)) else (some (0, 0)))) else (some (0, 0))) else (none)) else (none)) else (none)) else (none)) = some (r1, r2) := by first | (rw [hji24] at H; exact H) | (simp only [hji24] at H ⊢; exact H)
                    have hji24w : (IntKind.i64.wrap (a1 + 1)) = ji24 := (i64_w _).trans hji24
                    by_cases c25 : 0 ≤ (ji24)
                    · rw [if_pos c25] at H
                      have c25b0 : decide (0 ≤ (ji24)) = true := decide_eq_true c25
                      clear c25
                      by_cases c26 : (ji24) < (a0.size : Int)
                      · rw [if_pos c26] at H
                        have c26b0 : decide ((ji24) < (a0.size : Int)) = true := decide_eq_true c26
                        clear c26
                        obtain ⟨ji28, hji28⟩ : ∃ j_ : Int, (wrap64 (a1 + 2)) = j_ := ⟨_, rfl⟩
                        replace H : (if 0 ≤ (ji28) then (if (ji28) < (a0.size : Int) then (if (wrap64 ((wrap64 ((wrap64 ((wrap64 ((wrap64 ((wrap64 (bt a0 a1)) - 224)) * 4096)) + (wrap64 ((wrap64 ((wrap64 (bt a0 (ji24))) - 128)) * 64)))) + (wrap64 (bt a0 (ji28))))) - 128)) ≥ 2048 then (if (wrap64 ((wrap64 ((wrap64 ((wrap64 ((wrap64 ((wrap64 (bt a0 a1)) - 224)) * 4096)) + (wrap64 ((wrap64 ((wrap64 (bt a0 (ji24))) - 128)) * 64)))) + (wrap64 (bt a0 (ji28))))) - 128)) < 55296 then (some (wrap64 ((wrap64 ((wrap64 ((wrap64 ((wrap64 ((wrap64 (bt a0 a1)) - 224)) * 4096)) + (wrap64 ((wrap64 ((wrap64 (bt a0 (ji24))) - 128)) * 64)))) + (wrap64 (bt a0 (ji28))))) - 128), 3)) else (if (wrap64 ((wrap64 ((wrap64 ((wrap64 ((wrap64 ((wrap64 (bt a0 a1)) - 224)) * 4096)) + (wrap64 ((wrap64 ((wrap64 (bt a0 (ji24))) - 128)) * 64)))) + (wrap64 (bt a0 (ji28))))) - 128)) > 57343 then (some (wrap64 ((wrap64 ((wrap64 ((wrap64 ((wrap64 ((wrap64 (bt a0 a1)) - 224)) * 4096)) + (wrap64 ((wrap64 ((wrap64 (bt a0 (ji24))) - 128)) * 64)))) + (wrap64 (bt a0 (ji28))))) - 128), 3)) else (some (0, 0)))) else (some (0, 0))) else (none)) else (none)) = some (r1, r2) := by first | (rw [hji28] at H; exact H) | (simp only [hji28] at H ⊢; exact H)
                        have hji28w : (IntKind.i64.wrap (a1 + 2)) = ji28 := (i64_w _).trans hji28
                        by_cases c29 : 0 ≤ (ji28)
                        · rw [if_pos c29] at H
                          have c29b0 : decide (0 ≤ (ji28)) = true := decide_eq_true c29
                          clear c29
                          by_cases c30 : (ji28) < (a0.size : Int)
                          · rw [if_pos c30] at H
                            have c30b0 : decide ((ji28) < (a0.size : Int)) = true := decide_eq_true c30
                            clear c30
                            by_cases c32 : (wrap64 ((wrap64 ((wrap64 ((wrap64 ((wrap64 ((wrap64 (bt a0 a1)) - 224)) * 4096)) + (wrap64 ((wrap64 ((wrap64 (bt a0 (ji24))) - 128)) * 64)))) + (wrap64 (bt a0 (ji28))))) - 128)) ≥ 2048
                            · rw [if_pos c32] at H
                              have c32b0 : decide (2048 ≤ (wrap64 ((wrap64 ((wrap64 ((wrap64 ((wrap64 ((wrap64 (bt a0 a1)) - 224)) * 4096)) + (wrap64 ((wrap64 ((wrap64 (bt a0 (ji24))) - 128)) * 64)))) + (wrap64 (bt a0 (ji28))))) - 128))) = true := decide_eq_true c32
                              clear c32
                              by_cases c33 : (wrap64 ((wrap64 ((wrap64 ((wrap64 ((wrap64 ((wrap64 (bt a0 a1)) - 224)) * 4096)) + (wrap64 ((wrap64 ((wrap64 (bt a0 (ji24))) - 128)) * 64)))) + (wrap64 (bt a0 (ji28))))) - 128)) < 55296
                              · rw [if_pos c33] at H
                                have c33b0 : decide ((wrap64 ((wrap64 ((wrap64 ((wrap64 ((wrap64 ((wrap64 (bt a0 a1)) - 224)) * 4096)) + (wrap64 ((wrap64 ((wrap64 (bt a0 (ji24))) - 128)) * 64)))) + (wrap64 (bt a0 (ji28))))) - 128)) < 55296) = true := decide_eq_true c33
                                clear c33
                                simp only [Option.some.injEq, Prod.mk.injEq] at H
                                obtain ⟨rfl, rfl⟩ := H
                                have p27 : 0 ≤ ((ji24) : Int) := of_decide_eq_true (by first | (with_reducible assumption) | assumption)
                                have q27 : (ji24) < (a0.size : Int) := of_decide_eq_true (by first | (with_reducible assumption) | assumption)
                                have hx27 := bt_at a0 (ji24)
                                replace p27 := eq_true p27
                                replace q27 := eq_true q27
                                have p31 : 0 ≤ ((ji28) : Int) := of_decide_eq_true (by first | (with_reducible assumption) | assumption)
                                have q31 : (ji28) < (a0.size : Int) := of_decide_eq_true (by first | (with_reducible assumption) | assumption)
                                have hx31 := bt_at a0 (ji28)
                                replace p31 := eq_true p31
                                replace q31 := eq_true q31
                                go_wp2
                                repeat (go_quiet (fail); try go_wp2)
                                go_ret2
                                exact ⟨by first | rfl | (simp; done) | (simp only [← hji24, ← hji28] <;> (first | rfl | simp)) | (simp [*]; done), by repeat (first | exact Drawn0.refl _ | apply Drawn0.step)⟩
                              · rw [if_neg c33] at H
                                have c33b0 : decide ((wrap64 ((wrap64 ((wrap64 ((wrap64 ((wrap64 ((wrap64 (bt a0 a1)) - 224)) * 4096)) + (wrap64 ((wrap64 ((wrap64 (bt a0 (ji24))) - 128)) * 64)))) + (wrap64 (bt a0 (ji28))))) - 128)) < 55296) = false := decide_eq_false c33
                                clear c33
                                by_cases c34 : (wrap64 ((wrap64 ((wrap64 ((wrap64 ((wrap64 ((wrap64 (bt a0 a1)) - 224)) * 4096)) + (wrap64 ((wrap64 ((wrap64 (bt a0 (ji24))) - 128)) * 64)))) + (wrap64 (bt a0 (ji28))))) - 128)) > 57343
                                · rw [if_pos c34] at H
                                  have c34b0 : decide (57343 < (wrap64 ((wrap64 ((wrap64 ((wrap64 ((wrap64 ((wrap64 (bt a0 a1)) - 224)) * 4096)) + (wrap64 ((wrap64 ((wrap64 (bt a0 (ji24))) - 128)) * 64)))) + (wrap64 (bt a0 (ji28))))) - 128))) = true := decide_eq_true c34
                                  clear c34
                                  simp only [Option.some.injEq, Prod.mk.injEq] at H
                                  obtain ⟨rfl, rfl⟩ := H
                                  have p27 : 0 ≤ ((ji24) : Int) := of_decide_eq_true (by first | (with_reducible assumption) | assumption)
                                  have q27 : (ji24) < (a0.size : Int) := of_decide_eq_true (by first | (with_reducible assumption) | assumption)
                                  have hx27 := bt_at a0 (ji24)
                                  replace p27 := eq_true p27
                                  replace q27 := eq_true q27
                                  have p31 : 0 ≤ ((ji28) : Int) := of_decide_eq_true (by first | (with_reducible assumption) | assumption)
                                  have q31 : (ji28) < (a0.size : Int) := of_decide_eq_true (by first | (with_reducible assumption) | assumption)
                                  have hx31 := bt_at a0 (ji28)
                                  replace p31 := eq_true p31
                                  replace q31 := eq_true q31
                                  go_wp2
                                  repeat (go_quiet (fail); try go_wp2)
                                  go_ret2
                                  exact ⟨by first | rfl | (simp; done) | (simp only [← hji24, ← hji28] <;> (first | rfl | simp)) | (simp [*]; done), by repeat (first | exact Drawn0.refl _ | apply Drawn0.step)⟩
                                · rw [if_neg c34] at H
                                  have c34b0 : decide (57343 < (wrap64 ((wrap64 ((wrap64 ((wrap64 ((wrap64 ((wrap64 (bt a0 a1)) - 224)) * 4096)) + (wrap64 ((wrap64 ((wrap64 (bt a0 (ji24))) - 128)) * 64)))) + (wrap64 (bt a0 (ji28))))) - 128))) = false := decide_eq_false c34
                                  clear c34
                                  simp only [Option.some.injEq, Prod.mk.injEq] at H
                                  obtain ⟨rfl, rfl⟩ := H
                                  have p27 : 0 ≤ ((ji24) : Int) := of_decide_eq_true (by first | (with_reducible assumption) | assumption)
                                  have q27 : (ji24) < (a0.size : Int) := of_decide_eq_true (by first | (with_reducible assumption) | assumption)
                                  have hx27 := bt_at a0 (ji24)
                                  replace p27 := eq_true p27
                                  replace q27 := eq_true q27
                                  have p31 : 0 ≤ ((ji28) : Int) := of_decide_eq_true (by first | (with_reducible assumption) | assumption)
                                  have q31 : (ji28) < (a0.size : Int) := of_decide_eq_true (by first | (with_reducible assumption) | assumption)
                                  have hx31 := bt_at a0 (ji28)
                                  replace p31 := eq_true p31
                                  replace q31 := eq_true q31
                                  go_wp2
                                  repeat (go_quiet (fail); try go_wp2)
                                  go_ret2
                                  exact ⟨by first | rfl | (simp; done) | (simp only [← hji24, ← hji28] <;> (first | rfl | simp)) | (simp [*]; done), by repeat (first | exact Drawn0.refl _ | apply Drawn0.step)⟩
                            · rw [if_neg c32] at H
                              have c32b0 : decide (2048 ≤ (wrap64 ((wrap64 ((wrap64 ((wrap64 ((wrap64 ((wrap64 (bt a0 a1)) - 224)) * 4096)) + (wrap64 ((wrap64 ((wrap64 (bt a0 (ji24))) - 128)) * 64)))) + (wrap64 (bt a0 (ji28))))) - 128))) = false := decide_eq_false c32
                              clear c32
                              simp only [Option.some.injEq, Prod.mk.injEq] at H
                              obtain ⟨rfl, rfl⟩ := H
                              have p27 : 0 ≤ ((ji24) : Int) := of_decide_eq_true (by first | (with_reducible assumption) | assumption)
                              have q27 : (ji24) < (a0.size : Int) := of_decide_eq_true (by first | (with_reducible assumption) | assumption)
                              have hx27 := bt_at a0 (ji24)
                              replace p27 := eq_true p27
                              replace q27 := eq_true q27
                              have p31 : 0 ≤ ((ji28) : Int) := of_decide_eq_true (by first | (with_reducible assumption) | assumption)
                              have q31 : (ji28) < (a0.size : Int) := of_decide_eq_true (by first | (with_reducible assumption) | assumption)
                              have hx31 := bt_at a0 (ji28)
                              replace p31 := eq_true p31
                              replace q31 := eq_true q31
                              go_wp2
                              repeat (go_quiet (fail); try go_wp2)
                              go_ret2
                              exact ⟨by first | rfl | (simp; done) | (simp only [← hji24, ← hji28] <;> (first | rfl | simp)) | (simp [*]; done), by repeat (first | exact Drawn0.refl _ | apply Drawn0.step)⟩
                          · rw [if_neg c30] at H
                            exact absurd H (by simp)
                        · rw [if_neg c29] at H
                          exact absurd H (by simp)
                      · rw [if_neg c26] at H
                        exact absurd H (by simp)
                    · rw [if_neg c25] at H
                      exact absurd H (by simp)
                  · replace c23 := Bool.eq_false_iff.mpr c23
                    subst c23
                    have H1 : (if (wrap64 (bt a0 a1)) ≥ 240 then (if (wrap64 (bt a0 a1)) < 248 then ((triremeref01_more.f a0 (wrap64 (a1 + 1))).bind fun t139 => (if t139 = true then ((triremeref01_more.f a0 (wrap64 (a1 + 2))).bind fun t140 => (if t140 = true then ((triremeref01_more.f a0 (wrap64 (a1 + 3))).bind fun t141 => (triremeref01_Rune.j2 kj16 a0 a1 (wrap64 (bt a0 a1)) t141)) else (triremeref01_Rune.j2 kj16 a0 a1 (wrap64 (bt a0 a1)) false))) else (triremeref01_Rune.j2 kj16 a0 a1 (wrap64 (bt a0 a1)) false))) else (triremeref01_Rune.j2 kj16 a0 a1 (wrap64 (bt a0 a1)) false)) else (triremeref01_Rune.j2 kj16 a0 a1 (wrap64 (bt a0 a1)) false)) = some (r1, r2) := by rw [if_neg (show ¬ (false = true) by decide)] at H; exact H
                    clear H
                    have H := H1
                    clear H1
                    have HC35 := Aside0.mk H
                    clear H
                    go_upto_region 12 with (fail)
                    repeat (go_quiet (fail); go_upto_region 12 with (fail))
                    go_cut [92] (fun v92 wc => ∃ (kq : Nat) (x92_34 : Bool), v92 = .bool x92_34 ∧ Aside0 (triremeref01_Rune.j2 kq a0 a1 (wrap64 (bt a0 a1)) x92_34 = some (r1, r2)) ∧ Aside0 (kq ≤ kj16) ∧ Drawn0 w wc)
                    case first =>
                      have H := HC35.out
                      clear HC35
                      by_cases c36 : (wrap64 (bt a0 a1)) ≥ 240
                      · rw [if_pos c36] at H
                        have c36b0 : decide (240 ≤ (wrap64 (bt a0 a1))) = true := decide_eq_true c36
                        clear c36
                        (first | rw [c36b0] | (simp only [i64_w, i32_w]; rw [c36b0]) | skip)
                        by_cases c37 : (wrap64 (bt a0 a1)) < 248
                        · rw [if_pos c37] at H
                          have c37b0 : decide ((wrap64 (bt a0 a1)) < 248) = true := decide_eq_true c37
                          clear c37
                          replace H := Option.bind_eq_some_iff.mp H
                          obtain ⟨t139, A380, H⟩ := H
                          replace H : (if t139 = true then ((triremeref01_more.f a0 (wrap64 (a1 + 2))).bind fun t140 => (if t140 = true then ((triremeref01_more.f a0 (wrap64 (a1 + 3))).bind fun t141 => (triremeref01_Rune.j2 kj16 a0 a1 (wrap64 (bt a0 a1)) t141)) else (triremeref01_Rune.j2 kj16 a0 a1 (wrap64 (bt a0 a1)) false))) else (triremeref01_Rune.j2 kj16 a0 a1 (wrap64 (bt a0 a1)) false)) = some (r1, r2) := H
                          have A38 := Aside0.mk A380
                          clear A380
                          by_cases c39 : t139 = true
                          · subst c39
                            have H1 : ((triremeref01_more.f a0 (wrap64 (a1 + 2))).bind fun t140 => (if t140 = true then ((triremeref01_more.f a0 (wrap64 (a1 + 3))).bind fun t141 => (triremeref01_Rune.j2 kj16 a0 a1 (wrap64 (bt a0 a1)) t141)) else (triremeref01_Rune.j2 kj16 a0 a1 (wrap64 (bt a0 a1)) false))) = some (r1, r2) := by rw [if_pos rfl] at H; exact H
                            clear H
                            have H := H1
                            clear H1
                            replace H := Option.bind_eq_some_iff.mp H
                            obtain ⟨t140, A400, H⟩ := H
                            replace H : (if t140 = true then ((triremeref01_more.f a0 (wrap64 (a1 + 3))).bind fun t141 => (triremeref01_Rune.j2 kj16 a0 a1 (wrap64 (bt a0 a1)) t141)) else (triremeref01_Rune.j2 kj16 a0 a1 (wrap64 (bt a0 a1)) false)) = some (r1, r2) := H
                            have A40 := Aside0.mk A400
                            clear A400
                            by_cases c41 : t140 = true
                            · subst c41
                              have H1 : ((triremeref01_more.f a0 (wrap64 (a1 + 3))).bind fun t141 => (triremeref01_Rune.j2 kj16 a0 a1 (wrap64 (bt a0 a1)) t141)) = some (r1, r2) := by rw [if_pos rfl] at H; exact H
                              clear H
                              have H := H1
                              clear H1
                              replace H := Option.bind_eq_some_iff.mp H
                              obtain ⟨t141, A420, H⟩ := H
                              replace H : (triremeref01_Rune.j2 kj16 a0 a1 (wrap64 (bt a0 a1)) t141) = some (r1, r2) := H
                              have A42 := Aside0.mk A420
                              clear A420
                              have H' := Aside0.mk H
                              clear H
                              go_wp2_with (first | (go_at_call 144; (with_reducible refine (triremeref01_more.calls a0 (wrap64 (a1 + 1)) true _ A38.out).mono ?_); rintro e w' ⟨rfl, ⟨nd, rfl⟩⟩; (try first | exact ⟨rfl, _, World.drewN_drewN _ _ _⟩ | exact ⟨rfl, _, Eq.trans (World.drewN_drewN _ _ _) (congrArg (World.drewN _) (Nat.add_assoc _ _ _))⟩)) | (go_at_call 144; (with_reducible refine (triremeref01_more.calls a0 (wrap64 (a1 + 2)) true _ A40.out).mono ?_); rintro e w' ⟨rfl, ⟨nd, rfl⟩⟩; (try first | exact ⟨rfl, _, World.drewN_drewN _ _ _⟩ | exact ⟨rfl, _, Eq.trans (World.drewN_drewN _ _ _) (congrArg (World.drewN _) (Nat.add_assoc _ _ _))⟩)) | (go_at_call 144; (with_reducible refine (triremeref01_more.calls a0 (wrap64 (a1 + 3)) t141 _ A42.out).mono ?_); rintro e w' ⟨rfl, ⟨nd, rfl⟩⟩; (try first | exact ⟨rfl, _, World.drewN_drewN _ _ _⟩ | exact ⟨rfl, _, Eq.trans (World.drewN_drewN _ _ _) (congrArg (World.drewN _) (Nat.add_assoc _ _ _))⟩)))
                              repeat (go_quiet (first | (go_at_call 144; (with_reducible refine (triremeref01_more.calls a0 (wrap64 (a1 + 1)) true _ A38.out).mono ?_); rintro e w' ⟨rfl, ⟨nd, rfl⟩⟩; (try first | exact ⟨rfl, _, World.drewN_drewN _ _ _⟩ | exact ⟨rfl, _, Eq.trans (World.drewN_drewN _ _ _) (congrArg (World.drewN _) (Nat.add_assoc _ _ _))⟩)) | (go_at_call 144; (with_reducible refine (triremeref01_more.calls a0 (wrap64 (a1 + 2)) true _ A40.out).mono ?_); rintro e w' ⟨rfl, ⟨nd, rfl⟩⟩; (try first | exact ⟨rfl, _, World.drewN_drewN _ _ _⟩ | exact ⟨rfl, _, Eq.trans (World.drewN_drewN _ _ _) (congrArg (World.drewN _) (Nat.add_assoc _ _ _))⟩)) | (go_at_call 144; (with_reducible refine (triremeref01_more.calls a0 (wrap64 (a1 + 3)) t141 _ A42.out).mono ?_); rintro e w' ⟨rfl, ⟨nd, rfl⟩⟩; (try first | exact ⟨rfl, _, World.drewN_drewN _ _ _⟩ | exact ⟨rfl, _, Eq.trans (World.drewN_drewN _ _ _) (congrArg (World.drewN _) (Nat.add_assoc _ _ _))⟩))); try go_wp2_with (first | (go_at_call 144; (with_reducible refine (triremeref01_more.calls a0 (wrap64 (a1 + 1)) true _ A38.out).mono ?_); rintro e w' ⟨rfl, ⟨nd, rfl⟩⟩; (try first | exact ⟨rfl, _, World.drewN_drewN _ _ _⟩ | exact ⟨rfl, _, Eq.trans (World.drewN_drewN _ _ _) (congrArg (World.drewN _) (Nat.add_assoc _ _ _))⟩)) | (go_at_call 144; (with_reducible refine (triremeref01_more.calls a0 (wrap64 (a1 + 2)) true _ A40.out).mono ?_); rintro e w' ⟨rfl, ⟨nd, rfl⟩⟩; (try first | exact ⟨rfl, _, World.drewN_drewN _ _ _⟩ | exact ⟨rfl, _, Eq.trans (World.drewN_drewN _ _ _) (congrArg (World.drewN _) (Nat.add_assoc _ _ _))⟩)) | (go_at_call 144; (with_reducible refine (triremeref01_more.calls a0 (wrap64 (a1 + 3)) t141 _ A42.out).mono ?_); rintro e w' ⟨rfl, ⟨nd, rfl⟩⟩; (try first | exact ⟨rfl, _, World.drewN_drewN _ _ _⟩ | exact ⟨rfl, _, Eq.trans (World.drewN_drewN _ _ _) (congrArg (World.drewN _) (Nat.add_assoc _ _ _))⟩))))
                              go_meet
                              case rel => exact ⟨_, (t141), (by first | rfl | (simp; done) | (simp [*]; done)), H', ⟨by have := HJ6.out; have := HJ16.out; first | omega | exact Nat.le_refl _⟩, by repeat (first | exact Drawn0.refl _ | apply Drawn0.step)⟩
                            · replace c41 := Bool.eq_false_iff.mpr c41
                              subst c41
                              have H1 : (triremeref01_Rune.j2 kj16 a0 a1 (wrap64 (bt a0 a1)) false) = some (r1, r2) := by rw [if_neg (show ¬ (false = true) by decide)] at H; exact H
                              clear H
                              have H := H1
                              clear H1
                              have H' := Aside0.mk H
                              clear H
                              go_wp2_with (first | (go_at_call 144; (with_reducible refine (triremeref01_more.calls a0 (wrap64 (a1 + 1)) true _ A38.out).mono ?_); rintro e w' ⟨rfl, ⟨nd, rfl⟩⟩; (try first | exact ⟨rfl, _, World.drewN_drewN _ _ _⟩ | exact ⟨rfl, _, Eq.trans (World.drewN_drewN _ _ _) (congrArg (World.drewN _) (Nat.add_assoc _ _ _))⟩)) | (go_at_call 144; (with_reducible refine (triremeref01_more.calls a0 (wrap64 (a1 + 2)) false _ A40.out).mono ?_); rintro e w' ⟨rfl, ⟨nd, rfl⟩⟩; (try first | exact ⟨rfl, _, World.drewN_drewN _ _ _⟩ | exact ⟨rfl, _, Eq.trans (World.drewN_drewN _ _ _) (congrArg (World.drewN _) (Nat.add_assoc _ _ _))⟩)))
                              repeat (go_quiet (first | (go_at_call 144; (with_reducible refine (triremeref01_more.calls a0 (wrap64 (a1 + 1)) true _ A38.out).mono ?_); rintro e w' ⟨rfl, ⟨nd, rfl⟩⟩; (try first | exact ⟨rfl, _, World.drewN_drewN _ _ _⟩ | exact ⟨rfl, _, Eq.trans (World.drewN_drewN _ _ _) (congrArg (World.drewN _) (Nat.add_assoc _ _ _))⟩)) | (go_at_call 144; (with_reducible refine (triremeref01_more.calls a0 (wrap64 (a1 + 2)) false _ A40.out).mono ?_); rintro e w' ⟨rfl, ⟨nd, rfl⟩⟩; (try first | exact ⟨rfl, _, World.drewN_drewN _ _ _⟩ | exact ⟨rfl, _, Eq.trans (World.drewN_drewN _ _ _) (congrArg (World.drewN _) (Nat.add_assoc _ _ _))⟩))); try go_wp2_with (first | (go_at_call 144; (with_reducible refine (triremeref01_more.calls a0 (wrap64 (a1 + 1)) true _ A38.out).mono ?_); rintro e w' ⟨rfl, ⟨nd, rfl⟩⟩; (try first | exact ⟨rfl, _, World.drewN_drewN _ _ _⟩ | exact ⟨rfl, _, Eq.trans (World.drewN_drewN _ _ _) (congrArg (World.drewN _) (Nat.add_assoc _ _ _))⟩)) | (go_at_call 144; (with_reducible refine (triremeref01_more.calls a0 (wrap64 (a1 + 2)) false _ A40.out).mono ?_); rintro e w' ⟨rfl, ⟨nd, rfl⟩⟩; (try first | exact ⟨rfl, _, World.drewN_drewN _ _ _⟩ | exact ⟨rfl, _, Eq.trans (World.drewN_drewN _ _ _) (congrArg (World.drewN _) (Nat.add_assoc _ _ _))⟩))))
                              go_meet
                              case rel => exact ⟨_, (false), (by first | rfl | (simp; done) | (simp [*]; done)), H', ⟨by have := HJ6.out; have := HJ16.out; first | omega | exact Nat.le_refl _⟩, by repeat (first | exact Drawn0.refl _ | apply Drawn0.step)⟩
                          · replace c39 := Bool.eq_false_iff.mpr c39
                            subst c39
                            have H1 : (triremeref01_Rune.j2 kj16 a0 a1 (wrap64 (bt a0 a1)) false) = some (r1, r2) := by rw [if_neg (show ¬ (false = true) by decide)] at H; exact H
                            clear H
                            have H := H1
                            clear H1
                            have H' := Aside0.mk H
                            clear H
                            go_wp2_with (first | (go_at_call 144; (with_reducible refine (triremeref01_more.calls a0 (wrap64 (a1 + 1)) false _ A38.out).mono ?_); rintro e w' ⟨rfl, ⟨nd, rfl⟩⟩; (try first | exact ⟨rfl, _, World.drewN_drewN _ _ _⟩ | exact ⟨rfl, _, Eq.trans (World.drewN_drewN _ _ _) (congrArg (World.drewN _) (Nat.add_assoc _ _ _))⟩)))
                            repeat (go_quiet (first | (go_at_call 144; (with_reducible refine (triremeref01_more.calls a0 (wrap64 (a1 + 1)) false _ A38.out).mono ?_); rintro e w' ⟨rfl, ⟨nd, rfl⟩⟩; (try first | exact ⟨rfl, _, World.drewN_drewN _ _ _⟩ | exact ⟨rfl, _, Eq.trans (World.drewN_drewN _ _ _) (congrArg (World.drewN _) (Nat.add_assoc _ _ _))⟩))); try go_wp2_with (first | (go_at_call 144; (with_reducible refine (triremeref01_more.calls a0 (wrap64 (a1 + 1)) false _ A38.out).mono ?_); rintro e w' ⟨rfl, ⟨nd, rfl⟩⟩; (try first | exact ⟨rfl, _, World.drewN_drewN _ _ _⟩ | exact ⟨rfl, _, Eq.trans (World.drewN_drewN _ _ _) (congrArg (World.drewN _) (Nat.add_assoc _ _ _))⟩))))
                            go_meet
                            case rel => exact ⟨_, (false), (by first | rfl | (simp; done) | (simp [*]; done)), H', ⟨by have := HJ6.out; have := HJ16.out; first | omega | exact Nat.le_refl _⟩, by repeat (first | exact Drawn0.refl _ | apply Drawn0.step)⟩
                        · rw [if_neg c37] at H
                          have c37b0 : decide ((wrap64 (bt a0 a1)) < 248) = false := decide_eq_false c37
                          clear c37
                          have H' := Aside0.mk H
                          clear H
                          go_wp2
                          repeat (go_quiet (fail); try go_wp2)
                          go_meet
                          case rel => exact ⟨_, (false), (by first | rfl | (simp; done) | (simp [*]; done)), H', ⟨by have := HJ6.out; have := HJ16.out; first | omega | exact Nat.le_refl _⟩, by repeat (first | exact Drawn0.refl _ | apply Drawn0.step)⟩
                      · rw [if_neg c36] at H
                        have c36b0 : decide (240 ≤ (wrap64 (bt a0 a1))) = false := decide_eq_false c36
                        clear c36
                        (first | rw [c36b0] | (simp only [i64_w, i32_w]; rw [c36b0]) | skip)
                        have H' := Aside0.mk H
                        clear H
                        go_wp2
                        repeat (go_quiet (fail); try go_wp2)
                        go_meet
                        case rel => exact ⟨_, (false), (by first | rfl | (simp; done) | (simp [*]; done)), H', ⟨by have := HJ6.out; have := HJ16.out; first | omega | exact Nat.le_refl _⟩, by repeat (first | exact Drawn0.refl _ | apply Drawn0.step)⟩
                    case rest =>
                      clear HC35
                      try clear c1
                      try clear p1
                      try clear q1
                      try clear hx1
                      try clear c2
                      try clear p2
                      try clear q2
                      try clear hx2
                      try clear c3
                      try clear c3b0
                      try clear p3
                      try clear q3
                      try clear hx3
                      try clear c4
                      try clear c4b0
                      try clear p5
                      try clear q5
                      try clear hx5
                      try clear c6
                      try clear c6b0
                      try clear p6
                      try clear c8
                      try clear c8b0
                      try clear c9
                      try clear c9b0
                      try clear c11
                      try clear c13
                      try clear c13b0
                      try clear c14
                      try clear c14b0
                      try clear p15
                      try clear q15
                      try clear hx15
                      try clear c16
                      try clear c16b0
                      try clear c18
                      try clear c18b0
                      try clear c19
                      try clear c19b0
                      try clear c21
                      try clear c23
                      try clear c25
                      try clear c25b0
                      try clear c26
                      try clear c26b0
                      try clear p27
                      try clear q27
                      try clear hx27
                      try clear c29
                      try clear c29b0
                      try clear c30
                      try clear c30b0
                      try clear p31
                      try clear q31
                      try clear hx31
                      try clear c32
                      try clear c32b0
                      try clear c33
                      try clear c33b0
                      try clear c34
                      try clear c34b0
                      try clear c36
                      try clear c36b0
                      try clear c37
                      try clear c37b0
                      try clear c39
                      try clear c41
                      try clear p1
                      try clear p15
                      try clear p2
                      try clear p27
                      try clear p31
                      try clear p5
                      try clear p6
                      try clear q1
                      try clear q15
                      try clear q27
                      try clear q31
                      try clear q5
                      obtain ⟨kq, x92_34, rfl, HA, HJ34, ⟨mc34, rfl⟩⟩ := hcut
                      cases kq with
                      | zero => exact absurd HA.out (by simp [triremeref01_Rune.j2])
                      | succ kj34 =>
                        have H := HA.out
                        clear HA
                        simp only [triremeref01_Rune.j2] at H
                        by_cases c43 : x92_34 = true
                        · subst c43
                          have H1 : (if 0 ≤ (wrap64 (a1 + 1)) then (if (wrap64 (a1 + 1)) < (a0.size : Int) then (if 0 ≤ (wrap64 (a1 + 2)) then (if (wrap64 (a1 + 2)) < (a0.size : Int) then (if 0 ≤ (wrap64 (a1 + 3)) then (if (wrap64 (a1 + 3)) < (a0.size : Int) then (if (wrap64 ((wrap64 ((wrap64 ((wrap64 ((wrap64 ((wrap64 ((wrap64 (bt a0 a1)) - 240)) * 262144)) + (wrap64 ((wrap64 ((wrap64 (bt a0 (wrap64 (a1 + 1)))) - 128)) * 4096)))) + (wrap64 ((wrap64 ((wrap64 (bt a0 (wrap64 (a1 + 2)))) - 128)) * 64)))) + (wrap64 (bt a0 (wrap64 (a1 + 3)))))) - 128)) ≥ 65536 then (if (wrap64 ((wrap64 ((wrap64 ((wrap64 ((wrap64 ((wrap64 ((wrap64 (bt a0 a1)) - 240)) * 262144)) + (wrap64 ((wrap64 ((wrap64 (bt a0 (wrap64 (a1 + 1)))) - 128)) * 4096)))) + (wrap64 ((wrap64 ((wrap64 (bt a0 (wrap64 (a1 + 2)))) - 128)) * 64)))) + (wrap64 (bt a0 (wrap64 (a1 + 3)))))) - 128)) ≤ 1114111 then (some (wrap64 ((wrap64 ((wrap64 ((wrap64 ((wrap64 ((wrap64 ((wrap64 (bt a0 a1)) - 240)) * 262144)) + (wrap64 ((wrap64 ((wrap64 (bt a0 (wrap64 (a1 + 1)))) - 128)) * 4096)))) + (wrap64 ((wrap64 ((wrap64 (bt a0 (wrap64 (a1 + 2)))) - 128)) * 64)))) + (wrap64 (bt a0 (wrap64 (a1 + 3)))))) - 128), 4)) else (some (0, 0))) else (some (0, 0))) else (none)) else (none)) else (none)) else (none)) else (none)) else (none)) = some (r1, r2) := by rw [if_pos rfl] at H; exact H
                          clear H
                          have H := H1
                          clear H1
                          obtain ⟨ji44, hji44⟩ : ∃ j_ : Int, (wrap64 (a1 + 1)) = j_ := ⟨_, rfl⟩
                          replace H : (if 0 ≤ (ji44) then (if (ji44) < (a0.size : Int) then (if 0 ≤ (wrap64 (a1 + 2)) then (if (wrap64 (a1 + 2)) < (a0.size : Int) then (if 0 ≤ (wrap64 (a1 + 3)) then (if (wrap64 (a1 + 3)) < (a0.size : Int) then (if (wrap64 ((wrap64 ((wrap64 ((wrap64 ((wrap64 ((wrap64 ((wrap64 (bt a0 a1)) - 240)) * 262144)) + (wrap64 ((wrap64 ((wrap64 (bt a0 (ji44))) - 128)) * 4096)))) + (wrap64 ((wrap64 ((wrap64 (bt a0 (wrap64 (a1 + 2)))) - 128)) * 64)))) + (wrap64 (bt a0 (wrap64 (a1 + 3)))))) - 128)) ≥ 65536 then (if (wrap64 ((wrap64 ((wrap64 ((wrap64 ((wrap64 ((wrap64 ((wrap64 (bt a0 a1)) - 240)) * 262144)) + (wrap64 ((wrap64 ((wrap64 (bt a0 (ji44))) - 128)) * 4096)))) + (wrap64 ((wrap64 ((wrap64 (bt a0 (wrap64 (a1 + 2)))) - 128)) * 64)))) + (wrap64 (bt a0 (wrap64 (a1 + 3)))))) - 128)) ≤ 1114111 then (some (wrap64 ((wrap64 ((wrap64 ((wrap64 ((wrap64 ((wrap64 ((wrap64 (bt a0 a1)) - 240)) * 262144)) + (wrap64 ((wrap64 ((wrap64 (bt a0 (ji44))) - 128)) * 4096)))) + (wrap64 ((wrap64 ((wrap64 (bt a0 (wrap64 (a1 + 2)))) - 128)) * 64)))) + (wrap64 (bt a0 (wrap64 (a1 + 3)))))) - 128), 4)) else (some (0, 0))) else (some (0, 0))) else (none)) else (none)) else (none)) else (none)) else (none)) else (none)) = some (r1, r2) := by first | (rw [hji44] at H; exact H) | (simp only [hji44] at H ⊢; exact H)
                          have hji44w : (IntKind.i64.wrap (a1 + 1)) = ji44 := (i64_w _).trans hji44
                          by_cases c45 : 0 ≤ (ji44)
                          · rw [if_pos c45] at H
                            have c45b0 : decide (0 ≤ (ji44)) = true := decide_eq_true c45
                            clear c45
                            by_cases c46 : (ji44) < (a0.size : Int)
                            · rw [if_pos c46] at H
                              have c46b0 : decide ((ji44) < (a0.size : Int)) = true := decide_eq_true c46
                              clear c46
                              obtain ⟨ji48, hji48⟩ : ∃ j_ : Int, (wrap64 (a1 + 2)) = j_ := ⟨_, rfl⟩
                              replace H : (if 0 ≤ (ji48) then (if (ji48) < (a0.size : Int) then (if 0 ≤ (wrap64 (a1 + 3)) then (if (wrap64 (a1 + 3)) < (a0.size : Int) then (if (wrap64 ((wrap64 ((wrap64 ((wrap64 ((wrap64 ((wrap64 ((wrap64 (bt a0 a1)) - 240)) * 262144)) + (wrap64 ((wrap64 ((wrap64 (bt a0 (ji44))) - 128)) * 4096)))) + (wrap64 ((wrap64 ((wrap64 (bt a0 (ji48))) - 128)) * 64)))) + (wrap64 (bt a0 (wrap64 (a1 + 3)))))) - 128)) ≥ 65536 then (if (wrap64 ((wrap64 ((wrap64 ((wrap64 ((wrap64 ((wrap64 ((wrap64 (bt a0 a1)) - 240)) * 262144)) + (wrap64 ((wrap64 ((wrap64 (bt a0 (ji44))) - 128)) * 4096)))) + (wrap64 ((wrap64 ((wrap64 (bt a0 (ji48))) - 128)) * 64)))) + (wrap64 (bt a0 (wrap64 (a1 + 3)))))) - 128)) ≤ 1114111 then (some (wrap64 ((wrap64 ((wrap64 ((wrap64 ((wrap64 ((wrap64 ((wrap64 (bt a0 a1)) - 240)) * 262144)) + (wrap64 ((wrap64 ((wrap64 (bt a0 (ji44))) - 128)) * 4096)))) + (wrap64 ((wrap64 ((wrap64 (bt a0 (ji48))) - 128)) * 64)))) + (wrap64 (bt a0 (wrap64 (a1 + 3)))))) - 128), 4)) else (some (0, 0))) else (some (0, 0))) else (none)) else (none)) else (none)) else (none)) = some (r1, r2) := by first | (rw [hji48] at H; exact H) | (simp only [hji48] at H ⊢; exact H)
                              have hji48w : (IntKind.i64.wrap (a1 + 2)) = ji48 := (i64_w _).trans hji48
                              by_cases c49 : 0 ≤ (ji48)
                              · rw [if_pos c49] at H
                                have c49b0 : decide (0 ≤ (ji48)) = true := decide_eq_true c49
                                clear c49
                                by_cases c50 : (ji48) < (a0.size : Int)
                                · rw [if_pos c50] at H
                                  have c50b0 : decide ((ji48) < (a0.size : Int)) = true := decide_eq_true c50
                                  clear c50
                                  obtain ⟨ji52, hji52⟩ : ∃ j_ : Int, (wrap64 (a1 + 3)) = j_ := ⟨_, rfl⟩
                                  replace H : (if 0 ≤ (ji52) then (if (ji52) < (a0.size : Int) then (if (wrap64 ((wrap64 ((wrap64 ((wrap64 ((wrap64 ((wrap64 ((wrap64 (bt a0 a1)) - 240)) * 262144)) + (wrap64 ((wrap64 ((wrap64 (bt a0 (ji44))) - 128)) * 4096)))) + (wrap64 ((wrap64 ((wrap64 (bt a0 (ji48))) - 128)) * 64)))) + (wrap64 (bt a0 (ji52))))) - 128)) ≥ 65536 then (if (wrap64 ((wrap64 ((wrap64 ((wrap64 ((wrap64 ((wrap64 ((wrap64 (bt a0 a1)) - 240)) * 262144)) + (wrap64 ((wrap64 ((wrap64 (bt a0 (ji44))) - 128)) * 4096)))) + (wrap64 ((wrap64 ((wrap64 (bt a0 (ji48))) - 128)) * 64)))) + (wrap64 (bt a0 (ji52))))) - 128)) ≤ 1114111 then (some (wrap64 ((wrap64 ((wrap64 ((wrap64 ((wrap64 ((wrap64 ((wrap64 (bt a0 a1)) - 240)) * 262144)) + (wrap64 ((wrap64 ((wrap64 (bt a0 (ji44))) - 128)) * 4096)))) + (wrap64 ((wrap64 ((wrap64 (bt a0 (ji48))) - 128)) * 64)))) + (wrap64 (bt a0 (ji52))))) - 128), 4)) else (some (0, 0))) else (some (0, 0))) else (none)) else (none)) = some (r1, r2) := by first | (rw [hji52] at H; exact H) | (simp only [hji52] at H ⊢; exact H)
                                  have hji52w : (IntKind.i64.wrap (a1 + 3)) = ji52 := (i64_w _).trans hji52
                                  by_cases c53 : 0 ≤ (ji52)
                                  · rw [if_pos c53] at H
                                    have c53b0 : decide (0 ≤ (ji52)) = true := decide_eq_true c53
                                    clear c53
                                    by_cases c54 : (ji52) < (a0.size : Int)
                                    · rw [if_pos c54] at H
                                      have c54b0 : decide ((ji52) < (a0.size : Int)) = true := decide_eq_true c54
                                      clear c54
                                      by_cases c56 : (wrap64 ((wrap64 ((wrap64 ((wrap64 ((wrap64 ((wrap64 ((wrap64 (bt a0 a1)) - 240)) * 262144)) + (wrap64 ((wrap64 ((wrap64 (bt a0 (ji44))) - 128)) * 4096)))) + (wrap64 ((wrap64 ((wrap64 (bt a0 (ji48))) - 128)) * 64)))) + (wrap64 (bt a0 (ji52))))) - 128)) ≥ 65536
                                      · rw [if_pos c56] at H
                                        have c56b0 : decide (65536 ≤ (wrap64 ((wrap64 ((wrap64 ((wrap64 ((wrap64 ((wrap64 ((wrap64 (bt a0 a1)) - 240)) * 262144)) + (wrap64 ((wrap64 ((wrap64 (bt a0 (ji44))) - 128)) * 4096)))) + (wrap64 ((wrap64 ((wrap64 (bt a0 (ji48))) - 128)) * 64)))) + (wrap64 (bt a0 (ji52))))) - 128))) = true := decide_eq_true c56
                                        clear c56
                                        by_cases c57 : (wrap64 ((wrap64 ((wrap64 ((wrap64 ((wrap64 ((wrap64 ((wrap64 (bt a0 a1)) - 240)) * 262144)) + (wrap64 ((wrap64 ((wrap64 (bt a0 (ji44))) - 128)) * 4096)))) + (wrap64 ((wrap64 ((wrap64 (bt a0 (ji48))) - 128)) * 64)))) + (wrap64 (bt a0 (ji52))))) - 128)) ≤ 1114111
                                        · rw [if_pos c57] at H
                                          have c57b0 : decide ((wrap64 ((wrap64 ((wrap64 ((wrap64 ((wrap64 ((wrap64 ((wrap64 (bt a0 a1)) - 240)) * 262144)) + (wrap64 ((wrap64 ((wrap64 (bt a0 (ji44))) - 128)) * 4096)))) + (wrap64 ((wrap64 ((wrap64 (bt a0 (ji48))) - 128)) * 64)))) + (wrap64 (bt a0 (ji52))))) - 128)) ≤ 1114111) = true := decide_eq_true c57
                                          clear c57
                                          simp only [Option.some.injEq, Prod.mk.injEq] at H
                                          obtain ⟨rfl, rfl⟩ := H
                                          have p47 : 0 ≤ ((ji44) : Int) := of_decide_eq_true (by first | (with_reducible assumption) | assumption)
                                          have q47 : (ji44) < (a0.size : Int) := of_decide_eq_true (by first | (with_reducible assumption) | assumption)
                                          have hx47 := bt_at a0 (ji44)
                                          replace p47 := eq_true p47
                                          replace q47 := eq_true q47
                                          have p51 : 0 ≤ ((ji48) : Int) := of_decide_eq_true (by first | (with_reducible assumption) | assumption)
                                          have q51 : (ji48) < (a0.size : Int) := of_decide_eq_true (by first | (with_reducible assumption) | assumption)
                                          have hx51 := bt_at a0 (ji48)
                                          replace p51 := eq_true p51
                                          replace q51 := eq_true q51
                                          have p55 : 0 ≤ ((ji52) : Int) := of_decide_eq_true (by first | (with_reducible assumption) | assumption)
                                          have q55 : (ji52) < (a0.size : Int) := of_decide_eq_true (by first | (with_reducible assumption) | assumption)
                                          have hx55 := bt_at a0 (ji52)
                                          replace p55 := eq_true p55
                                          replace q55 := eq_true q55
                                          go_wp2
                                          repeat (go_quiet (fail); try go_wp2)
                                          go_ret2
                                          exact ⟨by first | rfl | (simp; done) | (simp only [← hji44, ← hji48, ← hji52] <;> (first | rfl | simp)) | (simp [*]; done), by repeat (first | exact Drawn0.refl _ | apply Drawn0.step)⟩
                                        · rw [if_neg c57] at H
                                          have c57b0 : decide ((wrap64 ((wrap64 ((wrap64 ((wrap64 ((wrap64 ((wrap64 ((wrap64 (bt a0 a1)) - 240)) * 262144)) + (wrap64 ((wrap64 ((wrap64 (bt a0 (ji44))) - 128)) * 4096)))) + (wrap64 ((wrap64 ((wrap64 (bt a0 (ji48))) - 128)) * 64)))) + (wrap64 (bt a0 (ji52))))) - 128)) ≤ 1114111) = false := decide_eq_false c57
                                          clear c57
                                          simp only [Option.some.injEq, Prod.mk.injEq] at H
                                          obtain ⟨rfl, rfl⟩ := H
                                          have p47 : 0 ≤ ((ji44) : Int) := of_decide_eq_true (by first | (with_reducible assumption) | assumption)
                                          have q47 : (ji44) < (a0.size : Int) := of_decide_eq_true (by first | (with_reducible assumption) | assumption)
                                          have hx47 := bt_at a0 (ji44)
                                          replace p47 := eq_true p47
                                          replace q47 := eq_true q47
                                          have p51 : 0 ≤ ((ji48) : Int) := of_decide_eq_true (by first | (with_reducible assumption) | assumption)
                                          have q51 : (ji48) < (a0.size : Int) := of_decide_eq_true (by first | (with_reducible assumption) | assumption)
                                          have hx51 := bt_at a0 (ji48)
                                          replace p51 := eq_true p51
                                          replace q51 := eq_true q51
                                          have p55 : 0 ≤ ((ji52) : Int) := of_decide_eq_true (by first | (with_reducible assumption) | assumption)
                                          have q55 : (ji52) < (a0.size : Int) := of_decide_eq_true (by first | (with_reducible assumption) | assumption)
                                          have hx55 := bt_at a0 (ji52)
                                          replace p55 := eq_true p55
                                          replace q55 := eq_true q55
                                          go_wp2
                                          repeat (go_quiet (fail); try go_wp2)
                                          go_ret2
                                          exact ⟨by first | rfl | (simp; done) | (simp only [← hji44, ← hji48, ← hji52] <;> (first | rfl | simp)) | (simp [*]; done), by repeat (first | exact Drawn0.refl _ | apply Drawn0.step)⟩
                                      · rw [if_neg c56] at H
                                        have c56b0 : decide (65536 ≤ (wrap64 ((wrap64 ((wrap64 ((wrap64 ((wrap64 ((wrap64 ((wrap64 (bt a0 a1)) - 240)) * 262144)) + (wrap64 ((wrap64 ((wrap64 (bt a0 (ji44))) - 128)) * 4096)))) + (wrap64 ((wrap64 ((wrap64 (bt a0 (ji48))) - 128)) * 64)))) + (wrap64 (bt a0 (ji52))))) - 128))) = false := decide_eq_false c56
                                        clear c56
                                        simp only [Option.some.injEq, Prod.mk.injEq] at H
                                        obtain ⟨rfl, rfl⟩ := H
                                        have p47 : 0 ≤ ((ji44) : Int) := of_decide_eq_true (by first | (with_reducible assumption) | assumption)
                                        have q47 : (ji44) < (a0.size : Int) := of_decide_eq_true (by first | (with_reducible assumption) | assumption)
                                        have hx47 := bt_at a0 (ji44)
                                        replace p47 := eq_true p47
                                        replace q47 := eq_true q47
                                        have p51 : 0 ≤ ((ji48) : Int) := of_decide_eq_true (by first | (with_reducible assumption) | assumption)
                                        have q51 : (ji48) < (a0.size : Int) := of_decide_eq_true (by first | (with_reducible assumption) | assumption)
                                        have hx51 := bt_at a0 (ji48)
                                        replace p51 := eq_true p51
                                        replace q51 := eq_true q51
                                        have p55 : 0 ≤ ((ji52) : Int) := of_decide_eq_true (by first | (with_reducible assumption) | assumption)
                                        have q55 : (ji52) < (a0.size : Int) := of_decide_eq_true (by first | (with_reducible assumption) | assumption)
                                        have hx55 := bt_at a0 (ji52)
                                        replace p55 := eq_true p55
                                        replace q55 := eq_true q55
                                        go_wp2
                                        repeat (go_quiet (fail); try go_wp2)
                                        go_ret2
                                        exact ⟨by first | rfl | (simp; done) | (simp only [← hji44, ← hji48, ← hji52] <;> (first | rfl | simp)) | (simp [*]; done), by repeat (first | exact Drawn0.refl _ | apply Drawn0.step)⟩
                                    · rw [if_neg c54] at H
                                      exact absurd H (by simp)
                                  · rw [if_neg c53] at H
                                    exact absurd H (by simp)
                                · rw [if_neg c50] at H
                                  exact absurd H (by simp)
                              · rw [if_neg c49] at H
                                exact absurd H (by simp)
                            · rw [if_neg c46] at H
                              exact absurd H (by simp)
                          · rw [if_neg c45] at H
                            exact absurd H (by simp)
                        · replace c43 := Bool.eq_false_iff.mpr c43
                          subst c43
                          have H1 : (some (0, 0)) = some (r1, r2) := by rw [if_neg (show ¬ (false = true) by decide)] at H; exact H
                          clear H
                          have H := H1
                          clear H1
                          simp only [Option.some.injEq, Prod.mk.injEq] at H
                          obtain ⟨rfl, rfl⟩ := H
                          go_wp2
                          repeat (go_quiet (fail); try go_wp2)
                          go_ret2
                          exact ⟨by first | rfl | (simp; done) | (simp [*]; done), by repeat (first | exact Drawn0.refl _ | apply Drawn0.step)⟩
    · rw [if_neg c4] at H
      exact absurd H (by simp)
  · rw [if_neg c3] at H
    exact absurd H (by simp)

end Go.Proofs.Ytdpchfifaidamaa.PLedgerTells
